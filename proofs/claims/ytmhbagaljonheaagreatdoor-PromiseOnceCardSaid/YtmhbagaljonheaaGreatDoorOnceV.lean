/- PromiseOnce: the first call, and how the heap and the jobs come into the small memory. Condition: as OnceC. -/
import Derived.Test.YtmhbagaljonheaaGreatDoorOnceW
namespace Go.Proofs.YtmhbagaljonheaaGreatDoor
open Go Go.Ev Go.RowKit
set_option maxRecDepth 100000
theorem row_br {σ : Sg} {e : Env} {b te el r : Nat} {l : List CV} {c : Array Value} (h : LR σ e l c.toList) (ht : TE te el) : BR σ e (FB.cb ⟨b, te, false, 0, l⟩) ⟨r, 0, 0, true⟩ (.cells c el (0, 0)) := by
  have hl : c.size = l.length := by rw [h.1]; simp
  refine .cells (by show c.size = 0 + l.length + 0 * 0; omega) (fun _ => ⟨rfl, rfl⟩) (fun i hi => ?_) (fun i hi => ?_) (.inl rfl) ht
  · rw [ofList_get]; exact List.getElem?_eq_none hi
  · replace hi : i < l.length := hi
    have h1 : l[i]? = some l[i] := List.getElem?_eq_getElem hi
    have h2 : c.toList[i]? = some (c[i]'(by omega)) := by simp [Array.getElem?_eq_getElem (show i < c.size by omega)]
    refine ⟨l[i], c[i]'(by omega), by rw [ofList_get]; exact h1, ?_, h.2 i _ _ h1 h2⟩
    show c[0 + i]? = _
    rw [Nat.zero_add]
    exact Array.getElem?_eq_getElem (by omega)
theorem push_get (L : List CB) (cb : CB) (n : Nat) (hn : L.length = n) (j : Nat) : (ofList (L ++ [cb])).get? j = if j = n then some cb else (ofList L).get? j := by
  rw [ofList_get, ofList_get, List.getElem?_append]
  by_cases h : j = n
  · rw [if_pos h, if_neg (by omega), h, ← hn]; simp
  · rw [if_neg h]
    split
    · rfl
    · rw [List.getElem?_eq_none (by simp; omega), List.getElem?_eq_none (by omega)]
theorem gets_of {σ : Sg} {e e' : Env} (h : ∀ b p, e b = some p → e' b = some p) {l : List CV} {c : List Value} (hl : LR σ e l c) : LR σ e' l c :=
  ⟨hl.1, fun i cv v h1 h2 => (hl.2 i cv v h1 h2).mono fun b p hb => ⟨p, h b p hb, rfl, rfl, rfl, id⟩⟩
def f99 : FB := ⟨99, 41, false, 0, [.int .i64 0, .int .i64 0, .sl 94 0 12 12, .sl0, .int .i64 12, .int .i64 12, .int .i64 11, .sl 10 0 12 12]⟩
def f100 : FB := ⟨100, 75, false, 0, [.sl0]⟩
theorem fA0_eq : fA0 = fA00 ++ [f99, f100] := rfl
/-- after the first call -/
def St0 (a : OnceArgs) (V : List Nat) (c : Array Value) (W : World) : Prop :=
  (∃ e, RL a.sg G0 e ⟨smallH 99 fA00, 99, ⟨[], []⟩⟩ W ∧ LR a.sg e f99.l c.toList ∧ ∀ b p, e b = some p → p.live = true → p.r ∉ V ∧ a.w0.heap.size ≤ p.r) ∧ (∀ r, r ∈ V → r < W.heap.size) ∧ (∀ r, r ∈ V → a.w0.heap.size ≤ r) ∧ Below a.w0.heap.size a.w0 W
theorem St0.start {a : OnceArgs} {V : List Nat} {c : Array Value} {W : World} (h : St0 a V c W) : St a V W.heap.size (W.heap.size + 1) 101 fA0 ((W.alloc (.cells c 40 (0, 0))).alloc (.cells #[.slice none 0 0] 74 (0, 0))) := by
  obtain ⟨⟨e, hR, hc, hE⟩, hlt, hlo, hb⟩ := h
  obtain ⟨L, hL, hLl⟩ : ∃ L : List CB, smallH 99 fA00 = ofList L ∧ L.length = 99 := ⟨_, rfl, by simp⟩
  have hR : RL a.sg G0 e ⟨ofList L, 99, ⟨[], []⟩⟩ W := by rw [← hL]; exact hR
  have h1 := (hR.new (dr := W.drawn) (row_br (b := 99) hc (TE.succ 40)) (push_get L _ 99 hLl)).1
  have h2 := (h1.new (dr := W.drawn) (row_br (b := 100) (el := 74) (c := #[.slice none 0 0]) (l := [.sl0]) (LR.cons .sl0 LR.nil) (TE.succ 74)) (push_get _ _ 100 (by simp [hLl]))).1
  have hF : IsF fA0 (ofList ((L ++ [f99.cb]) ++ [f100.cb])) := by
    intro f hf
    rw [fA0_eq, List.mem_append] at hf
    refine ⟨f.cb, ?_, f.isB⟩
    rcases hf with hf | hf
    · have hl := (okF_ok okA00).lt f hf
      have := (okF_ok okA00).hb f hf
      rw [push_get _ _ 100 (by simp [hLl]), if_neg (by omega), push_get L _ 99 hLl, if_neg (by omega), ← hL]
      exact this
    · rcases List.mem_cons.1 hf with rfl | hf
      · rw [push_get _ _ 100 (by simp [hLl]), if_neg (by decide), push_get L _ 99 hLl]; rfl
      · obtain rfl := List.mem_singleton.1 hf
        rw [push_get _ _ 100 (by simp [hLl])]; rfl
  have h3 := RL.view (okF_ok okA0) h2 hF ⟨[], []⟩ (σ' := a.sg) (fun _ _ => rfl) (fun _ _ => rfl) rfl (fun _ => rfl)
  have hw0 : a.w0.heap.size ≤ W.heap.size := hb.size
  have hsz : (W.heap.push (Obj.cells c 40 (0, 0))).size = W.heap.size + 1 := Array.size_push ..
  refine ⟨⟨_, h3, ⟨⟨⟨W.heap.size, 0, 0, true⟩, ?_, rfl, rfl⟩, ⟨W.heap.size + 1, 0, 0, true⟩, ?_, rfl, rfl⟩, fun b p hb' hl => ?_⟩, fun r hr => ?_, hlo, ?_⟩
  · rw [Env.only_in (by kernel_rfl)]
    simp [Env.up]
  · rw [Env.only_in (by kernel_rfl)]
    simp [Env.up]
  · have hb' := (Env.only_some hb').2
    by_cases q1 : b = 100
    · subst q1
      simp only [Env.up, if_true] at hb'
      obtain rfl := Option.some.inj hb'
      simp only [hsz]
      exact ⟨fun hm => by have := hlt _ hm; omega, by omega⟩
    · by_cases q2 : b = 99
      · subst q2
        simp [Env.up] at hb'
        subst hb'
        exact ⟨fun hm => by have := hlt _ hm; simp at this, hw0⟩
      · simp [Env.up, q1, q2] at hb'
        exact hE b p hb' hl
  · have := hlt r hr
    show r < ((W.heap.push _).push _).size
    simp only [Array.size_push]; omega
  · exact (hb.alloc hw0 _).alloc (by show _ ≤ (W.heap.push _).size; rw [hsz]; omega) _
theorem St0.new (a : OnceArgs) (ha : a.Ok) (V : List Nat) (W1 : World) (hlt : ∀ r, r ∈ V → r < W1.heap.size) (hlo : ∀ r, r ∈ V → a.w0.heap.size ≤ r) (hB : Below a.w0.heap.size a.w0 W1) :
    Calls Tryz.prog 8 #[.agg #[.int .i64 0, .int .i64 0]] W1 fun en W2 => ∃ r1 d1 s1 r2 d2 s2, en = .returned (.agg #[.int .i64 0, .int .i64 0, .slice (some ⟨r1, d1, none⟩) 12 s1, .slice none 0 0, .int .i64 12, .int .i64 12, .int .i64 11, .slice (some ⟨r2, d2, none⟩) 12 s2]) ∧
      St0 a V #[.int .i64 0, .int .i64 0, .slice (some ⟨r1, d1, none⟩) 12 s1, .slice none 0 0, .int .i64 12, .int .i64 12, .int .i64 11, .slice (some ⟨r2, d2, none⟩) 12 s2] W2 ∧ W1.heap.size ≤ W2.heap.size ∧ ∀ r, r ∈ V → W2.heap[r]? = W1.heap[r]? := by
  obtain ⟨cb, hcb⟩ : ∃ cb, Tryz.f8.body = some cb := Option.isSome_iff_exists.1 (by kernel_rfl)
  have hvk := ha.vk
  have kv := nk_range a.vk
  have kx := nk_range a.xk
  obtain ⟨v, m', k1, k2⟩ := calls_of_eval noCount (onceCall a ha) Tryz.func8 hcb (runO_at rNew) (a.sat ha _ _ _ hvk ⟨kv.1, kv.2.1⟩ ⟨kx.1, kx.2.1⟩)
  unfold isRP at k1
  split at k1
  · rename_i hc
    have hc := cvBeq_eq _ _ hc
    subst hc
    refine (k2 (fun _ => none) W1 _ (RL.empty _ _ _ _ (fun r o hr => ?_) fun _ => rfl) (LR.cons (.agg (vs := #[.int .i64 0, .int .i64 0]) rfl (LR.cons (.int _ _) (LR.cons (.int _ _) LR.nil)).2) LR.nil)).mono fun en W2 ⟨v', e', he, hvr, hR', hk⟩ => ?_
    · have hr : (if r < 2 then a.w0.heap[r]? else none) = some o := hr
      split at hr
      · rw [hB.block r (Array.getElem?_eq_some_iff.1 hr).1]; exact hr
      · cases hr
    · have hv0 := RL.view (okF_ok okA00) hR' (chkF_is k1) ⟨[], []⟩ (σ' := a.sg) (fun _ _ => rfl) (fun _ _ => rfl) rfl (fun _ => rfl)
      have hvr2 : VR a.sg (e'.only (inF fA00)) (.agg [.int .i64 0, .int .i64 0, .sl 94 0 12 12, .sl0, .int .i64 12, .int .i64 12, .int .i64 11, .sl 10 0 12 12]) v' :=
        VR.closedV (N := inF fA00) (A := fun _ => false) (B := fun _ => false) (fun _ h => by cases h) (fun _ h => by cases h) (fun b p hN hp => ⟨p, by rw [Env.only_in hN]; exact hp, rfl, rfl, rfl⟩) hvr (by kernel_rfl)
      cases hvr2 with
      | @agg _ us hlen hall =>
        have hl : LR a.sg (e'.only (inF fA00)) f99.l us.toList := ⟨hlen, hall⟩
        obtain ⟨u1, us1, e1, q1, h1⟩ := hl.cons_inv
        obtain ⟨u2, us2, e2, q2, h2⟩ := h1.cons_inv
        obtain ⟨u3, us3, e3, q3, h3⟩ := h2.cons_inv
        obtain ⟨u4, us4, e4, q4, h4⟩ := h3.cons_inv
        obtain ⟨u5, us5, e5, q5, h5⟩ := h4.cons_inv
        obtain ⟨u6, us6, e6, q6, h6⟩ := h5.cons_inv
        obtain ⟨u7, us7, e7, q7, h7⟩ := h6.cons_inv
        obtain ⟨u8, us8, e8, q8, h8⟩ := h7.cons_inv
        obtain rfl := h8.nil_inv
        subst e2 e3 e4 e5 e6 e7 e8
        obtain ⟨us⟩ := us
        obtain rfl : us = _ := e1
        obtain rfl := int_inv q1
        obtain rfl := int_inv q2
        obtain rfl := int_inv q5
        obtain rfl := int_inv q6
        obtain rfl := int_inv q7
        cases q3 with
        | @sl _ _ _ _ p hp =>
          cases q4
          cases q8 with
          | @sl _ _ _ _ p' hp' =>
            refine ⟨_, _, _, _, _, _, he, ⟨⟨_, hv0, hl, fun b p hb hlv => ?_⟩, fun r hr => Nat.lt_of_lt_of_le (hlt r hr) hk.siz, hlo, ⟨hk.os.trans hB.os, hk.tap.trans hB.tape, hk.out.trans hB.output, Nat.le_trans hB.size hk.siz, fun i hi => ?_⟩⟩, hk.siz, fun r hr => hk.frm r (hlt r hr) fun b p hb => by cases hb⟩
            · have := hB.size
              rcases hk.rng b p (Env.only_some hb).2 hlv with ⟨b0, p0, q1, _⟩ | h
              · cases q1
              · exact ⟨fun hm => by have := hlt _ hm; omega, by omega⟩
            · have := hB.size
              rw [hk.frm i (by omega) fun b p hb => by cases hb]
              exact hB.block i hi
  · cases k1
#print axioms St0.start
#print axioms St0.new
end Go.Proofs.YtmhbagaljonheaaGreatDoor
