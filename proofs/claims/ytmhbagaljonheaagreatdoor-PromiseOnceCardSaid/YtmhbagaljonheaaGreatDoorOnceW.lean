/- PromiseOnce's states in the law's own memory: what a call hands on. Condition: as OnceC. -/
import Derived.Test.YtmhbagaljonheaaGreatDoorOnceC
namespace Go.Proofs.YtmhbagaljonheaaGreatDoor
open Go Go.Ev Go.RowKit
set_option maxRecDepth 100000
/-- the heap and the jobs of the law, in the small memory -/
def Bound (e : Env) (rh rj : Nat) : Prop := (∃ p, e 99 = some p ∧ p.r = rh ∧ p.d = 0) ∧ (∃ p, e 100 = some p ∧ p.r = rj ∧ p.d = 0)
/-- a state; V: the law's own boxes -/
structure St (a : OnceArgs) (V : List Nat) (rh rj n : Nat) (F : List FB) (W : World) : Prop where
  ex : ∃ e, RL a.sg G0 e ⟨smallH n F, n, ⟨[], []⟩⟩ W ∧ Bound e rh rj ∧ ∀ b p, e b = some p → p.live = true → p.r ∉ V ∧ a.w0.heap.size ≤ p.r
  vlt : ∀ r, r ∈ V → r < W.heap.size
  vlo : ∀ r, r ∈ V → a.w0.heap.size ≤ r
  blw : Below a.w0.heap.size a.w0 W
theorem _root_.Go.Ev.RL.elsewhere {σ : Sg} {e : Env} {m : M} {w w' : World} (hR : RL σ G0 e m w) (hl : ∀ b p, e b = some p → p.live = true → w'.heap[p.r]? = w.heap[p.r]?) (hf : ∀ r o, σ.fx r = some o → w'.heap[r]? = w.heap[r]?) : RL σ G0 e m w' := by
  refine ⟨fun b p cb hb hc => ?_, hR.dom, hR.inj, hR.bnd, hR.glo, fun r o hr => ⟨by rw [hf r o hr]; exact (hR.fix r o hr).1, (hR.fix r o hr).2⟩, hR.pin⟩
  have old := hR.hr b p cb hb hc
  split at old
  · rename_i hlv
    obtain ⟨o, h1, h2⟩ := old
    simp only [hlv, if_true]
    exact ⟨o, by rw [hl _ _ hb hlv]; exact h1, h2⟩
  · rename_i hlv
    simp only [hlv]
    exact old
theorem St.other {a : OnceArgs} {V V' : List Nat} {rh rj n : Nat} {F : List FB} {W W' : World} (hS : St a V rh rj n F W) (hsz : W.heap.size ≤ W'.heap.size) (hk : ∀ r, r < W.heap.size → r ∉ V → W'.heap[r]? = W.heap[r]?)
    (hV : ∀ r, r ∈ V' → r ∈ V ∨ (W.heap.size ≤ r ∧ r < W'.heap.size)) (h1 : W'.os = W.os) (h2 : W'.tape = W.tape) (h3 : W'.output = W.output) : St a V' rh rj n F W' := by
  obtain ⟨⟨e, hR, hB, hE⟩, hlt, hlo, hb⟩ := hS
  have hw0 : a.w0.heap.size ≤ W.heap.size := hb.size
  have lv : ∀ b p, e b = some p → p.live = true → p.r < W.heap.size := fun b p hb hl => hR.lt hb hl
  refine ⟨⟨e, hR.elsewhere (fun b p hb hl => hk _ (lv b p hb hl) (hE b p hb hl).1) (fun r o hr => ?_), hB, fun b p hb hl => ⟨fun hm => ?_, (hE b p hb hl).2⟩⟩, fun r hr => ?_, fun r hr => ?_, ⟨h1.trans hb.os, h2.trans hb.tape, h3.trans hb.output, Nat.le_trans hb.size hsz, fun i hi => ?_⟩⟩
  · have : r < a.w0.heap.size := by
      have hr : (if r < 2 then a.w0.heap[r]? else none) = some o := hr
      split at hr
      · exact (Array.getElem?_eq_some_iff.1 hr).1
      · cases hr
    exact hk r (by omega) fun hm => by have := hlo r hm; omega
  · rcases hV _ hm with h | h
    · exact (hE b p hb hl).1 h
    · have := lv b p hb hl; omega
  · rcases hV r hr with h | h
    · have := hlt r h; omega
    · exact h.2
  · rcases hV r hr with h | h
    · exact hlo r h
    · omega
  · rw [hk i (by omega) fun hm => by have := hlo i hm; omega]
    exact hb.block i hi
theorem Bound.only {e : Env} {rh rj : Nat} {N : Nat → Bool} (h : Bound e rh rj) (h1 : N 99 = true) (h2 : N 100 = true) : Bound (e.only N) rh rj := by
  obtain ⟨⟨p, a1, a2⟩, q, b1, b2⟩ := h
  exact ⟨⟨p, by rw [Env.only_in h1]; exact a1, a2⟩, q, by rw [Env.only_in h2]; exact b1, b2⟩
def has2 (F : List FB) : Bool := inF F 99 && inF F 100
theorem St.call {a : OnceArgs} (ha : a.Ok) {V : List Nat} {rh rj n1 n2 : Nat} {F F' : List FB} {W : World} (hS : St a V rh rj n1 F W) (hO : okF F n1 = true) (hO' : okF F' n2 = true) (hq : has2 F = true) (hq' : has2 F' = true)
    {f : FuncId} {fn : Func} (hfn : Tryz.prog.funcs[f]? = some fn) (hbody : fn.body.isSome = true) {args : List CV} {vk nv nx : Int × Int} {r : CV}
    (hh : (runO (smallH n1 F) n1 f args (tabO vk nv nx) r F').val = true) (hr : clV (inF F') symA symB r = true) (h1 : vk.1 ≤ a.vk ∧ a.vk ≤ vk.2) (h2 : nv.1 ≤ nk a.vk ∧ nk a.vk ≤ nv.2) (h3 : nx.1 ≤ nk a.xk ∧ nk a.xk ≤ nx.2)
    {vs : Array Value} (hv : ∀ e, Bound e rh rj → LR a.sg e args vs.toList) {X : Value} (hX : ∀ e v, VR a.sg e r v → v = X) :
    Calls Tryz.prog f vs W fun en W' => en = .returned X ∧ St a V rh rj n2 F' W' ∧ W.heap.size ≤ W'.heap.size ∧ ∀ r, r ∈ V → W'.heap[r]? = W.heap[r]? := by
  obtain ⟨⟨e, hR, hB, hE⟩, hlt, hlo, hb⟩ := hS
  simp only [has2, Bool.and_eq_true] at hq hq'
  refine (onceTo a ha hO hO' hfn hbody hh hr h1 h2 h3 hR (hv _ (hB.only hq.1 hq.2))).mono fun en W' ⟨v', e', he, hvr, hR', hk, hx⟩ => ?_
  have hw0 : a.w0.heap.size ≤ W.heap.size := hb.size
  refine ⟨by rw [he, hX _ _ hvr], ⟨⟨e', hR', ?_, fun b p hb' hl => ?_⟩, fun r hr => Nat.lt_of_lt_of_le (hlt r hr) hk.siz, hlo, ⟨hk.os.trans hb.os, hk.tap.trans hb.tape, hk.out.trans hb.output, Nat.le_trans hb.size hk.siz, fun i hi => ?_⟩⟩, hk.siz, fun r hr => hk.frm r (hlt r hr) fun b p hb' hl he' => (hE b p hb' hl).1 (he' ▸ hr)⟩
  · obtain ⟨⟨p, a1, a2, a3⟩, q, b1, b2, b3⟩ := hB
    obtain ⟨p', c1, c2, c3, _⟩ := hx 99 p hq.1 hq'.1 a1
    obtain ⟨q', d1, d2, d3, _⟩ := hx 100 q hq.2 hq'.2 b1
    exact ⟨⟨p', c1, c2.trans a2, c3.trans a3⟩, q', d1, d2.trans b2, d3.trans b3⟩
  · rcases hk.rng b p hb' hl with ⟨b0, p0, q1, q2, q3⟩ | h
    · rw [← q3]; exact hE b0 p0 q1 q2
    · exact ⟨fun hm => by have := hlt _ hm; omega, by omega⟩
  · rw [hk.frm i (by omega) fun b p hb' hl he' => by have := (hE b p hb' hl).2; omega]
    exact hb.block i hi
/-- values -/
def vV (a : OnceArgs) : Value := .agg #[.int .i64 a.vk, .int .i64 a.vn, .string a.vs, .int .i64 a.vr]
def vX (a : OnceArgs) : Value := .agg #[.int .i64 a.xk, .int .i64 a.xn, .string a.xs, .int .i64 a.xr]
def vP : Value := .agg #[.int .i64 5, .int .i64 0, .string ⟨#[]⟩, .int .i64 13]
def vQ : Value := .agg #[.int .i64 5, .int .i64 0, .string ⟨#[]⟩, .int .i64 14]
def vNV (a : OnceArgs) : Value := .agg #[.int .i64 (nk a.vk), .int .i64 (ni a.vk a.vn), .string (ns a.vk a.vs), .int .i64 0]
def pt (r : Nat) : Value := .pointer (some ⟨r, 0, none⟩)
theorem vr_h {σ : Sg} {e : Env} {rh rj : Nat} (h : Bound e rh rj) : VR σ e (.ptr 99 0) (pt rh) := by
  obtain ⟨⟨p, a1, a2, a3⟩, _⟩ := h
  have := VR.ptr (σ := σ) (e := e) (b := 99) (o := 0) a1
  rw [a2, a3] at this
  exact this
theorem vr_j {σ : Sg} {e : Env} {rh rj : Nat} (h : Bound e rh rj) : VR σ e (.ptr 100 0) (pt rj) := by
  obtain ⟨_, ⟨p, a1, a2, a3⟩⟩ := h
  have := VR.ptr (σ := σ) (e := e) (b := 100) (o := 0) a1
  rw [a2, a3] at this
  exact this
theorem vr_str0 {σ : Sg} {e : Env} : VR σ e (.str 0 0) (.string ⟨#[]⟩) := .str _ rfl rfl
theorem vr_V (a : OnceArgs) (e : Env) : VR a.sg e aggV (vV a) := (.agg (vs := #[.int .i64 (a.sg.i 0), .int .i64 (a.sg.i 1), .string (a.sg.s 0), .int .i64 (a.sg.i 3)]) rfl (LR.cons (.sym _ 0) (LR.cons (.sym _ 1) (LR.cons (.ssym 0 2 rfl) (LR.cons (.sym _ 3) LR.nil)))).2)
theorem vr_X (a : OnceArgs) (e : Env) : VR a.sg e aggX (vX a) := (.agg (vs := #[.int .i64 (a.sg.i 4), .int .i64 (a.sg.i 5), .string (a.sg.s 1), .int .i64 (a.sg.i 7)]) rfl (LR.cons (.sym _ 4) (LR.cons (.sym _ 5) (LR.cons (.ssym 1 6 rfl) (LR.cons (.sym _ 7) LR.nil)))).2)
theorem vr_P (σ : Sg) (e : Env) : VR σ e aggP vP := .agg (vs := #[.int .i64 5, .int .i64 0, .string ⟨#[]⟩, .int .i64 13]) rfl (LR.cons (.int _ _) (LR.cons (.int _ _) (LR.cons vr_str0 (LR.cons (.int _ _) LR.nil)))).2
theorem vr_Q (σ : Sg) (e : Env) : VR σ e aggQ vQ := .agg (vs := #[.int .i64 5, .int .i64 0, .string ⟨#[]⟩, .int .i64 14]) rfl (LR.cons (.int _ _) (LR.cons (.int _ _) (LR.cons vr_str0 (LR.cons (.int _ _) LR.nil)))).2
theorem str0_inv {σ : Sg} {e : Env} {v : Value} (h : VR σ e (.str 0 0) v) : v = .string ⟨#[]⟩ := by
  cases h with
  | str s hl hc =>
    have : s = ⟨#[]⟩ := by
      have h0 : s.data.size = 0 := hl
      cases s with
      | mk d => simp only at h0; rw [Array.eq_empty_of_size_eq_zero h0]
    rw [this]
theorem int_inv {σ : Sg} {e : Env} {k : IntKind} {n : Int} {v : Value} (h : VR σ e (.int k n) v) : v = .int k n := by cases h; rfl
theorem inv_NV (a : OnceArgs) (e : Env) (v : Value) (h : VR a.sg e aggNV v) : v = vNV a := by
  obtain ⟨x, y, z, u, rfl, g1, g2, g3, g4⟩ := vr_agg4 h
  cases g1; cases g2; cases g3; cases g4
  rfl
theorem inv_ref (n : Int) (σ : Sg) (e : Env) (v : Value) (h : VR σ e (.agg [.int .i64 5, .int .i64 0, .str 0 0, .int .i64 n]) v) : v = .agg #[.int .i64 5, .int .i64 0, .string ⟨#[]⟩, .int .i64 n] := by
  obtain ⟨x, y, z, u, rfl, g1, g2, g3, g4⟩ := vr_agg4 h
  rw [int_inv g1, int_inv g2, str0_inv g3, int_inv g4]
theorem inv_zero (σ : Sg) (e : Env) (v : Value) (h : VR σ e (.agg [.int .i64 0, .int .i64 0, .str 0 0, .int .i64 0]) v) : v = .agg #[.int .i64 0, .int .i64 0, .string ⟨#[]⟩, .int .i64 0] := by
  obtain ⟨x, y, z, u, rfl, g1, g2, g3, g4⟩ := vr_agg4 h
  rw [int_inv g1, int_inv g2, str0_inv g3, int_inv g4]
theorem tup2_inv {σ : Sg} {e : Env} {c d : CV} {v : Value} (h : VR σ e (.tup [c, d]) v) : ∃ x y, v = .tuple #[x, y] ∧ VR σ e c x ∧ VR σ e d y := by
  cases h with
  | @tup _ us hlen hall =>
    obtain ⟨u1, us1, e2, s1, hu1⟩ := (show LR σ e [c, d] us.toList from ⟨hlen, hall⟩).cons_inv
    obtain ⟨u2, us2, rfl, s2, hu2⟩ := hu1.cons_inv
    obtain rfl := hu2.nil_inv
    obtain ⟨l⟩ := us
    obtain rfl : l = [u1, u2] := e2
    exact ⟨u1, u2, rfl, s1, s2⟩
theorem tup3_inv {σ : Sg} {e : Env} {c d f : CV} {v : Value} (h : VR σ e (.tup [c, d, f]) v) : ∃ x y z, v = .tuple #[x, y, z] ∧ VR σ e c x ∧ VR σ e d y ∧ VR σ e f z := by
  cases h with
  | @tup _ us hlen hall =>
    obtain ⟨u1, us1, e2, s1, hu1⟩ := (show LR σ e [c, d, f] us.toList from ⟨hlen, hall⟩).cons_inv
    obtain ⟨u2, us2, rfl, s2, hu2⟩ := hu1.cons_inv
    obtain ⟨u3, us3, rfl, s3, hu3⟩ := hu2.cons_inv
    obtain rfl := hu3.nil_inv
    obtain ⟨l⟩ := us
    obtain rfl : l = [u1, u2, u3] := e2
    exact ⟨u1, u2, u3, rfl, s1, s2, s3⟩
#print axioms St.call
end Go.Proofs.YtmhbagaljonheaaGreatDoor
