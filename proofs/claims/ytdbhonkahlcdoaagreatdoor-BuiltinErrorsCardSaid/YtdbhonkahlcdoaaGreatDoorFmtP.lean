/- strconv.FormatInt of a number whose digits are symbols, as a contract that the evaluator takes. -/
import Derived.Test.YtdbhonkahlcdoaaGreatDoorRunA
import Derived.Test.YtdbhonkahlcdoaaGreatDoorFmtC
namespace Go.Proofs.YtdbhonkahlcdoaaGreatDoor
open Go Go.Ev
set_option maxRecDepth 1000000
/-- a number of k digits, from the unit on -/
def fm (off : Nat) (neg : Bool) (k : Nat) : Ts := match neg, k with
  | false, 1 => [(1, off)]
  | false, 2 => [(1, off), (10, off + 1)]
  | false, 3 => [(1, off), (10, off + 1), (100, off + 2)]
  | false, 4 => [(1, off), (10, off + 1), (100, off + 2), (1000, off + 3)]
  | false, 5 => [(1, off), (10, off + 1), (100, off + 2), (1000, off + 3), (10000, off + 4)]
  | true, 1 => [(-1, off)]
  | true, 2 => [(-1, off), (-10, off + 1)]
  | true, 3 => [(-1, off), (-10, off + 1), (-100, off + 2)]
  | true, 4 => [(-1, off), (-10, off + 1), (-100, off + 2), (-1000, off + 3)]
  | true, 5 => [(-1, off), (-10, off + 1), (-100, off + 2), (-1000, off + 3), (-10000, off + 4)]
  | _, _ => []
def dg (neg : Bool) (k : Nat) : Ivs := match neg, k with
  | false, 1 => [(0, 9), (0, 9), (0, 9), (0, 9), (0, 9)]
  | false, 2 => [(0, 9), (1, 9), (0, 9), (0, 9), (0, 9)]
  | false, 3 => [(0, 9), (0, 9), (1, 9), (0, 9), (0, 9)]
  | false, 4 => [(0, 9), (0, 9), (0, 9), (1, 9), (0, 9)]
  | false, 5 => [(0, 9), (0, 9), (0, 9), (0, 9), (1, 3)]
  | true, 1 => [(1, 9), (0, 9), (0, 9), (0, 9), (0, 9)]
  | true, 2 => [(0, 9), (1, 9), (0, 9), (0, 9), (0, 9)]
  | true, 3 => [(0, 9), (0, 9), (1, 9), (0, 9), (0, 9)]
  | true, 4 => [(0, 9), (0, 9), (0, 9), (1, 9), (0, 9)]
  | true, 5 => [(0, 9), (0, 9), (0, 9), (0, 9), (1, 3)]
  | _, _ => []
/-- its text -/
def dl (off : Nat) (neg : Bool) (k : Nat) : List (Int × Ts) := match neg, k with
  | false, 1 => [(48, [(1, off)])]
  | false, 2 => [(48, [(1, off + 1)]), (48, [(1, off)])]
  | false, 3 => [(48, [(1, off + 2)]), (48, [(1, off + 1)]), (48, [(1, off)])]
  | false, 4 => [(48, [(1, off + 3)]), (48, [(1, off + 2)]), (48, [(1, off + 1)]), (48, [(1, off)])]
  | false, 5 => [(48, [(1, off + 4)]), (48, [(1, off + 3)]), (48, [(1, off + 2)]), (48, [(1, off + 1)]), (48, [(1, off)])]
  | true, 1 => [(45, []), (48, [(1, off)])]
  | true, 2 => [(45, []), (48, [(1, off + 1)]), (48, [(1, off)])]
  | true, 3 => [(45, []), (48, [(1, off + 2)]), (48, [(1, off + 1)]), (48, [(1, off)])]
  | true, 4 => [(45, []), (48, [(1, off + 3)]), (48, [(1, off + 2)]), (48, [(1, off + 1)]), (48, [(1, off)])]
  | true, 5 => [(45, []), (48, [(1, off + 4)]), (48, [(1, off + 3)]), (48, [(1, off + 2)]), (48, [(1, off + 1)]), (48, [(1, off)])]
  | _, _ => []
def ansFmt (off : Nat) (neg : Bool) (k : Nat) (args : List CV) : Option CV := match args with
  | [x, .int .i64 (.ofNat b)] => match Nat.beq b 10 with
    | true => match linOf x with
      | some (kd, c, ts) => match kd with
        | .i64 => match eqI c 0 && eqTs ts (fm off neg k) with
          | true => some (.lstr (dl off neg k))
          | false => none
        | _ => none
      | none => none
    | false => none
  | _ => none
theorem dd {m d : Nat} (hm : 1 ≤ m) (hd : d < 10) : Lib.decDigits (10 * m + d) = Lib.decDigits m ++ [UInt8.ofNat (48 + d)] := by
  rw [Lib.decDigits, dif_neg (by omega)]
  have e1 : (10 * m + d) / 10 = m := by omega
  have e2 : (10 * m + d) % 10 = d := by omega
  rw [e1, e2]
theorem d1 {d : Nat} (hd : d < 10) : Lib.decDigits d = [UInt8.ofNat (48 + d)] := by rw [Lib.decDigits, dif_pos hd]
theorem u8d {d : Nat} (hd : d < 10) : (((UInt8.ofNat (48 + d)).toNat : Nat) : Int) = 48 + (d : Int) := by
  simp only [UInt8.toNat_ofNat']
  omega
theorem itoa_dl {g : Nat → Int} {off : Nat} {neg : Bool} {k : Nat} (hk : 1 ≤ k ∧ k ≤ 5) (hd : SatI (fun i => g (off + i)) (dg neg k)) :
    (Lib.itoa (lfVal g 0 (fm off neg k))).map (fun b => (b.toNat : Int)) = (dl off neg k).map fun f => lfVal g f.1 f.2 := by
  have key : ∀ i : Nat, i < 5 → ∃ lo hi : Int, (dg neg k)[i]? = some (lo, hi) ∧ 0 ≤ lo ∧ hi ≤ 9 ∧ (i + 1 = k → (1 < k ∨ neg = true) → 1 ≤ lo) := by
    intro i hi
    rcases (by omega : k = 1 ∨ k = 2 ∨ k = 3 ∨ k = 4 ∨ k = 5) with rfl | rfl | rfl | rfl | rfl <;> cases neg <;>
      rcases (by omega : i = 0 ∨ i = 1 ∨ i = 2 ∨ i = 3 ∨ i = 4) with rfl | rfl | rfl | rfl | rfl <;>
      exact ⟨_, _, rfl, by decide, by decide, by decide⟩
  have get : ∀ i : Nat, i < 5 → ∃ d : Nat, g (off + i) = (d : Int) ∧ d < 10 ∧ (i + 1 = k → (1 < k ∨ neg = true) → 1 ≤ d) := by
    intro i hi
    obtain ⟨lo, hi', h1, h2, h3, h4⟩ := key i hi
    have h := hd i lo hi' h1
    simp only [] at h
    exact ⟨(g (off + i)).toNat, by omega, by omega, fun q1 q2 => by have := h4 q1 q2; omega⟩
  obtain ⟨d0, e0, b0, l0⟩ := get 0 (by decide)
  obtain ⟨d1', e1, b1, l1⟩ := get 1 (by decide)
  obtain ⟨d2, e2, b2, l2⟩ := get 2 (by decide)
  obtain ⟨d3, e3, b3, l3⟩ := get 3 (by decide)
  obtain ⟨d4, e4, b4, l4⟩ := get 4 (by decide)
  rw [Nat.add_zero] at e0
  have pos : ∀ {n : Nat} {x : Int}, x = (n : Int) → Lib.itoa x = Lib.decDigits n := by
    rintro n x rfl
    unfold Lib.itoa
    rw [if_neg (by omega), Int.toNat_natCast]
  have min : ∀ {n : Nat} {x : Int}, 1 ≤ n → x = -(n : Int) → Lib.itoa x = 45 :: Lib.decDigits n := by
    rintro n x hn rfl
    unfold Lib.itoa
    rw [if_pos (by omega), Int.natAbs_neg, Int.natAbs_natCast]
  rcases (by omega : k = 1 ∨ k = 2 ∨ k = 3 ∨ k = 4 ∨ k = 5) with rfl | rfl | rfl | rfl | rfl <;> cases neg
  · skip
    rw [pos (n := d0) (by simp only [fm, lfVal, tsVal, e0]; omega), d1 b0]
    simp only [dl, List.map_cons, List.map_nil, lfVal, tsVal, u8d b0, e0]
    simp
  · have hl : 1 ≤ d0 := l0 rfl (by simp)
    rw [min (n := d0) (by omega) (by simp only [fm, lfVal, tsVal, e0]; omega), d1 b0]
    simp only [dl, List.map_cons, List.map_nil, lfVal, tsVal, u8d b0, e0]
    simp
  · have hl : 1 ≤ d1' := l1 rfl (by simp)
    rw [pos (n := (10 * d1' + d0)) (by simp only [fm, lfVal, tsVal, e0, e1]; omega), dd (by omega) b0, d1 b1]
    simp only [dl, List.map_cons, List.map_nil, List.cons_append, List.nil_append, lfVal, tsVal, u8d b0, u8d b1, e0, e1]
    simp
  · have hl : 1 ≤ d1' := l1 rfl (by simp)
    rw [min (n := (10 * d1' + d0)) (by omega) (by simp only [fm, lfVal, tsVal, e0, e1]; omega), dd (by omega) b0, d1 b1]
    simp only [dl, List.map_cons, List.map_nil, List.cons_append, List.nil_append, lfVal, tsVal, u8d b0, u8d b1, e0, e1]
    simp
  · have hl : 1 ≤ d2 := l2 rfl (by simp)
    rw [pos (n := (10 * (10 * d2 + d1') + d0)) (by simp only [fm, lfVal, tsVal, e0, e1, e2]; omega), dd (by omega) b0, dd (by omega) b1, d1 b2]
    simp only [dl, List.map_cons, List.map_nil, List.cons_append, List.nil_append, lfVal, tsVal, u8d b0, u8d b1, u8d b2, e0, e1, e2]
    simp
  · have hl : 1 ≤ d2 := l2 rfl (by simp)
    rw [min (n := (10 * (10 * d2 + d1') + d0)) (by omega) (by simp only [fm, lfVal, tsVal, e0, e1, e2]; omega), dd (by omega) b0, dd (by omega) b1, d1 b2]
    simp only [dl, List.map_cons, List.map_nil, List.cons_append, List.nil_append, lfVal, tsVal, u8d b0, u8d b1, u8d b2, e0, e1, e2]
    simp
  · have hl : 1 ≤ d3 := l3 rfl (by simp)
    rw [pos (n := (10 * (10 * (10 * d3 + d2) + d1') + d0)) (by simp only [fm, lfVal, tsVal, e0, e1, e2, e3]; omega), dd (by omega) b0, dd (by omega) b1, dd (by omega) b2, d1 b3]
    simp only [dl, List.map_cons, List.map_nil, List.cons_append, List.nil_append, lfVal, tsVal, u8d b0, u8d b1, u8d b2, u8d b3, e0, e1, e2, e3]
    simp
  · have hl : 1 ≤ d3 := l3 rfl (by simp)
    rw [min (n := (10 * (10 * (10 * d3 + d2) + d1') + d0)) (by omega) (by simp only [fm, lfVal, tsVal, e0, e1, e2, e3]; omega), dd (by omega) b0, dd (by omega) b1, dd (by omega) b2, d1 b3]
    simp only [dl, List.map_cons, List.map_nil, List.cons_append, List.nil_append, lfVal, tsVal, u8d b0, u8d b1, u8d b2, u8d b3, e0, e1, e2, e3]
    simp
  · have hl : 1 ≤ d4 := l4 rfl (by simp)
    rw [pos (n := (10 * (10 * (10 * (10 * d4 + d3) + d2) + d1') + d0)) (by simp only [fm, lfVal, tsVal, e0, e1, e2, e3, e4]; omega), dd (by omega) b0, dd (by omega) b1, dd (by omega) b2, dd (by omega) b3, d1 b4]
    simp only [dl, List.map_cons, List.map_nil, List.cons_append, List.nil_append, lfVal, tsVal, u8d b0, u8d b1, u8d b2, u8d b3, u8d b4, e0, e1, e2, e3, e4]
    simp
  · have hl : 1 ≤ d4 := l4 rfl (by simp)
    rw [min (n := (10 * (10 * (10 * (10 * d4 + d3) + d2) + d1') + d0)) (by omega) (by simp only [fm, lfVal, tsVal, e0, e1, e2, e3, e4]; omega), dd (by omega) b0, dd (by omega) b1, dd (by omega) b2, dd (by omega) b3, d1 b4]
    simp only [dl, List.map_cons, List.map_nil, List.cons_append, List.nil_append, lfVal, tsVal, u8d b0, u8d b1, u8d b2, u8d b3, u8d b4, e0, e1, e2, e3, e4]
    simp
/-- the contracts, with this one -/
def withFmt (A : AnsT) (off : Nat) (neg : Bool) (k : Nat) : AnsT := fun g => match Nat.beq g 83 with
  | true => some (ansFmt off neg k)
  | false => A g
section
variable {σ : Sg} {w0 : World}
theorem fmt_goes {n : Int} (hn : -9223372036854775808 ≤ n ∧ n ≤ 9223372036854775807) {bs : List (Int × Ts)} (hb : (Lib.itoa n).map (fun b => (b.toNat : Int)) = bs.map fun f => lfVal σ.i f.1 f.2) (e : Env) (w : World) (hL : Libs w) (kd : CallKind) (c : Frame) (cs : List Frame) (hk : KindOK (.func 83) kd c) :
    ∃ v' w', CallGoes Tryz.prog kd c cs (CallSem (.func 83) #[.int .i64 n, .int .i64 10]) w v' w' ∧ VR σ e (.lstr bs) v' ∧ RowKit.Below w.heap.size w w' := by
  obtain ⟨cb, hcb⟩ : ∃ cb, Tryz.f83.body = some cb := Option.isSome_iff_exists.1 (by kernel_rfl)
  refine goes_of_wp (Φ := fun v' w' => VR σ e (.lstr bs) v' ∧ RowKit.Below w.heap.size w w') noCount Tryz.func83 hcb ?_ (fmt_wp cb hcb n hn w hL.pw) kd c cs hk
  rintro en w' ⟨h1, h2⟩
  exact ⟨_, h1, .lstr _ _ (by simpa using hb), h2⟩
theorem ansFmt_ok {A : AnsT} (hA : AnsOk Tryz.prog σ A) {off : Nat} {neg : Bool} {k : Nat} (hk : 1 ≤ k ∧ k ≤ 5) (hd : SatI (fun i => σ.i (off + i)) (dg neg k)) (hn : -9223372036854775808 ≤ lfVal σ.i 0 (fm off neg k) ∧ lfVal σ.i 0 (fm off neg k) ≤ 9223372036854775807)
    (hL : Libs w0) (hfx : ∀ r o, fixed r = true → w0.heap[r]? = some o → σ.fx r = some o) : AnsOk Tryz.prog σ (withFmt A off neg k) := by
  intro g ans args v hg hv e w vs kd c cs hl hx hkk
  unfold withFmt at hg
  split at hg
  · rename_i h
    obtain rfl : g = 83 := by simpa using h
    obtain rfl := Option.some.inj hg
    unfold ansFmt at hv
    split at hv
    · rename_i x b
      split at hv
      · rename_i hb
        obtain rfl : b = 10 := by simpa using hb
        split at hv
        · rename_i kd' c' ts hlin
          split at hv
          · split at hv
            · rename_i hq
              simp only [eqI_eq, Bool.and_eq_true, decide_eq_true_eq] at hq
              obtain ⟨rfl, hts⟩ := hq
              obtain rfl := eqTs_eq hts
              obtain rfl := Option.some.inj hv
              have libs : Libs w := hL.of_fx fun r o hr h => hx r o (hfx r o hr h)
              obtain ⟨u, us, hu, r1, r2⟩ := hl.cons_inv
              obtain ⟨u', us', hu', r3, r4⟩ := r2.cons_inv
              obtain rfl := r4.nil_inv
              subst hu'
              have hvs : vs = #[u, u'] := by apply Array.ext'; exact hu
              subst hvs
              obtain rfl := linOf_inv hlin r1
              cases r3
              exact fmt_goes hn (itoa_dl hk hd) e w libs kd c cs hkk
            · cases hv
          · cases hv
        · cases hv
      · cases hv
    · cases hv
  · exact hA g ans args v hg hv e w vs kd c cs hl hx hkk
end
end Go.Proofs.YtdbhonkahlcdoaaGreatDoor
