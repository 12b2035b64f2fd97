/- PromisePlays: properties, faults, Resolve, Reject, New and Then, walked. Condition: the bounds that each theorem names. -/
import Derived.Test.YtcceopgaiffkmaaGreatDoorPlD
/- place: the index of a property. -/
namespace Go.Proofs.YtcceopgaiffkmaaGreatDoor
open Go Go.RowKit Go.Pl
set_option maxRecDepth 100000
theorem key_calls (w : World) (B : Nat) (ky key : ByteArray) (k n x : Int) (s : ByteArray) (hB : w.cell? ⟨B, 0, none⟩ = some (.string key)) (b : Bool) (hb : (ky.toList == key.toList) = b) :
    Calls Tryz.prog 78 #[.agg #[.string ky, .int .i64 k, .int .i64 n, .string s, .int .i64 x], .pointer (some ⟨B, 0, none⟩)] w (fun e w' => e = .returned (.bool b) ∧ Below w.heap.size w w') := by
  have lB : B < w.heap.size := World.block_lt_of_cell? w _ hB
  go_enter Tryz.func78, Tryz.ntmps78
  go_wp2
  go_ret
  exact ⟨rfl, (Below.refl w.heap.size w).alloc (Nat.le_refl _) _⟩
/-- a row of properties -/
def PrRow (w : World) (r d n : Nat) (ky : Nat → ByteArray) (f : Nat → Nat → Value) : Prop := ∀ i, i < n → w.cell? ⟨r, d + i * 5, none⟩ = some (.string (ky i)) ∧ ∃ (k m x : Int) (s : ByteArray), f i 0 = .int .i64 k ∧ f i 1 = .int .i64 m ∧ f i 2 = .string s ∧ f i 3 = .int .i64 x ∧ At4 w r (d + i * 5 + 1) (f i)
theorem PrRow.below {w w' : World} {r d n : Nat} {ky : Nat → ByteArray} {f : Nat → Nat → Value} (h : PrRow w r d n ky f) (hb : Below w.heap.size w w') : PrRow w' r d n ky f := fun i hi => by
  obtain ⟨h1, k, m, x, s, a, b, c, e, h2⟩ := h i hi
  exact ⟨keepc hb h1, k, m, x, s, a, b, c, e, fun c hc => keepc hb (h2 c hc)⟩
set_option maxHeartbeats 2000000 in
theorem index_calls (w : World) (ao : Option Addr) (n cap m B : Nat) (key : ByteArray) (ky : Nat → ByteArray) (f : Nat → Nat → Value) (hr : ∀ i, i < n → ∃ r d, ao = some ⟨r, d, none⟩ ∧ PrRow w r d n ky f) (hB : w.cell? ⟨B, 0, none⟩ = some (.string key)) (hn : n ≤ 100) (hm : m ≤ n) (hlt : ∀ i, i < m → ((ky i).toList == key.toList) = false) (hmm : m < n → ((ky m).toList == key.toList) = true) :
    Calls Tryz.prog 77 #[.slice ao n cap, .func (Fn.func 78) #[] #[.pointer (some ⟨B, 0, none⟩)]] w (fun e w' => e = .returned (.int .i64 (if m < n then m else -1)) ∧ Below w.heap.size w w') := by
  have hz : (0 : Int) ≤ n := by omega
  obtain ⟨R, hR⟩ : ∃ R : Int, R = (if m < n then (m : Int) else -1) := ⟨_, rfl⟩
  rw [← hR]
  have hRH : Hide (R = (if m < n then (m : Int) else -1)) := ⟨hR⟩
  clear hR
  go_enter Tryz.func77, Tryz.ntmps77
  go_wp2_with fail
  go_loopw [8] (fun iv wr => ∃ q : Nat, iv = .int .i64 q ∧ q ≤ m ∧ Below w.heap.size w wr) (fun iv _ => match iv with | .int _ k => n - k.toNat | _ => 0)
  case atStart => exact ⟨0, rfl, Nat.zero_le _, Below.refl _ _⟩
  case round =>
    obtain ⟨q, rfl, hq, hbw⟩ := hrel
    by_cases hqn : q < n
    · obtain ⟨r, d, rfl, hrow⟩ := hr q hqn
      obtain ⟨h0, k, mm, x, s, e0, e1, e2, e3, h4⟩ := (hrow.below hbw) q hqn
      have t1 : wr.cell? ⟨r, d + q * 5 + 1, none⟩ = some (.int .i64 k) := by rw [← e0]; exact h4 0 (by decide)
      have t2 : wr.cell? ⟨r, d + q * 5 + 2, none⟩ = some (.int .i64 mm) := by rw [← e1]; exact h4 1 (by decide)
      have t3 : wr.cell? ⟨r, d + q * 5 + 3, none⟩ = some (.string s) := by rw [← e2]; exact h4 2 (by decide)
      have t4 : wr.cell? ⟨r, d + q * 5 + 4, none⟩ = some (.int .i64 x) := by rw [← e3]; exact h4 3 (by decide)
      have hqz : (q : Int) < n := by omega
      have hBr := keepc hbw hB
      clear e0 e1 e2 e3 h4
      by_cases hqm : q < m
      · go_wp2_with fail
        refine (key_calls wr B (ky q) key k mm x s hBr false (hlt q hqm)).mono ?_
        rintro e w2 ⟨rfl, hb2⟩
        go_wp2_with fail
        refine ⟨⟨q + 1, by simp, by omega, below_then hbw hb2⟩, ?_⟩
        show n - ((q : Int) + 1).toNat < n - (q : Int).toNat
        omega
      · obtain rfl : q = m := by omega
        go_wp2_with fail
        refine (key_calls wr B (ky q) key k mm x s hBr true (hmm hqn)).mono ?_
        rintro e w2 ⟨rfl, hb2⟩
        go_wp2_with fail
        go_ret
        refine ⟨?_, below_then hbw hb2⟩
        have := hRH.out
        rw [if_pos hqn] at this
        rw [this]; rfl
    · have hqz : ¬ (q : Int) < n := by omega
      obtain rfl : q = m := by omega
      go_wp2_with fail
      go_ret
      refine ⟨?_, hbw⟩
      have := hRH.out
      rw [if_neg hqn] at this
      rw [this]; rfl
theorem place_calls (w : World) (g o : Nat) (ao : Option Addr) (n cap m : Nat) (key : ByteArray) (ky : Nat → ByteArray) (f : Nat → Nat → Value) (h : w.cell? ⟨g, o + 2, none⟩ = some (.slice ao n cap)) (hr : ∀ i, i < n → ∃ r d, ao = some ⟨r, d, none⟩ ∧ PrRow w r d n ky f) (hn : n ≤ 100) (hm : m ≤ n) (hlt : ∀ i, i < m → ((ky i).toList == key.toList) = false) (hmm : m < n → ((ky m).toList == key.toList) = true) :
    Calls Tryz.prog 54 #[.pointer (some ⟨g, o, none⟩), .string key] w (fun e w' => e = .returned (.int .i64 (if m < n then m else -1)) ∧ Below w.heap.size w w') := by
  have lg : g < w.heap.size := World.block_lt_of_cell? w _ h
  have hB := (Below.refl w.heap.size w).alloc (Nat.le_refl _) (.cells #[.string key] 9)
  obtain ⟨R, hR⟩ : ∃ R : Int, R = (if m < n then (m : Int) else -1) := ⟨_, rfl⟩
  have ic := fun W h1 h2 => index_calls W ao n cap m w.heap.size key ky f h1 h2 hn hm hlt hmm
  rw [← hR]
  rw [← hR] at ic
  clear hR
  go_enter Tryz.func54, Tryz.ntmps54
  go_wp2_with fail
  refine (ic _ (fun i hi => ?_) (cell_blk (hallocn _ _) 0)).mono ?_
  · obtain ⟨r, d, h1, h2⟩ := hr i hi
    exact ⟨r, d, h1, h2.below hB⟩
  rintro e w2 ⟨rfl, hb2⟩
  go_wp2
  go_ret
  exact ⟨rfl, below_then hB hb2⟩
set_option maxHeartbeats 4000000 in
theorem own_calls {w : World} {H g d n cap : Nat} {S : Nat → Nat → Value} (h : HB w H g d n cap S) (i : Nat) (hi : i < n) (hn : n < 100000) (hu : S i 0 = .bool true) (h1 : S i 1 = .int .i64 11) (r dd pn pc m : Nat) (h3 : S i 3 = .slice (some ⟨r, dd, none⟩) pn pc)
    (key : ByteArray) (ky : Nat → ByteArray) (f : Nat → Nat → Value) (hr : PrRow w r dd pn ky f) (hp : pn ≤ 100) (hm : m < pn) (hlt : ∀ i, i < m → ((ky i).toList == key.toList) = false) (hmm : ((ky m).toList == key.toList) = true)
    (k mm x : Int) (s : ByteArray) (e0 : f m 0 = .int .i64 k) (e1 : f m 1 = .int .i64 mm) (e2 : f m 2 = .string s) (e3 : f m 3 = .int .i64 x) :
    Calls Tryz.prog 31 #[.pointer (some ⟨H, 0, none⟩), .int .i64 (4 + 6 * (i : Int)), .string key] w (fun e w' => e = .returned (.tuple #[.agg #[.int .i64 k, .int .i64 mm, .string s, .int .i64 x], .bool true]) ∧ Below w.heap.size w w') := by
  have hB := (Below.refl w.heap.size w).alloc (Nat.le_refl _) (.cells #[.int .i64 0, .int .i64 0, .string ⟨#[]⟩, .int .i64 0] 38)
  have h' := h.below hB
  have pc' := fun W (hc : W.cell? ⟨g, d + i * 11 + 1 + 2, none⟩ = some (.slice (some ⟨r, dd, none⟩) pn pc)) (hrw : PrRow W r dd pn ky f) => place_calls W g (d + i * 11 + 1) (some ⟨r, dd, none⟩) pn pc m key ky f hc (fun _ _ => ⟨r, dd, rfl, hrw⟩) hp (Nat.le_of_lt hm) hlt (fun _ => hmm)
  rw [if_pos hm] at pc'
  have hmz : (m : Int) < pn := by omega
  go_enter Tryz.func31, Tryz.ntmps31
  go_wp2_with fail
  refine (heapAt h' i hi hn hu).mono ?_
  rintro e w2 ⟨rfl, hb2⟩
  obtain ⟨g0, hB2, hz⟩ := boxes1 hb2
  have h2 := h.below hB2
  have u1 := h2.row.cell hi (show 1 < 11 by decide)
  rw [h1] at u1
  have u3 : w2.cell? ⟨g, d + i * 11 + 1 + 2, none⟩ = some (S i 3) := h2.row.cell hi (show 3 < 11 by decide)
  rw [h3] at u3
  have hr2 := hr.below hB2
  go_wp2_with fail
  refine (pc' _ u3 hr2).mono ?_
  rintro e w3 ⟨rfl, hb3⟩
  have v3 := keepc hb3 u3
  obtain ⟨_, k', mm', x', s', a0, a1, a2, a3, h4⟩ := (hr2.below hb3) m hm
  have t1 : w3.cell? ⟨r, dd + m * 5 + 1, none⟩ = some (.int .i64 k) := by rw [← e0]; exact h4 0 (by decide)
  have t2 : w3.cell? ⟨r, dd + m * 5 + 1 + 1, none⟩ = some (.int .i64 mm) := by rw [← e1]; exact h4 1 (by decide)
  have t3 : w3.cell? ⟨r, dd + m * 5 + 1 + 2, none⟩ = some (.string s) := by rw [← e2]; exact h4 2 (by decide)
  have t4 : w3.cell? ⟨r, dd + m * 5 + 1 + 3, none⟩ = some (.int .i64 x) := by rw [← e3]; exact h4 3 (by decide)
  have g3 := keep hb3 g0
  obtain ⟨f0, f1, f2, f3⟩ := free4 g3
  obtain ⟨c0, c1, c2, c3⟩ := cells4 g3
  clear a0 a1 a2 a3 h4 e0 e1 e2 e3 u1 u3
  go_wp2
  have q1 := set4 (.int .i64 k) (.int .i64 mm) (.string s) (.int .i64 x) g3
  refine bodyPost_ret (results_row_tmp rfl _ _ w.heap.size 38 _ (0, 0) _ rfl q1 Tryz.underlying38 rfl i38) rfl ?_
  exact ⟨rfl, below_set4 (below_then hB2 hb3) (Nat.le_refl _) _ _ _ _⟩
end Go.Proofs.YtcceopgaiffkmaaGreatDoor

/- The law's fault: the error of a promise of itself. -/
namespace Go.Proofs.YtcceopgaiffkmaaGreatDoor
open Go Go.RowKit Go.Pl
set_option maxRecDepth 100000
theorem repType : repairOf sType = sType := by kernel_rfl
theorem repSelf : repairOf sSelf = sSelf := by kernel_rfl
theorem textT (w : World) (hT : Tabs w) : Calls Tryz.prog 32 #[.string ⟨#[84, 121, 112, 101, 69, 114, 114, 111, 114]⟩] w (fun e w' => e = .returned (.agg #[.int .i64 4, .int .i64 0, .string sType, .int .i64 0]) ∧ Below w.heap.size w w') := by
  have := text_calls sType w (by decide) hT
  rw [repType] at this
  exact this
theorem textS (w : World) (hT : Tabs w) : Calls Tryz.prog 32 #[.string ⟨#[97, 32, 112, 114, 111, 109, 105, 115, 101, 32, 111, 102, 32, 105, 116, 115, 101, 108, 102]⟩] w (fun e w' => e = .returned (.agg #[.int .i64 4, .int .i64 0, .string sSelf, .int .i64 0]) ∧ Below w.heap.size w w') := by
  have := text_calls sSelf w (by decide) hT
  rw [repSelf] at this
  exact this
/-- the properties of the error -/
def eky (i : Nat) : ByteArray := if i = 0 then sName else sMsg
def ekv (i : Nat) : Nat → Value := if i = 0 then pv (.nv 4 0 sType) else pv (.nv 4 0 sSelf)
theorem err_row {lab : Nat → Lab} {K : PK} {w : World} {e : Nat} (h : ErrOk lab K w e) : ∃ r d c, K.S e 3 = .slice (some ⟨r, d, none⟩) 2 c ∧ PrRow w r d 2 eky ekv := by
  obtain ⟨_, _, _, r, d, c, h4, _, h6, h7, h8, h9⟩ := h
  refine ⟨r, d, c, h4, fun i hi => ?_⟩
  match i, hi with
  | 0, _ => exact ⟨by simpa [eky] using h6, 4, 0, 0, sType, rfl, rfl, rfl, rfl, by simpa [ekv] using h7⟩
  | 1, _ => exact ⟨by simpa [eky] using h8, 4, 0, 0, sSelf, rfl, rfl, rfl, rfl, by simpa [ekv] using h9⟩
theorem own_name {lab : Nat → Lab} {K : PK} {w : World} {A : Ab} (hP : PS lab K w A) (hn : K.n < 90000) {e : Nat} (h : ErrOk lab K w e) :
    Calls Tryz.prog 31 #[.pointer (some ⟨K.H, 0, none⟩), .int .i64 (4 + 6 * (e : Int)), .string ⟨#[110, 97, 109, 101]⟩] w (fun en w' => en = .returned (.tuple #[.agg #[.int .i64 4, .int .i64 0, .string sType, .int .i64 0], .bool true]) ∧ Below w.heap.size w w') := by
  obtain ⟨r, d, c, h3, hr⟩ := err_row h
  exact own_calls hP.hb e h.1 (by omega) h.2.1 h.2.2.1 r d 2 c 0 h3 sName eky ekv hr (by omega) (by omega) (fun i hi => by omega) (by kernel_rfl) 4 0 0 sType rfl rfl rfl rfl
theorem own_msg {lab : Nat → Lab} {K : PK} {w : World} {A : Ab} (hP : PS lab K w A) (hn : K.n < 90000) {e : Nat} (h : ErrOk lab K w e) :
    Calls Tryz.prog 31 #[.pointer (some ⟨K.H, 0, none⟩), .int .i64 (4 + 6 * (e : Int)), .string ⟨#[109, 101, 115, 115, 97, 103, 101]⟩] w (fun en w' => en = .returned (.tuple #[.agg #[.int .i64 4, .int .i64 0, .string sSelf, .int .i64 0], .bool true]) ∧ Below w.heap.size w w') := by
  obtain ⟨r, d, c, h3, hr⟩ := err_row h
  exact own_calls hP.hb e h.1 (by omega) h.2.1 h.2.2.1 r d 2 c 1 h3 sMsg eky ekv hr (by omega) (by omega) (fun i hi => by
    obtain rfl : i = 0 := by omega
    kernel_rfl) (by kernel_rfl) 4 0 0 sSelf rfl rfl rfl rfl
set_option maxHeartbeats 4000000 in
theorem fault_calls {lab : Nat → Lab} {K : PK} {w : World} {A : Ab} (hP : PS lab K w A) (hT : Tabs K.w0) (hn : K.n < 90000) {e : Nat} (h : ErrOk lab K w e) :
    Calls Tryz.prog 10 #[.pointer (some ⟨K.H, 0, none⟩), .agg #[.int .i64 5, .int .i64 0, .string ⟨#[]⟩, .int .i64 (4 + 6 * (e : Int))]] w (fun en w' => en = .returned (.bool true) ∧ Below w.heap.size w w') := by
  have hB := (Below.refl w.heap.size w).alloc (Nat.le_refl _) (.cells #[.int .i64 5, .int .i64 0, .string ⟨#[]⟩, .int .i64 (4 + 6 * (e : Int))] 38)
  go_enter Tryz.func10, Tryz.ntmps10
  go_wp2_with fail
  refine (own_name (hP.below hB) hn ((Lt.below (N := A.N) hB).errOk h)).mono ?_
  rintro en w2 ⟨rfl, hb2⟩
  obtain ⟨g0, hB2, hz⟩ := boxes1 hb2
  obtain ⟨c0, c1, c2, c3⟩ := cells4 g0
  have l0 := blk_lt g0
  have hB3 := below_alloc hB2 (.cells #[.int .i64 4, .int .i64 0, .string sType, .int .i64 0] 38)
  have oc := fun W (hb : Below w.heap.size w W) => own_msg (hP.below hb) hn ((Lt.below (N := A.N) hb).errOk h)
  go_wp2_with fail
  refine (oc _ hB3).mono ?_
  rintro en w3 ⟨rfl, hb3⟩
  obtain ⟨g1, hB4, hz4⟩ := boxes1 hb3
  have hB5 := below_then hB2 hB4
  clear c0 c1 c2 c3
  obtain ⟨c0, c1, c2, c3⟩ := cells4 (keep hB4 g0)
  have l1 := blk_lt g1
  have l0' := blk_lt (keep hB4 g0)
  go_wp2_with fail
  have hB9 := below_alloc hB5 (.cells #[.int .i64 4, .int .i64 0, .string sSelf, .int .i64 0] 38)
  have hb9 := Only.alloc (fun _ => False) w3 (.cells #[.int .i64 4, .int .i64 0, .string sSelf, .int .i64 0] 38)
  have k9 : ∀ k o, w3.heap[k]? = some o → (w3.alloc (.cells #[.int .i64 4, .int .i64 0, .string sSelf, .int .i64 0] 38)).heap[k]? = some o := fun k o h => (hb9.block k (blk_lt h) (fun h => h)).trans h
  have a0 := cell_blk (k9 _ _ (keep hB4 g0)) 0
  obtain ⟨b0, b1, b2, b3⟩ := cells4 (k9 _ _ g1)
  obtain ⟨d0, d1, d2, d3⟩ := cells4 (hallocn w3 (.cells #[.int .i64 4, .int .i64 0, .string sSelf, .int .i64 0] 38))
  clear c0 c1 c2 c3 oc hB hb2 hb3 hB3 k9 hb9 g0 g1
  generalize w3.alloc (.cells #[.int .i64 4, .int .i64 0, .string sSelf, .int .i64 0] 38) = W9 at *
  generalize w3.heap.size = r7 at *
  generalize w2.heap.size = r5 at *
  have hTf : ∀ W, Below W9.heap.size W9 W → Tabs W := fun W hC => hT.below (hP.below (below_then hB9 hC)).bel
  have hC : Below W9.heap.size W9 W9.drew := (Below.refl _ W9).drew
  go_region_held3 (fun W : World => W.cell? ⟨w.heap.size, 0, none⟩ = some (.int .i64 5) ∧ W.cell? ⟨r5, 0, none⟩ = some (.int .i64 4) ∧ W.cell? ⟨r5, 1, none⟩ = some (.int .i64 0) ∧ W.cell? ⟨r5, 2, none⟩ = some (.string sType) ∧ W.cell? ⟨r5, 3, none⟩ = some (.int .i64 0) ∧ W.cell? ⟨r7, 0, none⟩ = some (.int .i64 4) ∧ W.cell? ⟨r7, 1, none⟩ = some (.int .i64 0) ∧ W.cell? ⟨r7, 2, none⟩ = some (.string sSelf) ∧ W.cell? ⟨r7, 3, none⟩ = some (.int .i64 0)) (first | exact ⟨keepc hC a0, keepc hC b0, keepc hC b1, keepc hC b2, keepc hC b3, keepc hC d0, keepc hC d1, keepc hC d2, keepc hC d3⟩) (first | (go_at_call_of 32 (Value.string ⟨#[84, 121, 112, 101, 69, 114, 114, 111, 114]⟩); refine (textT _ (hTf _ hC)).mono ?_; rintro en w5 ⟨rfl, hb⟩; replace hC := below_then hC hb; go_simp) | (go_at_call 32; refine (textS _ (hTf _ hC)).mono ?_; rintro en w5 ⟨rfl, hb⟩; replace hC := below_then hC hb; go_simp))
  all_goals
    go_wp2
    go_ret
    exact ⟨rfl, below_then hB9 hC⟩
end Go.Proofs.YtcceopgaiffkmaaGreatDoor

/- Put of a text, and Fault. -/
namespace Go.Proofs.YtcceopgaiffkmaaGreatDoor
open Go Go.RowKit Go.Pl
set_option maxRecDepth 100000
theorem z128 : ∃ i0 z, Tryz.prog.info? 128 = some i0 ∧ i0.zero = some z ∧ i0.size = 5 ∧ i0.bytes ≤ 1000 ∧ z.cells.size = 5 := zinfo (by kernel_rfl)
/-- the cells of a property -/
def pcells (key t : ByteArray) : List Value := [.string key, .int .i64 4, .int .i64 0, .string t, .int .i64 0]
set_option maxHeartbeats 8000000 in
theorem put_calls {w : World} {H g d n cap : Nat} {S : Nat → Nat → Value} (h : HB w H g d n cap S) (i : Nat) (hi : i < n) (hn : n < 100000) (hu : S i 0 = .bool true) (h1 : S i 1 = .int .i64 11) (ao : Option Addr) (m c3 : Nat) (h3 : S i 3 = .slice ao m c3) (L : Nat → Prop) (f ff : Nat → Nat → Value) (ky : Nat → ByteArray)
    (hsl : Sl w L tProp 5 (.slice ao m c3) m f) (hL : ¬ L g) (hr : ∀ j, j < m → ∃ r dd, ao = some ⟨r, dd, none⟩ ∧ PrRow w r dd m ky ff) (hm : m ≤ 50) (key t : ByteArray) (hlt : ∀ j, j < m → ((ky j).toList == key.toList) = false) (ht : repairOf t = t) (hts : t.size ≤ 1000) (hT : Tabs w) :
    Calls Tryz.prog 64 #[.pointer (some ⟨H, 0, none⟩), .int .i64 (4 + 6 * (i : Int)), .string key, .agg #[.int .i64 4, .int .i64 0, .string t, .int .i64 0]] w (fun e w' => e = .returned (.int .i64 0) ∧
      ∃ g3 d3 cap3, Row w' tSlot 11 g d n cap (fun i' c' => if i' = i ∧ c' = 3 then .slice (some ⟨g3, d3, none⟩) (m + 1) cap3 else S i' c') ∧ Row w' tProp 5 g3 d3 (m + 1) cap3 (app 5 m f (pcells key t)) ∧ ((L g3 ∧ g3 < w.heap.size) ∨ w.heap.size ≤ g3) ∧ Only (fun r => r = g ∨ (Value.slice ao m c3).ownBlock = some r) w w') := by
  have lg := h.row.lt
  have hB := (Below.refl w.heap.size w).alloc (Nat.le_refl _) (.cells #[.int .i64 4, .int .i64 0, .string t, .int .i64 0] 38)
  have h' := h.below hB
  have pc' := fun W (hc : W.cell? ⟨g, d + i * 11 + 1 + 2, none⟩ = some (.slice ao m c3)) (hrw : ∀ j, j < m → ∃ r dd, ao = some ⟨r, dd, none⟩ ∧ PrRow W r dd m ky ff) => place_calls W g (d + i * 11 + 1) ao m c3 m key ky ff hc hrw (by omega) (Nat.le_refl _) hlt (fun h => absurd h (Nat.lt_irrefl _))
  rw [if_neg (Nat.lt_irrefl m)] at pc'
  have nc := fun W (hT : Tabs W) => normal_calls 4 0 0 t (by decide) hts W hT
  have e4 : nk 4 = 4 := rfl
  have e5 : ni 4 0 = 0 := rfl
  have e6 : ns 4 t = t := by simp only [ns]; exact ht
  rw [e4, e5, e6] at nc
  obtain ⟨i0, z, hi0, hz0, hz1, hz2, hz3⟩ := z128
  have hmz : ¬ (10000 : Int) ≤ m := by omega
  go_enter Tryz.func64, Tryz.ntmps64
  go_wp2_with fail
  refine (heapAt h' i hi hn hu).mono ?_
  rintro e w2 ⟨rfl, hb2⟩
  obtain ⟨g0, hB2, hz⟩ := boxes1 hb2
  obtain ⟨c0, c1, c2, c3'⟩ := cells4 g0
  go_wp2_with fail
  refine (nc _ (hT.below hB2)).mono ?_
  rintro e w3 ⟨rfl, hb3⟩
  have hB3 := below_then hB2 hb3
  have g3 := keep hb3 g0
  clear c0 c1 c2 c3'
  obtain ⟨c0, c1, c2, c3'⟩ := cells4 g3
  obtain ⟨f0, f1, f2, f3⟩ := free4 g3
  have hne : g ≠ w.heap.size := by omega
  have u1 := (h.below hB3).row.cell hi (show 1 < 11 by decide)
  rw [h1] at u1
  go_wp2_with fail
  obtain ⟨q1, q2⟩ := fin4 hB3 (Nat.le_refl _) (.int .i64 4) (.int .i64 0) (.string t) (.int .i64 0) g3
  clear c0 c1 c2 c3' f0 f1 f2 f3 g3 g0 hz hb3 hb2 hB2 hB3 u1 nc
  generalize ((((w3.setCell ⟨w.heap.size, 0, none⟩ (.int .i64 4)).setCell ⟨w.heap.size, 1, none⟩ (.int .i64 0)).setCell ⟨w.heap.size, 2, none⟩ (.string t)).setCell ⟨w.heap.size, 3, none⟩ (.int .i64 0)) = W4 at *
  have h4 := h.below q2
  have u3 : W4.cell? ⟨g, d + i * 11 + 1 + 2, none⟩ = some (S i 3) := h4.row.cell hi (show 3 < 11 by decide)
  rw [h3] at u3
  refine (pc' _ u3 (fun j hj => ?_)).mono ?_
  · obtain ⟨r, dd, a1, a2⟩ := hr j hj
    exact ⟨r, dd, a1, a2.below q2⟩
  rintro e w5 ⟨rfl, hb5⟩
  have hB5 := below_then q2 hb5
  have u3' := keepc hb5 u3
  have g5 := keep hb5 q1
  have l5 := blk_lt g5
  have lg5 : g < w5.heap.size := by have := hB5.size; omega
  have h5 := h.below hB5
  obtain ⟨c0, c1, c2, c3'⟩ := cells4 g5
  have hs5 := hsl.same (fun r hr _ => hB5.block r hr) (fun _ _ h => h)
  have hown : Hide (∀ r, (Value.slice ao m c3).ownBlock = some r → L r ∧ r < w.heap.size) := ⟨fun r hr => hsl.own hr⟩
  clear u3 q1 hr hsl h4 h3
  have hbl : ∀ (o : Obj) (w1 : World), (w5.alloc o).drew.grownBy w1 (Value.slice ao m c3).ownBlock → w1.heap[g]? = w5.heap[g]? := fun o w1 hg => by
    rw [hg.block g (by show g < (w5.alloc o).heap.size; simp; omega) (fun h => hL (hown.out _ h.symm).1)]
    exact halloc w5 o g lg5
  have hcf : ∀ (o : Obj) (w1 : World), (w5.alloc o).drew.grownBy w1 (Value.slice ao m c3).ownBlock → w1.cell? ⟨g, d + i * 11 + 1 + 2, none⟩ = some (.slice ao m c3) := fun o w1 hg => by
    rw [World.cell?_of_block (w := w5) (hbl o w1 hg)]; exact u3'
  have hff : ∀ (o : Obj) (w1 : World), (w5.alloc o).drew.grownBy w1 (Value.slice ao m c3).ownBlock → w1.frozen? ⟨g, d + i * 11 + 1 + 2, none⟩ = false := fun o w1 hg => (h5.row.same (hbl o w1 hg)).frz _
  have hslf : ∀ o : Obj, Sl (w5.alloc o).drew L tProp 5 (.slice ao m c3) m f := fun o => hs5.same (fun r hr _ => halloc w5 o r hr) fun _ _ h => h
  have hsrc : Src Tryz.prog 5 76 (.slice (some ⟨w5.heap.size, 0, none⟩) 1 1) 1 (pcells key t) ((w5.alloc (.cells (pcells key t).toArray 128)).drew) :=
    Src.ofSlice (e' := 128) _ Tryz.underlying76 _ 1 1 _ rfl (World.news_of_block (cs := (pcells key t).toArray) (t := 128) (fr := (0, 0)) (hallocn _ _)) (by simp [pcells, Value.oneCell'])
  go_wp2
  go_region_law (refine step_append_sl _ rfl (.tmp 88) (.tmp 92) 76 76 rfl 128 i0 z 5 i0.bytes Tryz.underlying76 hi0 hz0 hz1 rfl hz3 L _ m f (by simp [Act.eval]) (hslf _) _ 1 _ (by simp [Act.eval]) hsrc (by omega) (by omega) hz2 _ rfl ?_; intro g3 d3 cap3 w1 hrow3 hgrow hat; have k1 := hcf _ _ hgrow; have k2 := hff _ _ hgrow)
  all_goals
    go_wp2
    go_ret
    have hg3 : (L g3 ∧ g3 < w.heap.size) ∨ w.heap.size ≤ g3 := by
      rcases hat with ⟨a1, a2⟩ | a
      · exact .inl ⟨a2, (hown.out _ a1).2⟩
      · right
        have := hB5.size
        rw [a]; simp; omega
    have hne3 : g3 ≠ g := by
      rintro rfl
      rcases hg3 with ⟨a, _⟩ | a
      · exact hL a
      · omega
    have hO1 : Only (fun r => r = g ∨ (Value.slice ao m c3).ownBlock = some r) w w1 := ⟨hgrow.os.trans hB5.os, hgrow.tape.trans hB5.tape, hgrow.output.trans hB5.output, by have := hgrow.size; simp at this; have := hB5.size; omega, fun k hk hn => by
      have := hB5.size
      rw [hgrow.block k (by show k < (w5.alloc _).heap.size; simp; omega) (fun h => hn (.inr h.symm))]
      exact (halloc w5 _ k (by omega)).trans (hB5.block k hk)⟩
    exact ⟨rfl, g3, d3, cap3, (h5.row.same (hbl _ _ hgrow)).set hi (show 3 < 11 by decide) _, hrow3.far _ _ hne3, hg3, hO1.trans (Only.set (M := fun r => r = g ∨ (Value.slice ao m c3).ownBlock = some r) w1 ⟨g, d + i * 11 + 1 + 2, none⟩ _ (.inl rfl)) fun _ _ h => h⟩
end Go.Proofs.YtcceopgaiffkmaaGreatDoor

/- An object more in the state; the error of a promise of itself is made; New of a promise. -/
namespace Go.Proofs.YtcceopgaiffkmaaGreatDoor
open Go Go.RowKit Go.Pl
set_option maxRecDepth 100000
theorem _root_.Go.Pl.PS.box {lab : Nat → Lab} {K : PK} {w : World} {A : Ab} (h : PS lab K w A) : w.heap[K.H]? = some (hbox K.g K.d K.n K.cap K.gl K.tx (.slice (some ⟨K.Pr, K.pd, none⟩) 12 12)) := h.hH
theorem PS_grow {lab : Nat → Lab} {K : PK} {w w2 : World} {A : Ab} (h : PS lab K w A) {g d cap : Nat} {S' : Nat → Nat → Value} (hH : w2.heap[K.H]? = some (hbox g d (K.n + 1) cap K.gl K.tx (.slice (some ⟨K.Pr, K.pd, none⟩) 12 12))) (hrow : Row w2 tSlot 11 g d (K.n + 1) cap S')
    (hS : ∀ i c, i < K.n → S' i c = K.S i c) (hg : g = K.g ∨ w.heap.size ≤ g) (hO : Only (fun r => r = K.H ∨ r = K.g) w w2) :
    PS (up lab g .slots) { K with g := g, d := d, n := K.n + 1, cap := cap, S := S' } w2 A.grow ∧ Ext lab K w (up lab g .slots) { K with g := g, d := d, n := K.n + 1, cap := cap, S := S' } w2 A.N := by
  have hlab : ∀ r, r < w.heap.size → up lab g .slots r = lab r := fun r hr => up_lt (by
    rcases hg with h' | h'
    · left; rw [h']; exact h.lg
    · right; omega)
  have keep : ∀ r, r < w.heap.size → lab r ≠ .slots → lab r ≠ .hh → w2.heap[r]? = w.heap[r]? := fun r hr h1 h2 => hO.block r hr (by
    rintro (he | he)
    · exact h2 (he ▸ h.lH)
    · exact h1 (he ▸ h.lg))
  have nn : ∀ {l : Lab}, l = .imm → l ≠ .slots ∧ l ≠ .hh := fun hl => ⟨(by rw [hl]; intro h; cases h), (by rw [hl]; intro h; cases h)⟩
  have hl : Lt lab K w (up lab g .slots) { K with g := g, d := d, n := K.n + 1, cap := cap, S := S' } w2 A.N :=
    ⟨hO.size, hlab, fun r hr hi => keep r hr (nn hi).1 (nn hi).2, Nat.le_succ _, fun e he _ c => hS e c he, fun _ _ => rfl⟩
  have hn0 : ∀ r, r < K.w0.heap.size → r < w.heap.size := fun r hr => Nat.lt_of_lt_of_le hr h.bel.size
  have bH := blk_lt h.hH
  have bJ := blk_lt h.hJ
  refine ⟨⟨hH, hl.cell h.lP h.c6, hl.cell h.lP h.c11, (keep K.J bJ (by rw [h.lJ]; intro h; cases h) (by rw [h.lJ]; intro h; cases h)).trans h.hJ, hrow, (hlab _ bH).trans h.lH, (hlab _ bJ).trans h.lJ, up_same _ _, hl.lab_imm h.lP h.c6, fun r hr => ?_, fun r hr => (hlab r (hn0 r hr)).trans (h.bas r hr), ?_,
    fun p hp => Nat.lt_succ_of_lt (h.slt p hp), h.inj, fun p hp => ?_, ?_, fun k j hk => hl.jb (Nat.le_refl _) (h.jb k j hk), congrArg (· + 1) h.eob⟩, hl, rfl, rfl, rfl, fun r hr ho => keep r hr (by rcases ho with h | h | h <;> rw [h] <;> (intro h; cases h)) (by rcases ho with h | h | h <;> rw [h] <;> (intro h; cases h))⟩
  · have := hO.size
    have := hrow.lt
    rw [up_lt (.inr (by omega))]
    exact h.new r (by omega)
  · exact ⟨hO.os.trans h.bel.os, hO.tape.trans h.bel.tape, hO.output.trans h.bel.output, Nat.le_trans h.bel.size hO.size, fun k hk => (keep k (hn0 k hk) (nn (h.bas k hk)).1 (nn (h.bas k hk)).2).trans (h.bel.block k hk)⟩
  · exact (hl.pm (Nat.le_refl _) (fun r hr hd => keep r hr (by rw [hd]; intro h; cases h) (by rw [hd]; intro h; cases h)) (h.pm p hp)).congr fun c _ => hS _ c (h.slt p hp)
  · exact h.it.same (fun r hr he => keep r hr (by rw [he]; intro h; cases h) (by rw [he]; intro h; cases h)) (fun r hr he => (hlab r hr).trans he)
/-- a slot becomes a promise -/
theorem PS_addp {lab : Nat → Lab} {K : PK} {w : World} {A : Ab} (h : PS lab K w A) {s : Nat} (hs : s < K.n) (hfree : ∀ p, p < A.N → K.sl p ≠ s) (h0 : K.S s 0 = .bool true) (h1 : K.S s 1 = .int .i64 6) (h5 : K.S s 5 = .slice none 0 0) (h6 : K.S s 6 = .int .i64 0) (h8 : K.S s 8 = .int .i64 0) :
    PS lab { K with sl := fun p => if p = A.N then s else K.sl p } w A.addp ∧ Ext lab K w lab { K with sl := fun p => if p = A.N then s else K.sl p } w A.N := by
  have hl : Lt lab K w lab { K with sl := fun p => if p = A.N then s else K.sl p } w A.N := ⟨Nat.le_refl _, fun _ _ => rfl, fun _ _ _ => rfl, Nat.le_refl _, fun _ _ _ _ => rfl, fun p hp => if_neg (by omega)⟩
  refine ⟨⟨h.hH, h.c6, h.c11, h.hJ, h.row, h.lH, h.lJ, h.lg, h.lP, h.new, h.bas, h.bel, fun p hp => ?_, fun p q hp hq he => ?_, fun p hp => ?_, h.it, fun k j hk => hl.jb (Nat.le_succ _) (h.jb k j hk), h.eob⟩, hl, rfl, rfl, rfl, fun _ _ _ => rfl⟩
  · have hp : p < A.N + 1 := hp
    show (if p = A.N then s else K.sl p) < K.n
    split
    · exact hs
    · exact h.slt p (by omega)
  · have hp : p < A.N + 1 := hp
    have hq : q < A.N + 1 := hq
    have he : (if p = A.N then s else K.sl p) = (if q = A.N then s else K.sl q) := he
    by_cases h1 : p = A.N <;> by_cases h2 : q = A.N
    · omega
    · rw [if_pos h1, if_neg h2] at he; exact absurd he.symm (hfree q (by omega))
    · rw [if_neg h1, if_pos h2] at he; exact absurd he (hfree p (by omega))
    · rw [if_neg h1, if_neg h2] at he; exact h.inj p q (by omega) (by omega) he
  · have hp : p < A.N + 1 := hp
    show PmOk lab _ w (K.S (if p = A.N then s else K.sl p)) p (A.N + 1) (if p = A.N then ⟨0, false, und, []⟩ else A.pr p)
    by_cases hpN : p = A.N
    · rw [if_pos hpN, if_pos hpN]
      exact ⟨h0, h1, by simpa using h6, h8, by decide, fun _ => ⟨rfl, K.S, .inl ⟨h5, rfl⟩, fun k q hk => by simp at hk⟩, fun h => absurd rfl h⟩
    · rw [if_neg hpN, if_neg hpN]
      exact hl.pm (Nat.le_succ _) (fun _ _ _ => rfl) (h.pm p (by omega))
theorem new_ps {lab : Nat → Lab} {K : PK} {w : World} {A : Ab} (hP : PS lab K w A) (hn : K.n < 80000) :
    Calls Tryz.prog 17 #[.pointer (some ⟨K.H, 0, none⟩)] w (fun e w' => e = .returned (.tuple #[.agg #[.int .i64 5, .int .i64 0, .string ⟨#[]⟩, .int .i64 (4 + 6 * (K.n : Int))], .int .i64 0]) ∧ ∃ lab' K', PS lab' K' w' A.new ∧ Ext lab K w lab' K' w' A.N ∧ K'.n = K.n + 1 ∧ K'.sl A.N = K.n) := by
  have hgH : K.g ≠ K.H := fun h => by
    have := hP.lg
    rw [h, hP.lH] at this; cases this
  refine (new_calls w K.H K.g K.d K.n K.cap K.gl K.tx K.Pr K.pd K.p6 K.S hP.box hP.c6 (by omega) hP.row hgH).mono ?_
  rintro e w2 ⟨rfl, g', d', cap', h1, h2, h3, h4⟩
  obtain ⟨hP2, hE2⟩ := PS_grow hP h1 h2 (fun i c hi => by simp only [app]; rw [if_pos hi]) h3 h4
  have hs : ∀ c, app 11 K.n K.S (ocells 6 K.p6) K.n c = ((ocells 6 K.p6)[c]?).getD (.bool false) := fun c => by simp [app]
  obtain ⟨hP3, hE3⟩ := PS_addp hP2 (s := K.n) (Nat.lt_succ_self _) (fun p hp => Nat.ne_of_lt (hP.slt p hp)) (hs 0) (hs 1) (hs 5) (hs 6) (hs 8)
  exact ⟨rfl, _, _, hP3, hE2.trans hE3 (Nat.le_refl _), rfl, if_pos rfl⟩
end Go.Proofs.YtcceopgaiffkmaaGreatDoor

/- The error of a promise of itself is made. -/
namespace Go.Proofs.YtcceopgaiffkmaaGreatDoor
open Go Go.RowKit Go.Pl
set_option maxRecDepth 100000
theorem row_prop {w : World} {r d n cap i : Nat} {f : Nat → Nat → Value} {ky t : ByteArray} (h : Row w tProp 5 r d n cap f) (hi : i < n) (h0 : f i 0 = .string ky) (h1 : f i 1 = .int .i64 4) (h2 : f i 2 = .int .i64 0) (h3 : f i 3 = .string t) (h4 : f i 4 = .int .i64 0) :
    w.cell? ⟨r, d + i * 5, none⟩ = some (.string ky) ∧ At4 w r (d + i * 5 + 1) (pv (.nv 4 0 t)) := by
  refine ⟨by rw [← h0]; exact h.cell0 hi (by decide), at4_of ?_ ?_ ?_ ?_⟩
  · exact (h.cell hi (show 1 < 5 by decide)).trans (congrArg some h1)
  · exact (h.cell hi (show 2 < 5 by decide)).trans (congrArg some h2)
  · exact (h.cell hi (show 3 < 5 by decide)).trans (congrArg some h3)
  · exact (h.cell hi (show 4 < 5 by decide)).trans (congrArg some h4)
set_option maxHeartbeats 4000000 in
theorem fault_make {lab : Nat → Lab} {K : PK} {w : World} {A : Ab} (hP : PS lab K w A) (hT : Tabs K.w0) (hn : K.n < 80000) :
    Calls Tryz.prog 41 #[.pointer (some ⟨K.H, 0, none⟩), .string ⟨#[84, 121, 112, 101, 69, 114, 114, 111, 114]⟩, .string ⟨#[97, 32, 112, 114, 111, 109, 105, 115, 101, 32, 111, 102, 32, 105, 116, 115, 101, 108, 102]⟩] w
      (fun e w' => e = .returned (.agg #[.int .i64 5, .int .i64 0, .string ⟨#[]⟩, .int .i64 (4 + 6 * (K.n : Int))]) ∧ ∃ lab' K', PS lab' K' w' A.grow ∧ Ext lab K w lab' K' w' A.N ∧ ErrOk lab' K' w' K.n ∧ K'.n = K.n + 1) := by
  have hgH : K.g ≠ K.H := fun h => by
    have := hP.lg
    rw [h, hP.lH] at this; cases this
  have lg := hP.row.lt
  have lH := blk_lt hP.hH
  have hB := (Below.refl w.heap.size w).alloc (Nat.le_refl _) (.cells #[.int .i64 0, .int .i64 0, .string ⟨#[]⟩, .int .i64 0] 38)
  have hP1 := hP.below hB
  have mk := make11 _ K.H K.g K.d K.n K.cap K.gl K.tx K.Pr K.pd K.p11 K.S hP1.box hP1.c11 (by omega) hP1.row hgH
  go_enter Tryz.func41, Tryz.ntmps41
  go_wp2_with fail
  refine mk.mono ?_
  rintro e w2 ⟨rfl, g1, d1, cap1, h1, h2, h3, h4⟩
  have sza : (w.alloc (.cells #[.int .i64 0, .int .i64 0, .string ⟨#[]⟩, .int .i64 0] 38)).heap.size = w.heap.size + 1 := by simp
  have g0 : w2.heap[w.heap.size]? = some (.cells #[.int .i64 0, .int .i64 0, .string ⟨#[]⟩, .int .i64 0] 38 (0, 0)) := (h4.block _ (by simp) (by
    rintro (h | h) <;> omega)).trans (hallocn _ _)
  have hg1 : g1 = K.g ∨ w.heap.size + 1 ≤ g1 := h3.imp id (fun h => by omega)
  have hg1r : g1 ≠ w.heap.size := by rcases hg1 with h | h <;> omega
  have hg1H : g1 ≠ K.H := by rcases hg1 with h | h <;> omega
  have hO2 : Only (fun r => r = K.H ∨ r = K.g) w w2 := (Only.of_below hB).trans h4 fun _ _ h => h
  have hs : ∀ c, app 11 K.n K.S (ocells 11 K.p11) K.n c = ((ocells 11 K.p11)[c]?).getD (.bool false) := fun c => by simp [app]
  have hT2 : Tabs w2 := by
    obtain ⟨hP2, _⟩ := PS_grow hP1 h1 h2 (fun i c hi => by simp only [app]; rw [if_pos hi]) h3 h4
    exact hT.below hP2.bel
  clear mk h3 h4
  go_wp2_with fail
  refine (textT _ hT2).mono ?_
  rintro e w3 ⟨rfl, hb3⟩
  have k1 := keep hb3 h1
  have hHB : HB w3 K.H g1 d1 (K.n + 1) cap1 (app 11 K.n K.S (ocells 11 K.p11)) := ⟨cell_blk k1 0, cell_blk k1 1, cell_blk k1 2, h2.same (hb3.block _ h2.lt)⟩
  have hT3 := hT2.below hb3
  have pc := put_calls hHB K.n (Nat.lt_succ_self _) (by omega) (hs 0) (hs 1) none 0 0 (hs 3) (fun _ => False) K.S K.S (fun _ => sName) (.inl ⟨rfl, rfl⟩) (fun h => h) (fun j hj => absurd hj (Nat.not_lt_zero _)) (by omega) sName sType (fun j hj => absurd hj (Nat.not_lt_zero _)) repType (by decide) hT3
  go_wp2_with fail
  refine pc.mono ?_
  rintro e w4 ⟨rfl, g3, d3, cap3, r4, p4, hg3, hO4⟩
  have hg3' : w3.heap.size ≤ g3 := by
    rcases hg3 with ⟨h, _⟩ | h
    · exact h.elim
    · exact h
  have sz2 := hO2.size
  have sz3 := hb3.size
  have sz4 := hO4.size
  have l2 := h2.lt
  have lr := blk_lt g0
  have lH2 := blk_lt h1
  have hO4' : Only (fun r => r = g1) w3 w4 := hO4.mono fun r _ h => by
    rcases h with h | h
    · exact h
    · cases h
  have k4 : w4.heap[K.H]? = _ := (hO4'.block _ (by omega) (Ne.symm hg1H)).trans k1
  have b4 : w4.heap[w.heap.size]? = _ := (hO4'.block _ (by omega) (Ne.symm hg1r)).trans (keep hb3 g0)
  have hB34 : ∀ r c v, r ≠ g1 → w3.cell? ⟨r, c, none⟩ = some v → w4.cell? ⟨r, c, none⟩ = some v := fun r c v hr hv => onlyc hO4' hv hr
  have hT4 : Tabs w4 := by
    have hz := hO2.trans (M' := fun _ => False) (Only.of_below hb3) fun _ _ h => h.elim
    have hall : Only (fun r => r = K.H ∨ r = K.g) w w4 := hz.trans hO4' fun r hr h => by
      rcases hg1 with h' | h'
      · right; omega
      · omega
    refine hT.below ⟨hall.os.trans hP.bel.os, hall.tape.trans hP.bel.tape, hall.output.trans hP.bel.output, Nat.le_trans hP.bel.size hall.size, fun k hk => (hall.block k (Nat.lt_of_lt_of_le hk hP.bel.size) ?_).trans (hP.bel.block k hk)⟩
    have hb := hP.bas k hk
    rintro (h | h)
    · rw [h, hP.lH] at hb; cases hb
    · rw [h, hP.lg] at hb; cases hb
  clear pc hHB
  go_wp2_with fail
  refine (textS _ hT4).mono ?_
  rintro e w5 ⟨rfl, hb5⟩
  have k5 := keep hb5 k4
  have hHB5 : HB w5 K.H g1 d1 (K.n + 1) cap1 (fun i' c' => if i' = K.n ∧ c' = 3 then .slice (some ⟨g3, d3, none⟩) (0 + 1) cap3 else app 11 K.n K.S (ocells 11 K.p11) i' c') := ⟨cell_blk k5 0, cell_blk k5 1, cell_blk k5 2, r4.same (hb5.block _ r4.lt)⟩
  have p5 := p4.same (hb5.block _ p4.lt)
  have hrp := row_prop (i := 0) (ky := sName) (t := sType) p5 (by omega) rfl rfl rfl rfl rfl
  have pc := put_calls hHB5 K.n (Nat.lt_succ_self _) (by omega) (by simpa using (show app 11 K.n K.S (ocells 11 K.p11) K.n 0 = .bool true from hs 0)) (by simpa using (show app 11 K.n K.S (ocells 11 K.p11) K.n 1 = .int .i64 11 from hs 1)) (some ⟨g3, d3, none⟩) 1 cap3 (by simp) (fun r => r = g3) _ (fun _ => pv (.nv 4 0 sType)) (fun _ => sName) (.inr ⟨g3, d3, cap3, rfl, rfl, p5⟩) (fun h => by omega)
    (fun j hj => ⟨g3, d3, rfl, fun i hi => by
      obtain rfl : i = 0 := by omega
      exact ⟨hrp.1, 4, 0, 0, sType, rfl, rfl, rfl, rfl, hrp.2⟩⟩) (by omega) sMsg sSelf (fun j hj => by kernel_rfl) repSelf (by decide) (hT4.below hb5)
  go_wp2_with fail
  refine pc.mono ?_
  rintro e w6 ⟨rfl, g4, d4, cap4, r6, p6, hg4, hO6⟩
  have lp := p5.lt
  have sz5 := hb5.size
  have sz6 := hO6.size
  have hO6' : Only (fun r => r = g1 ∨ r = g3) w5 w6 := hO6.mono fun r _ h => by
    rcases h with h | h
    · exact .inl h
    · exact .inr (Option.some.inj h).symm
  have hg31 : g3 ≠ K.H := by omega
  have hg3r : g3 ≠ w.heap.size := by omega
  have k6 : w6.heap[K.H]? = _ := (hO6'.block _ (by omega) (by rintro (h | h) <;> omega)).trans k5
  have b6 : w6.heap[w.heap.size]? = _ := (hO6'.block _ (by omega) (by rintro (h | h) <;> omega)).trans (keep hb5 b4)
  have hg4' : w3.heap.size ≤ g4 := by
    rcases hg4 with ⟨h, _⟩ | h <;> omega
  clear pc hHB5
  go_wp2_with fail
  refine (ref_calls _ _).mono ?_
  rintro e w7 ⟨rfl, hb7⟩
  have b7 := keep hb7 b6
  obtain ⟨c0, c1, c2, c3⟩ := cells4 b7
  obtain ⟨f0, f1, f2, f3⟩ := free4 b7
  go_wp2
  have q1 := set4 (.int .i64 5) (.int .i64 0) (.string ⟨#[]⟩) (.int .i64 (4 + 6 * (K.n : Int))) b7
  refine bodyPost_ret (results_cell_row rfl _ _ w.heap.size 38 _ (0, 0) _ rfl q1 Tryz.underlying38 rfl i38) rfl ?_
  have oth : ∀ k, k ≠ w.heap.size → ((((w7.setCell ⟨w.heap.size, 0, none⟩ (.int .i64 5)).setCell ⟨w.heap.size, 1, none⟩ (.int .i64 0)).setCell ⟨w.heap.size, 2, none⟩ (.string ⟨#[]⟩)).setCell ⟨w.heap.size, 3, none⟩ (.int .i64 (4 + 6 * (K.n : Int)))).heap[k]? = w7.heap[k]? := fun k hk => by
    rw [heap_setCell_other _ _ _ _ hk, heap_setCell_other _ _ _ _ hk, heap_setCell_other _ _ _ _ hk, heap_setCell_other _ _ _ _ hk]
  have szf : ((((w7.setCell ⟨w.heap.size, 0, none⟩ (.int .i64 5)).setCell ⟨w.heap.size, 1, none⟩ (.int .i64 0)).setCell ⟨w.heap.size, 2, none⟩ (.string ⟨#[]⟩)).setCell ⟨w.heap.size, 3, none⟩ (.int .i64 (4 + 6 * (K.n : Int)))).heap.size = w7.heap.size := by simp
  have e3 : ((((w7.setCell ⟨w.heap.size, 0, none⟩ (.int .i64 5)).setCell ⟨w.heap.size, 1, none⟩ (.int .i64 0)).setCell ⟨w.heap.size, 2, none⟩ (.string ⟨#[]⟩)).setCell ⟨w.heap.size, 3, none⟩ (.int .i64 (4 + 6 * (K.n : Int)))).os = w7.os ∧ ((((w7.setCell ⟨w.heap.size, 0, none⟩ (.int .i64 5)).setCell ⟨w.heap.size, 1, none⟩ (.int .i64 0)).setCell ⟨w.heap.size, 2, none⟩ (.string ⟨#[]⟩)).setCell ⟨w.heap.size, 3, none⟩ (.int .i64 (4 + 6 * (K.n : Int)))).tape = w7.tape ∧ ((((w7.setCell ⟨w.heap.size, 0, none⟩ (.int .i64 5)).setCell ⟨w.heap.size, 1, none⟩ (.int .i64 0)).setCell ⟨w.heap.size, 2, none⟩ (.string ⟨#[]⟩)).setCell ⟨w.heap.size, 3, none⟩ (.int .i64 (4 + 6 * (K.n : Int)))).output = w7.output := ⟨rfl, rfl, rfl⟩
  have hO7 : Only (fun r => r = K.H ∨ r = K.g) w w7 := by
    have z1 := hO2.trans (M' := fun _ => False) (Only.of_below hb3) fun _ _ h => h.elim
    have z2 := z1.trans hO4' fun r hr h => by
      rcases hg1 with h' | h'
      · right; omega
      · omega
    have z3 := z2.trans (M' := fun _ => False) (Only.of_below hb5) fun _ _ h => h.elim
    have z4 := z3.trans hO6' fun r hr h => by
      rcases h with h | h
      · rcases hg1 with h' | h'
        · right; omega
        · omega
      · omega
    exact z4.trans (M' := fun _ => False) (Only.of_below hb7) fun _ _ h => h.elim
  have lg4 := p6.lt
  have l1 := r6.lt
  have hg4r : g4 ≠ w.heap.size := by omega
  have f7 : ∀ k, k < w6.heap.size → k ≠ w.heap.size → _ = w6.heap[k]? := fun k hk hne => (oth k hne).trans (hb7.block k hk)
  generalize ((((w7.setCell ⟨w.heap.size, 0, none⟩ (.int .i64 5)).setCell ⟨w.heap.size, 1, none⟩ (.int .i64 0)).setCell ⟨w.heap.size, 2, none⟩ (.string ⟨#[]⟩)).setCell ⟨w.heap.size, 3, none⟩ (.int .i64 (4 + 6 * (K.n : Int)))) = w8 at *
  have hO8 : Only (fun r => r = K.H ∨ r = K.g) w w8 := by
    have sz7 := hO7.size
    exact ⟨e3.1.trans hO7.os, e3.2.1.trans hO7.tape, e3.2.2.trans hO7.output, by omega, fun k hk hn => (oth k (by omega)).trans (hO7.block k hk hn)⟩
  obtain ⟨hP8, hE8⟩ := PS_grow hP ((f7 _ (by omega) (by omega)).trans k6) (r6.same (f7 _ l1 hg1r)) (fun i c hi => by
    have h1 : ¬ i = K.n := by omega
    simp [app, hi, h1]) (hg1.imp id fun h => by omega) hO8
  have hp8 := p6.same (f7 _ lg4 hg4r)
  have hr0 := row_prop (i := 0) (ky := sName) (t := sType) hp8 (by omega) rfl rfl rfl rfl rfl
  have hr1 := row_prop (i := 1) (ky := sMsg) (t := sSelf) hp8 (by omega) rfl rfl rfl rfl rfl
  have hg41 : g4 ≠ g1 := by omega
  refine ⟨rfl, _, _, hP8, hE8, ⟨Nat.lt_succ_self _, ?_, ?_, g4, d4, cap4, ?_, ?_, ?_, ?_, ?_, ?_⟩, rfl⟩
  · simpa using (show app 11 K.n K.S (ocells 11 K.p11) K.n 0 = .bool true from hs 0)
  · simpa using (show app 11 K.n K.S (ocells 11 K.p11) K.n 1 = .int .i64 11 from hs 1)
  · simp
  · rw [up_lt (.inr hg41)]
    exact hP.new _ (by omega)
  · simpa using hr0.1
  · simpa using hr0.2
  · simpa using hr1.1
  · exact hr1.2
end Go.Proofs.YtcceopgaiffkmaaGreatDoor

/- Same, at a promise. -/
namespace Go.Proofs.YtcceopgaiffkmaaGreatDoor
open Go Go.RowKit Go.Pl
set_option maxRecDepth 100000
set_option maxHeartbeats 4000000 in
theorem same_ne (a : Nat) (b : Nat) (hab : a ≠ b) (w : World) : Calls Tryz.prog 40 #[.agg #[.int .i64 5, .int .i64 0, .string ⟨#[]⟩, .int .i64 (4 + 6 * (a : Int))], .agg #[.int .i64 5, .int .i64 0, .string ⟨#[]⟩, .int .i64 (4 + 6 * (b : Int))]] w (fun e w' => e = .returned (.bool false) ∧ Below w.heap.size w w') := by
  have hne : ((4 + 6 * (a : Int)) == 4 + 6 * (b : Int)) = false := by
    have : ¬ (4 + 6 * (a : Int)) = 4 + 6 * (b : Int) := by omega
    simpa using this
  have hB2 := ((Below.refl w.heap.size w).alloc (Nat.le_refl _) (.cells #[.int .i64 5, .int .i64 0, .string ⟨#[]⟩, .int .i64 (4 + 6 * (a : Int))] 38)).alloc (by simp) (.cells #[.int .i64 5, .int .i64 0, .string ⟨#[]⟩, .int .i64 (4 + 6 * (b : Int))] 38)
  obtain ⟨g0, g1, _, hz⟩ := boxes2 (Below.refl _ ((w.alloc (.cells #[.int .i64 5, .int .i64 0, .string ⟨#[]⟩, .int .i64 (4 + 6 * (a : Int))] 38)).alloc (.cells #[.int .i64 5, .int .i64 0, .string ⟨#[]⟩, .int .i64 (4 + 6 * (b : Int))] 38)))
  go_enter Tryz.func40, Tryz.ntmps40
  go_wp2
  generalize ((w.alloc (.cells #[.int .i64 5, .int .i64 0, .string ⟨#[]⟩, .int .i64 (4 + 6 * (a : Int))] 38)).alloc (.cells #[.int .i64 5, .int .i64 0, .string ⟨#[]⟩, .int .i64 (4 + 6 * (b : Int))] 38)) = W2 at *
  obtain ⟨b0, b1, b2, b3⟩ := cells4 g0
  obtain ⟨c0, c1, c2, c3⟩ := cells4 g1
  have hC : Below W2.heap.size W2 W2.drew := (Below.refl _ W2).drew
  clear g0 g1
  go_region_held3 (fun W : World => W.cell? ⟨w.heap.size, 0, none⟩ = some (.int .i64 5) ∧ W.cell? ⟨w.heap.size, 1, none⟩ = some (.int .i64 0) ∧ W.cell? ⟨w.heap.size, 2, none⟩ = some (.string ⟨#[]⟩) ∧ W.cell? ⟨w.heap.size, 3, none⟩ = some (.int .i64 (4 + 6 * (a : Int))) ∧ W.cell? ⟨w.heap.size + 1, 0, none⟩ = some (.int .i64 5) ∧ W.cell? ⟨w.heap.size + 1, 1, none⟩ = some (.int .i64 0) ∧ W.cell? ⟨w.heap.size + 1, 2, none⟩ = some (.string ⟨#[]⟩) ∧ W.cell? ⟨w.heap.size + 1, 3, none⟩ = some (.int .i64 (4 + 6 * (b : Int)))) (first | exact ⟨keepc hC b0, keepc hC b1, keepc hC b2, keepc hC b3, keepc hC c0, keepc hC c1, keepc hC c2, keepc hC c3⟩) (first  | (go_at_call 63; refine (normal_ref 0 _ ⟨#[]⟩ _).mono ?_; rintro e w5 ⟨rfl, hb⟩; replace hC := below_then hC hb; go_simp))
  all_goals
    go_wp2
    go_ret
    exact ⟨rfl, below_then hB2 hC⟩
set_option maxHeartbeats 4000000 in
theorem same_eq (a : Nat)  (w : World) : Calls Tryz.prog 40 #[.agg #[.int .i64 5, .int .i64 0, .string ⟨#[]⟩, .int .i64 (4 + 6 * (a : Int))], .agg #[.int .i64 5, .int .i64 0, .string ⟨#[]⟩, .int .i64 (4 + 6 * (a : Int))]] w (fun e w' => e = .returned (.bool true) ∧ Below w.heap.size w w') := by
  have hB2 := ((Below.refl w.heap.size w).alloc (Nat.le_refl _) (.cells #[.int .i64 5, .int .i64 0, .string ⟨#[]⟩, .int .i64 (4 + 6 * (a : Int))] 38)).alloc (by simp) (.cells #[.int .i64 5, .int .i64 0, .string ⟨#[]⟩, .int .i64 (4 + 6 * (a : Int))] 38)
  obtain ⟨g0, g1, _, hz⟩ := boxes2 (Below.refl _ ((w.alloc (.cells #[.int .i64 5, .int .i64 0, .string ⟨#[]⟩, .int .i64 (4 + 6 * (a : Int))] 38)).alloc (.cells #[.int .i64 5, .int .i64 0, .string ⟨#[]⟩, .int .i64 (4 + 6 * (a : Int))] 38)))
  go_enter Tryz.func40, Tryz.ntmps40
  go_wp2
  generalize ((w.alloc (.cells #[.int .i64 5, .int .i64 0, .string ⟨#[]⟩, .int .i64 (4 + 6 * (a : Int))] 38)).alloc (.cells #[.int .i64 5, .int .i64 0, .string ⟨#[]⟩, .int .i64 (4 + 6 * (a : Int))] 38)) = W2 at *
  obtain ⟨b0, b1, b2, b3⟩ := cells4 g0
  obtain ⟨c0, c1, c2, c3⟩ := cells4 g1
  have hC : Below W2.heap.size W2 W2.drew := (Below.refl _ W2).drew
  clear g0 g1
  go_region_held3 (fun W : World => W.cell? ⟨w.heap.size, 0, none⟩ = some (.int .i64 5) ∧ W.cell? ⟨w.heap.size, 1, none⟩ = some (.int .i64 0) ∧ W.cell? ⟨w.heap.size, 2, none⟩ = some (.string ⟨#[]⟩) ∧ W.cell? ⟨w.heap.size, 3, none⟩ = some (.int .i64 (4 + 6 * (a : Int))) ∧ W.cell? ⟨w.heap.size + 1, 0, none⟩ = some (.int .i64 5) ∧ W.cell? ⟨w.heap.size + 1, 1, none⟩ = some (.int .i64 0) ∧ W.cell? ⟨w.heap.size + 1, 2, none⟩ = some (.string ⟨#[]⟩) ∧ W.cell? ⟨w.heap.size + 1, 3, none⟩ = some (.int .i64 (4 + 6 * (a : Int)))) (first | exact ⟨keepc hC b0, keepc hC b1, keepc hC b2, keepc hC b3, keepc hC c0, keepc hC c1, keepc hC c2, keepc hC c3⟩) (first  | (go_at_call 63; refine (normal_ref 0 _ ⟨#[]⟩ _).mono ?_; rintro e w5 ⟨rfl, hb⟩; replace hC := below_then hC hb; go_simp))
  all_goals
    go_wp2
    go_ret
    exact ⟨rfl, below_then hB2 hC⟩
set_option maxHeartbeats 4000000 in
theorem same_val (a : Nat) (k n x : Int) (s : ByteArray) (v : VV) (hN : NTo (.agg #[.int .i64 k, .int .i64 n, .string s, .int .i64 x]) v) (hv : pk v ≠ 5) (w : World) (hT : Tabs w) : Calls Tryz.prog 40 #[.agg #[.int .i64 5, .int .i64 0, .string ⟨#[]⟩, .int .i64 (4 + 6 * (a : Int))], .agg #[.int .i64 k, .int .i64 n, .string s, .int .i64 x]] w (fun e w' => e = .returned (.bool false) ∧ Below w.heap.size w w') := by
  have hne : (5 == pk v) = false := by
    have : ¬ 5 = pk v := fun h => hv h.symm
    simpa using this
  have hB2 := ((Below.refl w.heap.size w).alloc (Nat.le_refl _) (.cells #[.int .i64 5, .int .i64 0, .string ⟨#[]⟩, .int .i64 (4 + 6 * (a : Int))] 38)).alloc (by simp) (.cells #[.int .i64 k, .int .i64 n, .string s, .int .i64 x] 38)
  obtain ⟨g0, g1, _, hz⟩ := boxes2 (Below.refl _ ((w.alloc (.cells #[.int .i64 5, .int .i64 0, .string ⟨#[]⟩, .int .i64 (4 + 6 * (a : Int))] 38)).alloc (.cells #[.int .i64 k, .int .i64 n, .string s, .int .i64 x] 38)))
  go_enter Tryz.func40, Tryz.ntmps40
  go_wp2
  generalize ((w.alloc (.cells #[.int .i64 5, .int .i64 0, .string ⟨#[]⟩, .int .i64 (4 + 6 * (a : Int))] 38)).alloc (.cells #[.int .i64 k, .int .i64 n, .string s, .int .i64 x] 38)) = W2 at *
  obtain ⟨b0, b1, b2, b3⟩ := cells4 g0
  obtain ⟨c0, c1, c2, c3⟩ := cells4 g1
  have hC : Below W2.heap.size W2 W2.drew := (Below.refl _ W2).drew
  have hTf : ∀ W, Below W2.heap.size W2 W → Tabs W := fun W hC => hT.below (below_then hB2 hC)
  clear g0 g1
  go_region_held3 (fun W : World => W.cell? ⟨w.heap.size, 0, none⟩ = some (.int .i64 5) ∧ W.cell? ⟨w.heap.size, 1, none⟩ = some (.int .i64 0) ∧ W.cell? ⟨w.heap.size, 2, none⟩ = some (.string ⟨#[]⟩) ∧ W.cell? ⟨w.heap.size, 3, none⟩ = some (.int .i64 (4 + 6 * (a : Int))) ∧ W.cell? ⟨w.heap.size + 1, 0, none⟩ = some (.int .i64 k) ∧ W.cell? ⟨w.heap.size + 1, 1, none⟩ = some (.int .i64 n) ∧ W.cell? ⟨w.heap.size + 1, 2, none⟩ = some (.string s) ∧ W.cell? ⟨w.heap.size + 1, 3, none⟩ = some (.int .i64 x)) (first | exact ⟨keepc hC b0, keepc hC b1, keepc hC b2, keepc hC b3, keepc hC c0, keepc hC c1, keepc hC c2, keepc hC c3⟩) (first  | (go_at_call_of 63 (Value.agg #[.int .i64 k, .int .i64 n, .string s, .int .i64 x]); refine (hN _ (hTf _ hC)).mono ?_; rintro e w5 ⟨rfl, hb⟩; replace hC := below_then hC hb; go_simp) | (go_at_call 63; refine (normal_ref 0 _ ⟨#[]⟩ _).mono ?_; rintro e w5 ⟨rfl, hb⟩; replace hC := below_then hC hb; go_simp))
  all_goals
    go_wp2
    go_ret
    exact ⟨rfl, below_then hB2 hC⟩
end Go.Proofs.YtcceopgaiffkmaaGreatDoor

/- Resolve with a value, Reject. -/
namespace Go.Proofs.YtcceopgaiffkmaaGreatDoor
open Go Go.RowKit Go.Pl
set_option maxRecDepth 100000
/-- what a call of the program hands back and leaves -/
def Post (r : Value) (A' : Ab) (lab : Nat → Lab) (K : PK) (w : World) (N : Nat) : Ending → World → Prop := fun e w' => e = .returned r ∧ ∃ lab' K', PS lab' K' w' A' ∧ Ext lab K w lab' K' w' N ∧ K.n ≤ K'.n ∧ K'.n ≤ K.n + 1
section
variable {lab : Nat → Lab} {K : PK} {w : World} {A : Ab}
set_option maxHeartbeats 2000000 in
theorem resolve_busy (hP : PS lab K w A) (hn : K.n < 80000) {p : Nat} (hp : p < A.N) (hb : A.busy p) (k n x : Int) (s : ByteArray) :
    Calls Tryz.prog 18 #[.pointer (some ⟨K.H, 0, none⟩), .pointer (some ⟨K.J, 0, none⟩), .agg #[.int .i64 5, .int .i64 0, .string ⟨#[]⟩, .int .i64 (4 + 6 * (K.sl p : Int))], .agg #[.int .i64 k, .int .i64 n, .string s, .int .i64 x]] w (fun e w' => e = .returned (.int .i64 0) ∧ Below w.heap.size w w') := by
  have hB := ((Below.refl w.heap.size w).alloc (Nat.le_refl _) (.cells #[.int .i64 5, .int .i64 0, .string ⟨#[]⟩, .int .i64 (4 + 6 * (K.sl p : Int))] 38)).alloc (by simp) (.cells #[.int .i64 k, .int .i64 n, .string s, .int .i64 x] 38)
  have hP2 := hP.below hB
  by_cases h0 : (A.pr p).st = 0
  · have hl : (A.pr p).lk = true := by
      rcases hb with h | h
      · exact absurd h0 h
      · exact h
    go_enter Tryz.func18, Tryz.ntmps18
    go_wp2_with fail
    refine (promAtP hP2 (by omega) hp).mono ?_
    rintro e w2 ⟨rfl, hb2⟩
    obtain ⟨g0, g1, hB2, hz⟩ := boxes2 hb2
    obtain ⟨_, x8, x6, _⟩ := (hP.below hB2).look hp
    rw [h0] at x8
    rw [hl, if_pos rfl] at x6
    clear hl h0 hb
    go_wp2
    go_ret
    exact ⟨rfl, hB2⟩
  · have hz0 : (((A.pr p).st : Int) != 0) = true := by simpa using h0
    go_enter Tryz.func18, Tryz.ntmps18
    go_wp2_with fail
    refine (promAtP hP2 (by omega) hp).mono ?_
    rintro e w2 ⟨rfl, hb2⟩
    obtain ⟨g0, g1, hB2, hz⟩ := boxes2 hb2
    obtain ⟨_, x8, x6, _⟩ := (hP.below hB2).look hp
    clear h0 hb
    generalize (A.pr p).st = st at *
    go_wp2
    go_ret
    exact ⟨rfl, hB2⟩
set_option maxHeartbeats 4000000 in
theorem resolve_free (hP : PS lab K w A) (hT : Tabs K.w0) (hn : K.n < 80000) {p : Nat} (hp : p < A.N) (hb : ¬ A.busy p) (k n x : Int) (s : ByteArray) (hk : k ≠ 5) {v : VV} (hN : NTo (.agg #[.int .i64 k, .int .i64 n, .string s, .int .i64 x]) v) (hv5 : pk v ≠ 5) (hv : VOk lab K w v) (hws : (A.pr p).ws.length ≤ 1000) (hjs : A.jobs.length ≤ 50000) :
    Calls Tryz.prog 18 #[.pointer (some ⟨K.H, 0, none⟩), .pointer (some ⟨K.J, 0, none⟩), .agg #[.int .i64 5, .int .i64 0, .string ⟨#[]⟩, .int .i64 (4 + 6 * (K.sl p : Int))], .agg #[.int .i64 k, .int .i64 n, .string s, .int .i64 x]] w (fun e w' => e = .returned (.int .i64 0) ∧ ∃ lab' K', PS lab' K' w' (A.settle p 1 v) ∧ Ext lab K w lab' K' w' A.N) := by
  have hB := ((Below.refl w.heap.size w).alloc (Nat.le_refl _) (.cells #[.int .i64 5, .int .i64 0, .string ⟨#[]⟩, .int .i64 (4 + 6 * (K.sl p : Int))] 38)).alloc (by simp) (.cells #[.int .i64 k, .int .i64 n, .string s, .int .i64 x] 38)
  have hP2 := hP.below hB
  have h0 : (A.pr p).st = 0 := Decidable.byContradiction fun h => hb (.inl h)
  have hl : (A.pr p).lk = false := by
    cases h : (A.pr p).lk with
    | false => rfl
    | true => exact absurd (.inr h) hb
  obtain ⟨A2, hA2⟩ : ∃ A2, A2 = A.settle p 1 v := ⟨_, rfl⟩
  rw [← hA2]
  have sc := fun W (hC : Below w.heap.size w W) => settle_calls (hP.below hC) hT hp h0 false ((Lt.below (N := A.N) hC).vok hv) k n x s hN hws hjs 1 1 rfl rfl
  rw [← hA2] at sc
  clear hA2
  go_enter Tryz.func18, Tryz.ntmps18
  go_wp2_with fail
  refine (promAtP hP2 (by omega) hp).mono ?_
  rintro e w2 ⟨rfl, hb2⟩
  obtain ⟨g0, g1, hB2, hz⟩ := boxes2 hb2
  obtain ⟨_, x8, x6, _⟩ := (hP.below hB2).look hp
  rw [h0] at x8
  rw [hl, if_neg (by decide)] at x6
  clear hl h0 hb
  obtain ⟨a0, a1, a2, a3⟩ := cells4 g0
  obtain ⟨b0, b1, b2, b3⟩ := cells4 g1
  go_wp2_with fail
  refine (same_val (K.sl p) k n x s v hN hv5 w2 (hT.below (hP.below hB2).bel)).mono ?_
  rintro e w3 ⟨rfl, hb3⟩
  have hB3 := below_then hB2 hb3
  clear a0 a1 a2 a3 b0 b1 b2 b3 x8 x6
  obtain ⟨b0, b1, b2, b3⟩ := cells4 (keep hb3 g1)
  go_wp2_with fail
  refine (promAtNo k n x s hk K.H w3).mono ?_
  rintro e w4 ⟨rfl, hb4⟩
  have hB4 := below_then hB3 hb4
  clear b0 b1 b2 b3
  obtain ⟨b0, b1, b2, b3⟩ := cells4 (keep hb4 (keep hb3 g1))
  go_wp2_with fail
  refine (sc w4 hB4).mono ?_
  rintro e w5 ⟨rfl, lab', K', h1, h2⟩
  go_wp2
  go_ret
  exact ⟨rfl, lab', K', h1, (Ext.below hB4).trans h2 (Nat.le_refl _)⟩
set_option maxHeartbeats 2000000 in
theorem reject_busy (hP : PS lab K w A) (hn : K.n < 80000) {p : Nat} (hp : p < A.N) (hb : A.busy p) (k n x : Int) (s : ByteArray) :
    Calls Tryz.prog 19 #[.pointer (some ⟨K.H, 0, none⟩), .pointer (some ⟨K.J, 0, none⟩), .agg #[.int .i64 5, .int .i64 0, .string ⟨#[]⟩, .int .i64 (4 + 6 * (K.sl p : Int))], .agg #[.int .i64 k, .int .i64 n, .string s, .int .i64 x]] w (fun e w' => e = .returned (.int .i64 0) ∧ Below w.heap.size w w') := by
  have hB := ((Below.refl w.heap.size w).alloc (Nat.le_refl _) (.cells #[.int .i64 5, .int .i64 0, .string ⟨#[]⟩, .int .i64 (4 + 6 * (K.sl p : Int))] 38)).alloc (by simp) (.cells #[.int .i64 k, .int .i64 n, .string s, .int .i64 x] 38)
  have hP2 := hP.below hB
  by_cases h0 : (A.pr p).st = 0
  · have hl : (A.pr p).lk = true := by
      rcases hb with h | h
      · exact absurd h0 h
      · exact h
    go_enter Tryz.func19, Tryz.ntmps19
    go_wp2_with fail
    refine (promAtP hP2 (by omega) hp).mono ?_
    rintro e w2 ⟨rfl, hb2⟩
    obtain ⟨g0, g1, hB2, hz⟩ := boxes2 hb2
    obtain ⟨_, x8, x6, _⟩ := (hP.below hB2).look hp
    rw [h0] at x8
    rw [hl, if_pos rfl] at x6
    clear hl h0 hb
    go_wp2
    go_ret
    exact ⟨rfl, hB2⟩
  · have hz0 : (((A.pr p).st : Int) == 0) = false := by simpa using h0
    go_enter Tryz.func19, Tryz.ntmps19
    go_wp2_with fail
    refine (promAtP hP2 (by omega) hp).mono ?_
    rintro e w2 ⟨rfl, hb2⟩
    obtain ⟨g0, g1, hB2, hz⟩ := boxes2 hb2
    obtain ⟨_, x8, x6, _⟩ := (hP.below hB2).look hp
    clear h0 hb
    generalize (A.pr p).st = st at *
    go_wp2
    go_ret
    exact ⟨rfl, hB2⟩
set_option maxHeartbeats 4000000 in
theorem reject_free (hP : PS lab K w A) (hT : Tabs K.w0) (hn : K.n < 80000) {p : Nat} (hp : p < A.N) (hb : ¬ A.busy p) (k n x : Int) (s : ByteArray) {v : VV} (hN : NTo (.agg #[.int .i64 k, .int .i64 n, .string s, .int .i64 x]) v) (hv : VOk lab K w v) (hws : (A.pr p).ws.length ≤ 1000) (hjs : A.jobs.length ≤ 50000) :
    Calls Tryz.prog 19 #[.pointer (some ⟨K.H, 0, none⟩), .pointer (some ⟨K.J, 0, none⟩), .agg #[.int .i64 5, .int .i64 0, .string ⟨#[]⟩, .int .i64 (4 + 6 * (K.sl p : Int))], .agg #[.int .i64 k, .int .i64 n, .string s, .int .i64 x]] w (fun e w' => e = .returned (.int .i64 0) ∧ ∃ lab' K', PS lab' K' w' (A.settle p 2 v) ∧ Ext lab K w lab' K' w' A.N) := by
  have hB := ((Below.refl w.heap.size w).alloc (Nat.le_refl _) (.cells #[.int .i64 5, .int .i64 0, .string ⟨#[]⟩, .int .i64 (4 + 6 * (K.sl p : Int))] 38)).alloc (by simp) (.cells #[.int .i64 k, .int .i64 n, .string s, .int .i64 x] 38)
  have hP2 := hP.below hB
  have h0 : (A.pr p).st = 0 := Decidable.byContradiction fun h => hb (.inl h)
  have hl : (A.pr p).lk = false := by
    cases h : (A.pr p).lk with
    | false => rfl
    | true => exact absurd (.inr h) hb
  obtain ⟨A2, hA2⟩ : ∃ A2, A2 = A.settle p 2 v := ⟨_, rfl⟩
  rw [← hA2]
  have sc := fun W (hC : Below w.heap.size w W) => settle_calls (hP.below hC) hT hp h0 true ((Lt.below (N := A.N) hC).vok hv) k n x s hN hws hjs 2 2 rfl rfl
  rw [← hA2] at sc
  clear hA2
  go_enter Tryz.func19, Tryz.ntmps19
  go_wp2_with fail
  refine (promAtP hP2 (by omega) hp).mono ?_
  rintro e w2 ⟨rfl, hb2⟩
  obtain ⟨g0, g1, hB2, hz⟩ := boxes2 hb2
  obtain ⟨_, x8, x6, _⟩ := (hP.below hB2).look hp
  rw [h0] at x8
  rw [hl, if_neg (by decide)] at x6
  clear hl h0 hb
  obtain ⟨b0, b1, b2, b3⟩ := cells4 g1
  go_wp2_with fail
  refine (sc w2 hB2).mono ?_
  rintro e w5 ⟨rfl, lab', K', h1, h2⟩
  go_wp2
  go_ret
  exact ⟨rfl, lab', K', h1, (Ext.below hB2).trans h2 (Nat.le_refl _)⟩
end
end Go.Proofs.YtcceopgaiffkmaaGreatDoor

/- Resolve with a promise. -/
namespace Go.Proofs.YtcceopgaiffkmaaGreatDoor
open Go Go.RowKit Go.Pl
set_option maxRecDepth 100000
section
variable {lab : Nat → Lab} {K : PK} {w : World} {A : Ab}
theorem nto_flt (e : Nat) : NTo (.agg #[.int .i64 5, .int .i64 0, .string ⟨#[]⟩, .int .i64 (4 + 6 * (e : Int))]) (.flt e) := fun w _ => normal_ref 0 _ ⟨#[]⟩ w
set_option maxHeartbeats 8000000 in
theorem resolve_self (hP : PS lab K w A) (hT : Tabs K.w0) (hn : K.n < 70000) {p : Nat} (hp : p < A.N) (hb : ¬ A.busy p) (hws : (A.pr p).ws.length ≤ 1000) (hjs : A.jobs.length ≤ 50000) :
    Calls Tryz.prog 18 #[.pointer (some ⟨K.H, 0, none⟩), .pointer (some ⟨K.J, 0, none⟩), .agg #[.int .i64 5, .int .i64 0, .string ⟨#[]⟩, .int .i64 (4 + 6 * (K.sl p : Int))], .agg #[.int .i64 5, .int .i64 0, .string ⟨#[]⟩, .int .i64 (4 + 6 * (K.sl p : Int))]] w
      (fun e w' => e = .returned (.int .i64 0) ∧ ∃ lab' K', PS lab' K' w' (A.grow.settle p 2 (.flt K.n)) ∧ Ext lab K w lab' K' w' A.N) := by
  have hB := ((Below.refl w.heap.size w).alloc (Nat.le_refl _) (.cells #[.int .i64 5, .int .i64 0, .string ⟨#[]⟩, .int .i64 (4 + 6 * (K.sl p : Int))] 38)).alloc (by simp) (.cells #[.int .i64 5, .int .i64 0, .string ⟨#[]⟩, .int .i64 (4 + 6 * (K.sl p : Int))] 38)
  have hP2 := hP.below hB
  have h0 : (A.pr p).st = 0 := Decidable.byContradiction fun h => hb (.inl h)
  have hl : (A.pr p).lk = false := by
    cases h : (A.pr p).lk with
    | false => rfl
    | true => exact absurd (.inr h) hb
  obtain ⟨A2, hA2⟩ : ∃ A2, A2 = A.grow.settle p 2 (.flt K.n) := ⟨_, rfl⟩
  rw [← hA2]
  have sc := fun lab1 K1 W (hP1 : PS lab1 K1 W A.grow) (hT1 : Tabs K1.w0) (hv : VOk lab1 K1 W (.flt K.n)) => settle_calls hP1 hT1 hp h0 true hv 5 0 (4 + 6 * (K.n : Int)) ⟨#[]⟩ (nto_flt K.n) hws hjs 2 2 rfl rfl
  rw [← hA2] at sc
  clear hA2
  go_enter Tryz.func18, Tryz.ntmps18
  go_wp2_with fail
  refine (promAtP hP2 (by omega) hp).mono ?_
  rintro e w2 ⟨rfl, hb2⟩
  obtain ⟨g0, g1, hB2, hz⟩ := boxes2 hb2
  obtain ⟨_, x8, x6, _⟩ := (hP.below hB2).look hp
  rw [h0] at x8
  rw [hl, if_neg (by decide)] at x6
  clear hl h0 hb
  obtain ⟨a0, a1, a2, a3⟩ := cells4 g0
  obtain ⟨b0, b1, b2, b3⟩ := cells4 g1
  go_wp2_with fail
  refine (same_eq (K.sl p) w2).mono ?_
  rintro e w3 ⟨rfl, hb3⟩
  have hB3 := below_then hB2 hb3
  have hP3 := hP.below hB3
  clear a0 a1 a2 a3 b0 b1 b2 b3 x8 x6
  have g3 := keep hb3 g0
  go_wp2_with fail
  refine (fault_make hP3 hT (by omega)).mono ?_
  rintro e w4 ⟨rfl, lab1, K1, hP4, hE4, hEr, hKn⟩
  have l3 := blk_lt g3
  have hla0 : lab w.heap.size = .imm := hP.new _ (Nat.le_refl _)
  have hla : Hide (lab1 w.heap.size = .imm) := ⟨(hE4.lt.labs _ l3).trans hla0⟩
  have hlb : Hide (lab1 w4.heap.size = .imm) := ⟨hP4.new _ (Nat.le_refl _)⟩
  have g4 := (hE4.lt.imm _ l3 hla0).trans g3
  have l4 := blk_lt g4
  have hB4 := (Below.refl w4.heap.size w4).alloc (Nat.le_refl _) (.cells #[.int .i64 5, .int .i64 0, .string ⟨#[]⟩, .int .i64 (4 + 6 * (K.n : Int))] 38)
  go_wp2_with fail
  obtain ⟨b0, b1, b2, b3⟩ := cells4 (hallocn w4 (.cells #[.int .i64 5, .int .i64 0, .string ⟨#[]⟩, .int .i64 (4 + 6 * (K.n : Int))] 38))
  obtain ⟨a0, a1, a2, a3⟩ := cells4 (keep hB4 g4)
  have hP5 := hP4.below hB4
  have eH : K1.H = K.H := hE4.eH
  have eJ : K1.J = K.J := hE4.eJ
  have es : K1.sl p = K.sl p := hE4.lt.sl p hp
  have e0 : K1.w0 = K.w0 := hE4.e0
  have pa := fun W (h : PS lab1 K1 W A.grow) => promAtP h (by omega) hp
  have hv5 := (Lt.below (lab := lab1) (K := K1) (N := A.N) hB4).vok (v := .flt K.n) hEr
  have s1 := fun W (h : PS lab1 K1 W A.grow) (hv : VOk lab1 K1 W (.flt K.n)) => sc lab1 K1 W h (by rw [e0]; exact hT) hv
  rw [eH, es] at pa
  rw [eH, eJ, es] at s1
  have hEx := ((Ext.below (lab := lab) (K := K) (N := A.N) hB3).trans hE4 (Nat.le_refl _)).trans (Ext.below hB4) (Nat.le_refl _)
  clear g4 g3 g0 g1 hP4 hEr hE4 hB eH eJ es hKn sc hla0
  generalize w4.alloc (.cells #[.int .i64 5, .int .i64 0, .string ⟨#[]⟩, .int .i64 (4 + 6 * (K.n : Int))] 38) = W5 at *
  generalize w4.heap.size = r10 at *
  have hC : Below W5.heap.size W5 W5.drew := (Below.refl _ W5).drew
  go_region_held3 (fun W : World => W.cell? ⟨w.heap.size, 0, none⟩ = some (.int .i64 5) ∧ W.cell? ⟨w.heap.size, 1, none⟩ = some (.int .i64 0) ∧ W.cell? ⟨w.heap.size, 2, none⟩ = some (.string ⟨#[]⟩) ∧ W.cell? ⟨w.heap.size, 3, none⟩ = some (.int .i64 (4 + 6 * (K.sl p : Int))) ∧ W.cell? ⟨r10, 0, none⟩ = some (.int .i64 5) ∧ W.cell? ⟨r10, 1, none⟩ = some (.int .i64 0) ∧ W.cell? ⟨r10, 2, none⟩ = some (.string ⟨#[]⟩) ∧ W.cell? ⟨r10, 3, none⟩ = some (.int .i64 (4 + 6 * (K.n : Int)))) (first | exact ⟨keepc hC a0, keepc hC a1, keepc hC a2, keepc hC a3, keepc hC b0, keepc hC b1, keepc hC b2, keepc hC b3⟩ | exact ⟨hE6.lt.cell hla.out (keepc hC a0), hE6.lt.cell hla.out (keepc hC a1), hE6.lt.cell hla.out (keepc hC a2), hE6.lt.cell hla.out (keepc hC a3), hE6.lt.cell hlb.out (keepc hC b0), hE6.lt.cell hlb.out (keepc hC b1), hE6.lt.cell hlb.out (keepc hC b2), hE6.lt.cell hlb.out (keepc hC b3)⟩) (first | (go_at_call 29; refine (pa _ (hP5.below hC)).mono ?_; rintro e w5 ⟨rfl, hb⟩; replace hC := below_then hC hb; go_simp) | (go_at_call 42; refine (s1 _ (hP5.below hC) ((Lt.below (N := A.N) hC).vok hv5)).mono ?_; rintro e w6 ⟨rfl, lab6, K6, hP6, hE6⟩; go_simp))
  all_goals
    go_wp2
    go_ret
    exact ⟨rfl, lab6, K6, hP6, hEx.trans ((Ext.below hC).trans hE6 (Nat.le_refl _)) (Nat.le_refl _)⟩
theorem PS_lock (hP : PS lab K w A) {p : Nat} (hp : p < A.N) (h0 : (A.pr p).st = 0) :
    ∃ K', PS lab K' (w.setCell ⟨K.g, K.d + K.sl p * 11 + 1 + 5, none⟩ (.int .i64 1)) (A.put p { A.pr p with lk := true }) ∧ Ext lab K w lab K' (w.setCell ⟨K.g, K.d + K.sl p * 11 + 1 + 5, none⟩ (.int .i64 1)) A.N ∧ K'.g = K.g ∧ K'.d = K.d ∧ K'.sl = K.sl := by
  have hi := hP.slt p hp
  obtain ⟨pm0, pm1, pm6, pm8, pm2, pmP, _⟩ := hP.pm p hp
  have hO : Only (fun r => r = K.g ∨ lab r = .dat p) w (w.setCell ⟨K.g, K.d + K.sl p * 11 + 1 + 5, none⟩ (.int .i64 1)) := Only.set (M := fun r => r = K.g ∨ lab r = .dat p) w ⟨K.g, K.d + K.sl p * 11 + 1 + 5, none⟩ _ (.inl rfl)
  obtain ⟨h1, h2⟩ := hP.slot (lab' := lab) (x := { A.pr p with lk := true }) hp (fun _ _ => rfl) (fun r hr => hP.new r (by simpa using hr)) hO (hP.row.set hi (show 6 < 11 by decide) (.int .i64 1)) (fun i c hne => by simp [hne]) (fun hl => by
    refine ⟨by simp [pm0], by simp [pm1], by simp, by simp [pm8], pm2, fun _ => ?_, fun h => absurd h0 h⟩
    obtain ⟨a, D, b, c⟩ := pmP h0
    refine ⟨a, D, ?_, c⟩
    have e5 : (if K.sl p = K.sl p ∧ 5 = 6 then Value.int .i64 1 else K.S (K.sl p) 5) = K.S (K.sl p) 5 := by simp
    show Sl _ _ tVal 4 (if K.sl p = K.sl p ∧ 5 = 6 then Value.int .i64 1 else K.S (K.sl p) 5) _ _
    rw [e5]
    exact b.same (fun r hr hd => heap_setCell_other _ _ _ _ (by
      rintro rfl
      rw [hP.lg] at hd
      cases hd)) fun _ _ h => h)
  exact ⟨_, h1, h2, rfl, rfl, rfl⟩
set_option maxHeartbeats 8000000 in
theorem resolve_lock (hP : PS lab K w A) (hT : Tabs K.w0) (hn : K.n < 70000) {p q : Nat} (hp : p < A.N) (hq : q < A.N) (hpq : p ≠ q) (hb : ¬ A.busy p) (hws : (A.pr q).ws.length ≤ 1000) (hjs : A.jobs.length ≤ 50000) :
    Calls Tryz.prog 18 #[.pointer (some ⟨K.H, 0, none⟩), .pointer (some ⟨K.J, 0, none⟩), .agg #[.int .i64 5, .int .i64 0, .string ⟨#[]⟩, .int .i64 (4 + 6 * (K.sl p : Int))], .agg #[.int .i64 5, .int .i64 0, .string ⟨#[]⟩, .int .i64 (4 + 6 * (K.sl q : Int))]] w
      (fun e w' => e = .returned (.int .i64 0) ∧ ∃ lab' K', PS lab' K' w' ((A.put p { A.pr p with lk := true }).wait q p) ∧ Ext lab K w lab' K' w' A.N) := by
  have hB := ((Below.refl w.heap.size w).alloc (Nat.le_refl _) (.cells #[.int .i64 5, .int .i64 0, .string ⟨#[]⟩, .int .i64 (4 + 6 * (K.sl p : Int))] 38)).alloc (by simp) (.cells #[.int .i64 5, .int .i64 0, .string ⟨#[]⟩, .int .i64 (4 + 6 * (K.sl q : Int))] 38)
  have hP2 := hP.below hB
  have hne : K.sl p ≠ K.sl q := fun h => hpq (hP.inj p q hp hq h)
  have h0 : (A.pr p).st = 0 := Decidable.byContradiction fun h => hb (.inl h)
  have hl : (A.pr p).lk = false := by
    cases h : (A.pr p).lk with
    | false => rfl
    | true => exact absurd (.inr h) hb
  have hq2 : ((A.put p { A.pr p with lk := true }).pr q).ws.length ≤ 1000 := by
    show (if q = p then _ else A.pr q : Pm).ws.length ≤ 1000
    rw [if_neg (Ne.symm hpq)]
    exact hws
  have lk := fun W (h : PS lab K W A) => PS_lock h hp h0
  obtain ⟨A1, hA1⟩ : ∃ A1, A1 = A.put p { A.pr p with lk := true } := ⟨_, rfl⟩
  have hN1 : A1.N = A.N := by rw [hA1]; rfl
  have hj1 : A1.jobs.length ≤ 50000 := by rw [hA1]; exact hjs
  rw [← hA1] at hq2 lk ⊢
  clear hA1
  go_enter Tryz.func18, Tryz.ntmps18
  go_wp2_with fail
  refine (promAtP hP2 (by omega) hp).mono ?_
  rintro e w2 ⟨rfl, hb2⟩
  obtain ⟨g0, g1, hB2, hz⟩ := boxes2 hb2
  obtain ⟨_, x8, x6, _⟩ := (hP.below hB2).look hp
  rw [h0] at x8
  rw [hl, if_neg (by decide)] at x6
  clear hl h0 hb
  obtain ⟨a0, a1, a2, a3⟩ := cells4 g0
  obtain ⟨b0, b1, b2, b3⟩ := cells4 g1
  go_wp2_with fail
  refine (same_ne (K.sl p) (K.sl q) hne w2).mono ?_
  rintro e w3 ⟨rfl, hb3⟩
  have hB3 := below_then hB2 hb3
  clear a0 a1 a2 a3 b0 b1 b2 b3 x8 x6
  obtain ⟨b0, b1, b2, b3⟩ := cells4 (keep hb3 g1)
  go_wp2_with fail
  refine (promAtP (hP.below hB3) (by omega) hq).mono ?_
  rintro e w4 ⟨rfl, hb4⟩
  have hB4 := below_then hB3 hb4
  have hP4 := hP.below hB4
  have g4 := keep hb4 (keep hb3 g0)
  clear b0 b1 b2 b3
  obtain ⟨a0, a1, a2, a3⟩ := cells4 g4
  obtain ⟨_, _, y6, _⟩ := hP4.look hp
  have y6f : w4.frozen? ⟨K.g, K.d + K.sl p * 11 + 1 + 5, none⟩ = false := hP4.row.frz _
  obtain ⟨K1, hP5, hE5, eg, ed, es⟩ := lk w4 hP4
  have hgne : K.g ≠ w.heap.size := by have := hP.row.lt; omega
  have rc := react_calls (kf := 0) (nf := 0) hP5 (by rw [hE5.e0]; exact hT) (p := q) (by omega) (who := p) (by omega) false ⟨rfl, rfl⟩ hq2 hj1
  rw [hE5.eH, hE5.eJ, eg, ed, es] at rc
  clear eg ed es lk hP2 hB
  go_wp2_with fail
  refine rc.mono ?_
  rintro e w5 ⟨rfl, lab', K', h1, h2⟩
  rw [hN1] at h2
  go_wp2
  go_ret
  exact ⟨rfl, lab', K', h1, ((Ext.below hB4).trans hE5 (Nat.le_refl _)).trans h2 (Nat.le_refl _)⟩
end
end Go.Proofs.YtcceopgaiffkmaaGreatDoor

/- Then, of a promise, without handlers. -/
namespace Go.Proofs.YtcceopgaiffkmaaGreatDoor
open Go Go.RowKit Go.Pl
set_option maxRecDepth 100000
section
variable {lab lab' : Nat → Lab} {K K' : PK} {w w' : World} {A : Ab}
theorem PS_frame (h : PS lab K w A) (hl : Lt lab K w lab' K w' A.N) (hn : ∀ r, w'.heap.size ≤ r → lab' r = .imm) (hb : ∀ r, r < w.heap.size → lab r ≠ .rw → lab r ≠ .rl → lab r ≠ .rj → w'.heap[r]? = w.heap[r]?) (ho : w'.os = w.os) (ht : w'.tape = w.tape) (hu : w'.output = w.output) : PS lab' K w' A := by
  have lH := blk_lt h.hH
  have lJ := blk_lt h.hJ
  have hn0 : ∀ r, r < K.w0.heap.size → r < w.heap.size := fun r hr => Nat.lt_of_lt_of_le hr h.bel.size
  have kp : ∀ r l, r < w.heap.size → lab r = l → l ≠ .rw → l ≠ .rl → l ≠ .rj → w'.heap[r]? = w.heap[r]? := fun r l hr he h1 h2 h3 => hb r hr (he ▸ h1) (he ▸ h2) (he ▸ h3)
  refine ⟨(kp _ _ lH h.lH (fun h => by cases h) (fun h => by cases h) (fun h => by cases h)).trans h.hH, hl.cell h.lP h.c6, hl.cell h.lP h.c11, (kp _ _ lJ h.lJ (fun h => by cases h) (fun h => by cases h) (fun h => by cases h)).trans h.hJ, h.row.same (kp _ _ h.row.lt h.lg (fun h => by cases h) (fun h => by cases h) (fun h => by cases h)),
    (hl.labs _ lH).trans h.lH, (hl.labs _ lJ).trans h.lJ, (hl.labs _ h.row.lt).trans h.lg, hl.lab_imm h.lP h.c6, hn, fun r hr => (hl.labs r (hn0 r hr)).trans (h.bas r hr), ?_, h.slt, h.inj, fun p hp => hl.pm (Nat.le_refl _) (fun r hr hd => kp r _ hr hd (fun h => by cases h) (fun h => by cases h) (fun h => by cases h)) (h.pm p hp),
    h.it.same (fun r hr he => kp r _ hr he (fun h => by cases h) (fun h => by cases h) (fun h => by cases h)) (fun r hr he => (hl.labs r hr).trans he), fun k j hk => hl.jb (Nat.le_refl _) (h.jb k j hk), h.eob⟩
  exact ⟨ho.trans h.bel.os, ht.trans h.bel.tape, hu.trans h.bel.output, Nat.le_trans h.bel.size hl.size, fun k hk => (hl.imm k (hn0 k hk) (h.bas k hk)).trans (h.bel.block k hk)⟩
theorem PS_relabel (h : PS lab K w A) (hb : Below w.heap.size w w') {r : Nat} (hr : w.heap.size ≤ r) (hr' : r < w'.heap.size) : PS (up lab r .rw) K w' A ∧ Ext lab K w (up lab r .rw) K w' A.N := by
  have hl : Lt lab K w (up lab r .rw) K w' A.N := ⟨hb.size, fun x hx => up_lt (.inr (by omega)), fun x hx _ => hb.block x hx, Nat.le_refl _, fun _ _ _ _ => rfl, fun _ _ => rfl⟩
  exact ⟨PS_frame h hl (fun x hx => by
    rw [up_lt (.inr (by omega))]
    exact h.new x (Nat.le_trans hb.size hx)) (fun x hx _ _ _ => hb.block x hx) hb.os hb.tape hb.output, hl, rfl, rfl, rfl, fun x hx _ => hb.block x hx⟩
theorem PS_wr (h : PS lab K w A) {r : Nat} (hr : lab r = .rw) (k : Nat) (v : Value) : PS lab K (w.setCell ⟨r, k, none⟩ v) A := by
  have ne : ∀ x, lab x ≠ .rw → x ≠ r := fun x hx he => hx (he ▸ hr)
  refine PS_frame h ⟨by simp, fun _ _ => rfl, fun x hx hi => heap_setCell_other _ _ _ _ (ne x (by rw [hi]; intro h; cases h)), Nat.le_refl _, fun _ _ _ _ => rfl, fun _ _ => rfl⟩ (fun x hx => h.new x (by simpa using hx)) (fun x hx h1 _ _ => heap_setCell_other _ _ _ _ (ne x h1)) rfl rfl rfl
theorem Ext_wr {N : Nat} (h : Ext lab K w lab' K' w' N) {r : Nat} (hr : w.heap.size ≤ r) (k : Nat) (v : Value) : Ext lab K w lab' K' (w'.setCell ⟨r, k, none⟩ v) N := by
  have o : ∀ x, x < w.heap.size → (w'.setCell ⟨r, k, none⟩ v).heap[x]? = w'.heap[x]? := fun x hx => heap_setCell_other _ _ _ _ (by show x ≠ r; omega)
  exact ⟨⟨by simpa using h.lt.size, h.lt.labs, fun x hx hi => (o x hx).trans (h.lt.imm x hx hi), h.lt.n, h.lt.err, h.lt.sl⟩, h.eH, h.eJ, h.e0, fun x hx ho => (o x hx).trans (h.oth x hx ho)⟩
set_option maxHeartbeats 8000000 in
theorem then_calls (hP : PS lab K w A) (hT : Tabs K.w0) (hn : K.n < 70000) {p : Nat} (hp : p < A.N) (hws : (A.pr p).ws.length ≤ 1000) (hjs : A.jobs.length ≤ 50000) :
    Calls Tryz.prog 20 #[.pointer (some ⟨K.H, 0, none⟩), .pointer (some ⟨K.J, 0, none⟩), .agg #[.int .i64 5, .int .i64 0, .string ⟨#[]⟩, .int .i64 (4 + 6 * (K.sl p : Int))], .agg #[.int .i64 0, .int .i64 0, .string ⟨#[]⟩, .int .i64 0], .agg #[.int .i64 3, .int .i64 1, .string ⟨#[]⟩, .int .i64 0]] w
      (fun e w' => e = .returned (.tuple #[.agg #[.int .i64 5, .int .i64 0, .string ⟨#[]⟩, .int .i64 (4 + 6 * (K.n : Int))], .int .i64 0]) ∧ ∃ lab' K', PS lab' K' w' (A.new.wait p A.N) ∧ Ext lab K w lab' K' w' A.N ∧ K'.sl A.N = K.n) := by
  have hB := (((((Below.refl w.heap.size w).alloc (Nat.le_refl _) (.cells #[.int .i64 5, .int .i64 0, .string ⟨#[]⟩, .int .i64 (4 + 6 * (K.sl p : Int))] 38)).alloc (by simp) (.cells #[.int .i64 0, .int .i64 0, .string ⟨#[]⟩, .int .i64 0] 38)).alloc (by simp; omega) (.cells #[.int .i64 3, .int .i64 1, .string ⟨#[]⟩, .int .i64 0] 38)).alloc (by simp; omega) (.cells #[.int .i64 0, .int .i64 0, .string ⟨#[]⟩, .int .i64 0] 38))
  have hP2 := hP.below hB
  have hws2 : (A.new.pr p).ws.length ≤ 1000 := by
    show (if p = A.N then _ else A.pr p : Pm).ws.length ≤ 1000
    rw [if_neg (by omega)]
    exact hws
  obtain ⟨A1, hA1⟩ : ∃ A1, A1 = A.new := ⟨_, rfl⟩
  have hN1 : A1.N = A.N + 1 := by rw [hA1]; rfl
  have hj1 : A1.jobs.length ≤ 50000 := by rw [hA1]; exact hjs
  have np := fun (lb : Nat → Lab) W (h : PS lb K W A) => new_ps h (by omega)
  rw [← hA1] at hws2 np ⊢
  clear hA1
  go_enter Tryz.func20, Tryz.ntmps20
  go_wp2_with fail
  refine (promAtP hP2 (by omega) hp).mono ?_
  rintro e w2 ⟨rfl, hb2⟩
  obtain ⟨g0, g1, g2, g3, hB2, hz⟩ := boxes4 hb2
  obtain ⟨hPr, hEr⟩ := PS_relabel hP hB2 (r := w.heap.size + 1 + 1 + 1) (by omega) (blk_lt g3)
  go_wp2_with fail
  refine (np _ _ hPr).mono ?_
  rintro e w3 ⟨rfl, lab1, K1, hP3, hE3, eN, esl⟩
  have lo : ∀ r, w.heap.size ≤ r → r ≠ w.heap.size + 1 + 1 + 1 → up lab (w.heap.size + 1 + 1 + 1) .rw r = .imm := fun r hr hne => (up_lt (.inr hne)).trans (hP.new r hr)
  have k0 := (hE3.lt.imm _ (blk_lt g0) (lo _ (by omega) (by omega))).trans g0
  have k1 := (hE3.lt.imm _ (blk_lt g1) (lo _ (by omega) (by omega))).trans g1
  have k2 := (hE3.lt.imm _ (blk_lt g2) (lo _ (by omega) (by omega))).trans g2
  have k3 := (hE3.oth _ (blk_lt g3) (.inl (up_same _ _))).trans g3
  have hl0 : Hide (lab1 w.heap.size = .imm) := ⟨(hE3.lt.labs _ (blk_lt g0)).trans (lo _ (by omega) (by omega))⟩
  have hl1 : Hide (lab1 (w.heap.size + 1) = .imm) := ⟨(hE3.lt.labs _ (blk_lt g1)).trans (lo _ (by omega) (by omega))⟩
  have hl2 : Hide (lab1 (w.heap.size + 1 + 1) = .imm) := ⟨(hE3.lt.labs _ (blk_lt g2)).trans (lo _ (by omega) (by omega))⟩
  have hl9 : Hide (lab1 (w.heap.size + 1 + 1 + 1) = .rw) := ⟨(hE3.lt.labs _ (blk_lt g3)).trans (up_same _ _)⟩
  have hl3 : Hide (lab1 w3.heap.size = .imm) := ⟨hP3.new _ (Nat.le_refl _)⟩
  have hB3 := (Below.refl w3.heap.size w3).alloc (Nat.le_refl _) (.cells #[.int .i64 5, .int .i64 0, .string ⟨#[]⟩, .int .i64 (4 + 6 * (K.n : Int))] 38)
  go_wp2_with fail
  obtain ⟨d0, d1, d2, d3⟩ := cells4 (hallocn w3 (.cells #[.int .i64 5, .int .i64 0, .string ⟨#[]⟩, .int .i64 (4 + 6 * (K.n : Int))] 38))
  obtain ⟨a0, a1, a2, a3⟩ := cells4 (keep hB3 k0)
  obtain ⟨b0, b1, b2, b3⟩ := cells4 (keep hB3 k1)
  obtain ⟨c0, c1, c2, c3⟩ := cells4 (keep hB3 k2)
  have g9 := keep hB3 k3
  have g12 := hallocn w3 (.cells #[.int .i64 5, .int .i64 0, .string ⟨#[]⟩, .int .i64 (4 + 6 * (K.n : Int))] 38)
  have hP5 := hP3.below hB3
  have eH : K1.H = K.H := hE3.eH
  have eJ : K1.J = K.J := hE3.eJ
  have es : K1.sl p = K.sl p := hE3.lt.sl p hp
  have e0 : K1.w0 = K.w0 := hE3.e0
  have pa := fun W (h : PS lab1 K1 W A1) => promAtP h (by omega) (show p < A1.N by omega)
  have s1 := fun W (h : PS lab1 K1 W A1) => react_calls (kf := 3) (nf := 1) h (by rw [e0]; exact hT) (p := p) (by omega) (who := A.N) (by omega) true ⟨rfl, rfl⟩ hws2 hj1
  rw [eH, es] at pa
  rw [eH, eJ, es, esl] at s1
  have eslH : Hide (K1.sl A.N = K.n) := ⟨esl⟩
  have hEx := (hEr.trans hE3 (Nat.le_refl _)).trans (Ext.below hB3) (Nat.le_refl _)
  have hN1H : Hide (A1.N = A.N + 1) := ⟨hN1⟩
  have hAN : Hide (A.N < A1.N) := ⟨by omega⟩
  clear k0 k1 k2 k3 g0 g1 g2 g3 hP3 hE3 eH eJ es esl e0 eN lo hN1 hB
  generalize w3.alloc (.cells #[.int .i64 5, .int .i64 0, .string ⟨#[]⟩, .int .i64 (4 + 6 * (K.n : Int))] 38) = W5 at *
  generalize w3.heap.size = r12 at *
  have hC : Below W5.heap.size W5 W5.drew := (Below.refl _ W5).drew
  go_region_held3 (fun W : World => W.cell? ⟨w.heap.size, 0, none⟩ = some (.int .i64 5) ∧ W.cell? ⟨w.heap.size, 1, none⟩ = some (.int .i64 0) ∧ W.cell? ⟨w.heap.size, 2, none⟩ = some (.string ⟨#[]⟩) ∧ W.cell? ⟨w.heap.size, 3, none⟩ = some (.int .i64 (4 + 6 * (K.sl p : Int))) ∧ W.cell? ⟨w.heap.size + 1, 0, none⟩ = some (.int .i64 0) ∧ W.cell? ⟨w.heap.size + 1, 1, none⟩ = some (.int .i64 0) ∧ W.cell? ⟨w.heap.size + 1, 2, none⟩ = some (.string ⟨#[]⟩) ∧ W.cell? ⟨w.heap.size + 1, 3, none⟩ = some (.int .i64 0) ∧ W.cell? ⟨w.heap.size + 1 + 1, 0, none⟩ = some (.int .i64 3) ∧ W.cell? ⟨w.heap.size + 1 + 1, 1, none⟩ = some (.int .i64 1) ∧ W.cell? ⟨w.heap.size + 1 + 1, 2, none⟩ = some (.string ⟨#[]⟩) ∧ W.cell? ⟨w.heap.size + 1 + 1, 3, none⟩ = some (.int .i64 0) ∧ W.cell? ⟨r12, 0, none⟩ = some (.int .i64 5) ∧ W.cell? ⟨r12, 1, none⟩ = some (.int .i64 0) ∧ W.cell? ⟨r12, 2, none⟩ = some (.string ⟨#[]⟩) ∧ W.cell? ⟨r12, 3, none⟩ = some (.int .i64 (4 + 6 * (K.n : Int)))) (first | exact ⟨keepc hC a0, keepc hC a1, keepc hC a2, keepc hC a3, keepc hC b0, keepc hC b1, keepc hC b2, keepc hC b3, keepc hC c0, keepc hC c1, keepc hC c2, keepc hC c3, keepc hC d0, keepc hC d1, keepc hC d2, keepc hC d3⟩ | exact ⟨hE6.lt.cell hl0.out (keepc hC a0), hE6.lt.cell hl0.out (keepc hC a1), hE6.lt.cell hl0.out (keepc hC a2), hE6.lt.cell hl0.out (keepc hC a3), hE6.lt.cell hl1.out (keepc hC b0), hE6.lt.cell hl1.out (keepc hC b1), hE6.lt.cell hl1.out (keepc hC b2), hE6.lt.cell hl1.out (keepc hC b3), hE6.lt.cell hl2.out (keepc hC c0), hE6.lt.cell hl2.out (keepc hC c1), hE6.lt.cell hl2.out (keepc hC c2), hE6.lt.cell hl2.out (keepc hC c3), hE6.lt.cell hl3.out (keepc hC d0), hE6.lt.cell hl3.out (keepc hC d1), hE6.lt.cell hl3.out (keepc hC d2), hE6.lt.cell hl3.out (keepc hC d3)⟩) (first | (go_at_call 29; refine (pa _ (hP5.below hC)).mono ?_; rintro e w5 ⟨rfl, hb⟩; replace hC := below_then hC hb; go_simp) | (go_at_call 43; refine (s1 _ (hP5.below hC)).mono ?_; rintro e w6 ⟨rfl, lab6, K6, hP6, hE6⟩; go_simp))
  all_goals
    have z12 := (hE6.lt.imm _ (blk_lt (keep hC g12)) hl3.out).trans (keep hC g12)
    have z9 := (hE6.oth _ (blk_lt (keep hC g9)) (.inl hl9.out)).trans (keep hC g9)
    have l9 := (hE6.lt.labs _ (blk_lt (keep hC g9))).trans hl9.out
    have z10 := (hE6.lt.sl A.N hAN.out).trans eslH.out
    have hEf := hEx.trans ((Ext.below hC).trans hE6 (Nat.le_refl _)) (show A.N ≤ A1.N from Nat.le_of_lt hAN.out)
    obtain ⟨y0, y1, y2, y3⟩ := cells4 z12
    obtain ⟨x0, x1, x2, x3⟩ := cells4 z9
    obtain ⟨f0, f1, f2, f3⟩ := free4 z9
    go_wp2
    have q1 := set4 (.int .i64 5) (.int .i64 0) (.string ⟨#[]⟩) (.int .i64 (4 + 6 * (K.n : Int))) z9
    refine bodyPost_ret (results_row_tmp rfl _ _ (w.heap.size + 1 + 1 + 1) 38 _ (0, 0) _ rfl q1 Tryz.underlying38 rfl i38) rfl ?_
    have hr3 : w.heap.size ≤ w.heap.size + 1 + 1 + 1 := by omega
    exact ⟨rfl, lab6, K6, PS_wr (PS_wr (PS_wr (PS_wr hP6 l9 _ _) l9 _ _) l9 _ _) l9 _ _, Ext_wr (Ext_wr (Ext_wr (Ext_wr hEf hr3 _ _) hr3 _ _) hr3 _ _) hr3 _ _, z10⟩
end
end Go.Proofs.YtcceopgaiffkmaaGreatDoor
