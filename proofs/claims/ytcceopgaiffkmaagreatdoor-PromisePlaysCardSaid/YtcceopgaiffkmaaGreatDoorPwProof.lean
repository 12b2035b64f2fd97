/- PromisePlays, proved: for every input the law hands back true and each argument reads as before. Condition: the variables of the library that the row lists read as the row lays them; the card ties them to the program's text. -/
import Derived.Test.YtcceopgaiffkmaaGreatDoorPwE
import Derived.Test.YtcceopgaiffkmaaGreatDoorPwFactsA
import Derived.Test.YtcceopgaiffkmaaGreatDoorPwFactsC
import Derived.Test.YtcceopgaiffkmaaGreatDoorTie
import Derived.Test.YtcceopgaiffkmaaGreatDoorCards
import Derived.LaidMore
import Derived.Lay
import Derived.Stop.Joined
import Derived.Carry
import Derived.Lib.SmallJoins
import Derived.Lib.LaidU8T
import Derived.ProofKit
import Derived.OpenShut
import Derived.SevenTiedAt
namespace Go.Proofs.YtcceopgaiffkmaaGreatDoor.promisePlays
open Go Go.ChangeShapes Go.WideShapes Go.ChangeAt Go.RowKit Go.Lib Go.Proofs
open Go.Joins (trod_struct4)
set_option maxRecDepth 100000
theorem kept_of_below {w w' : World} (h : RowKit.Below w.heap.size w w') : w.keptBut w' (fun _ => False) := by
 refine ⟨h.os, h.output, fun i hi => ?_⟩
 rw [h.block i hi]
 split
 ·rename_i h1 h2
  rw [h1] at h2
  cases h2
  exact ⟨rfl, rfl, rfl, fun _ _ => rfl⟩
 ·rename_i h1 h2
  rw [h1] at h2
  cases h2
  exact .inr ⟨rfl, rfl⟩
 ·rfl
theorem laidOut : laidOutB Tryz.prog = true := by kernel_rfl
theorem own : ownKnob Tryz.prog.godebug = none := by kernel_rfl
theorem cells5 : Tryz.prog.cellsOf 5 = 1 := by kernel_rfl
theorem cells3 : Tryz.prog.cellsOf 3 = 1 := by kernel_rfl
theorem cells2 : Tryz.prog.cellsOf 2 = 1 := by kernel_rfl
theorem cells9 : Tryz.prog.cellsOf 9 = 1 := by kernel_rfl
theorem cells38 : Tryz.prog.cellsOf 38 = 4 := by kernel_rfl
theorem cells45 : Tryz.prog.cellsOf 45 = 7 := by kernel_rfl
theorem fits_u8 {a : Int} (h : (Lit.int .u8 a).wf = true) : ∃ n : Nat, a = n ∧ n < 256 := by
 have e1 : IntKind.min .u8 = 0 := by kernel_rfl
 have e2 : IntKind.max .u8 = 255 := by kernel_rfl
 have h' : 0 ≤ a ∧ a ≤ 255 := by simpa [Lit.wf, e1, e2] using h
 exact ⟨a.toNat, by omega, by omega⟩
theorem seven {l : List Value} (h : l.length = 7) : ∃ a b c d e f g, l = [a, b, c, d, e, f, g] := by
 match l, h with
 | [a, b, c, d, e, f, g], _ => exact ⟨a, b, c, d, e, f, g, rfl⟩
theorem add_at (b o k : Nat) : (⟨b, o, none⟩ : Addr).add k = ⟨b, o + k, none⟩ := by
 rcases Nat.eq_zero_or_pos k with rfl | hp
 ·simp [Addr.add]
 ·simp [Addr.add, show k ≠ 0 by omega]
/-- the tables, of what the row lays -/
theorem tabs_of_laid {l : List (String × DataW Unit)} {w : World} (hL : laidMet Tryz.prog l w) (h3 : ("unicode/utf8.first", Lib.firstData) ∈ l) (h4 : ("unicode/utf8.acceptRanges", Lib.acceptData) ∈ l) : Tabs w :=
 Go.Proofs.utf8Tabs_of_readsT (U8Types.of196 Tryz.lays196) ⟨by kernel_rfl, by kernel_rfl, by kernel_rfl, by kernel_rfl, by kernel_rfl, by kernel_rfl, by kernel_rfl⟩ (Lib.laidMet.reads hL h3) (Lib.laidMet.reads hL h4)
theorem first_eq : Rows.laid_unicode_utf8_first = Lib.firstData := by kernel_rfl
theorem accept_eq : (Rows.laid_unicode_utf8_acceptRanges : DataW Unit) = Lib.acceptData := by kernel_rfl
/-- an operation, of what its cells say -/
theorem op_at {H : Type} {enc : TypeId × Value → H} {W : World} {sp : Nat → Bool} {hd : Bool} {fuel b o : Nat} {cs : List Value} {x : DataW H × List MemPlace} (hlen : cs.length = 7) (hc : ∀ i, i < 7 → W.cell? ((⟨b, o, none⟩ : Addr).add i) = cs[i]?) (ht : DataW.trod enc Tryz.prog W 0 sp hd fuel 45 cs = some x) : OpAt W b o := by
 obtain ⟨y0, y1, y2, y3, n, _, _, t0, t1, t2, t3⟩ := trod_struct4 Tryz.underlying45 ht
 obtain ⟨a0, a1, a2, a3, a4, a5, a6, rfl⟩ := seven hlen
 replace t0 : DataW.trod enc Tryz.prog W 0 sp hd n 5 [a0] = some y0 := by rw [← t0, cells5]; rfl
 replace t1 : DataW.trod enc Tryz.prog W 0 sp hd n 5 [a1] = some y1 := by rw [← t1, cells5]; rfl
 replace t2 : DataW.trod enc Tryz.prog W 0 sp hd n 5 [a2] = some y2 := by rw [← t2, cells5]; rfl
 replace t3 : DataW.trod enc Tryz.prog W 0 sp hd n 38 [a3, a4, a5, a6] = some y3 := by rw [← t3, cells38]; rfl
 obtain ⟨z0, z1, z2, z3, n', _, _, s0, s1, s2, s3⟩ := trod_struct4 Tryz.underlying38 t3
 replace s0 : DataW.trod enc Tryz.prog W 0 sp hd n' 3 [a3] = some z0 := by rw [← s0, cells3]; rfl
 replace s1 : DataW.trod enc Tryz.prog W 0 sp hd n' 2 [a4] = some z1 := by rw [← s1, cells2]; rfl
 replace s2 : DataW.trod enc Tryz.prog W 0 sp hd n' 9 [a5] = some z2 := by rw [← s2, cells9]; rfl
 replace s3 : DataW.trod enc Tryz.prog W 0 sp hd n' 3 [a6] = some z3 := by rw [← s3, cells3]; rfl
 obtain ⟨u0, e0, _, w0⟩ := DataW.trod_int Tryz.underlying5 t0
 obtain ⟨u1, e1, _, w1⟩ := DataW.trod_int Tryz.underlying5 t1
 obtain ⟨u2, e2, _, w2⟩ := DataW.trod_int Tryz.underlying5 t2
 obtain ⟨u3, e3, _, w3⟩ := DataW.trod_int Tryz.underlying3 s0
 obtain ⟨u4, e4, _, w4⟩ := DataW.trod_int Tryz.underlying2 s1
 obtain ⟨u5, e5, _, w5⟩ := DataW.trod_string Tryz.underlying9 s2
 obtain ⟨u6, e6, _, w6⟩ := DataW.trod_int Tryz.underlying3 s3
 obtain rfl := List.singleton_inj.1 e0
 obtain rfl := List.singleton_inj.1 e1
 obtain rfl := List.singleton_inj.1 e2
 obtain rfl := List.singleton_inj.1 e3
 obtain rfl := List.singleton_inj.1 e4
 obtain rfl := List.singleton_inj.1 e5
 obtain rfl := List.singleton_inj.1 e6
 obtain ⟨v0, rfl, l0⟩ := fits_u8 w0
 obtain ⟨v1, rfl, l1⟩ := fits_u8 w1
 obtain ⟨v2, rfl, l2⟩ := fits_u8 w2
 simp only [add_at] at hc
 exact ⟨v0, v1, v2, u3, u4, u6, u5, l0, l1, l2, hc 0 (by omega), hc 1 (by omega), hc 2 (by omega), hc 3 (by omega), hc 4 (by omega), hc 5 (by omega), hc 6 (by omega)⟩
theorem larg {H : Type} {enc : TypeId × Value → H} {W : World} {base : Nat} {sp : Nat → Bool} {hd : Bool} {v : Value} {d : DataW H} {ps : List MemPlace} (hval : Value.okWide Tryz.prog W .any base 22 v) (h : DataW.Trod enc Tryz.prog W 0 sp hd 22 v d ps) : LArg W v := by
 obtain ⟨a, len, cap, rfl⟩ := okWide_slice Tryz.underlying22 hval
 obtain ⟨fuel, hf⟩ := h
 have hf : DataW.trod enc Tryz.prog W 0 sp hd fuel 22 [.slice a len cap] = some (d, ps) := hf
 rcases DataW.trod_slice Tryz.underlying22 hf with ⟨e, _⟩ | ⟨a', len', cap', elems, rest, n, _, e, _, _, hlc, _, hel, hE, _⟩
 ·have := List.singleton_inj.1 e
  injection this with h1 h2 h3
  exact ⟨a, len, cap, rfl, fun n hn => by omega⟩
 ·obtain ⟨rfl, rfl, rfl⟩ : a = some a' ∧ len = len' ∧ cap = cap' := by
   have := List.singleton_inj.1 e
   injection this with h1 h2 h3
   exact ⟨h1, h2, h3⟩
  obtain ⟨b, o, spot⟩ := a'
  simp only [Value.okWide, Tryz.underlying22, Cell.okWide, Cell.ok, World.has] at hval
  obtain ⟨_, _, _, hspot, row, cells, hsh, _⟩ := hval
  subst hspot
  have hob : b < W.heap.size := by
   cases hb : W.heap[b]? with
   | some ob => exact (Array.getElem?_eq_some_iff.1 hb).1
   | none => simp [World.shape?, hb] at hsh
  refine ⟨_, len, cap, rfl, fun n hn => ⟨b, o, rfl, hob, ?_⟩⟩
  have h0 := hE n (by omega)
  rw [cells45] at h0
  obtain ⟨y, hy⟩ : ∃ y, elems[n]? = some y := ⟨_, List.getElem?_eq_getElem (by omega)⟩
  rw [hy] at h0
  obtain ⟨cs, hcs, ht⟩ := Option.bind_eq_some_iff.1 h0
  rw [add_at] at hcs
  have q := World.cells?_some hcs
  exact op_at q.2.1 (fun i hi => q.2.2 i hi) ht
theorem lifted (os : Os) (started : os.Started) (H : Type) (enc : TypeId × Value → H) :
  ReturnsInHanded {} Tryz.checked os 3 .any (fun w args => (Rows.promisePlaysSpec.pre enc Tryz.prog Tryz.f3 Rows.promisePlaysRow.domain false w args ∧ laidMetH Tryz.prog Rows.promisePlaysRow.laid w) ∧ sizedMet enc Tryz.prog Tryz.f3 (OpenSpec.ofChange Rows.promisePlaysSpec) false w args)
   (Rows.promisePlaysSpec.post enc Tryz.prog Tryz.f3 false true false false) := by
 refine returnsInHanded_of_change_and (C := Tryz.checked) (X := fun w _ => laidMetH Tryz.prog Rows.promisePlaysRow.laid w) (fun _ _ _ hh h => h.of_heap hh) own started (by kernel_rfl) Tryz.func3
  (ChangeSpec.witness_shaped (enc := enc) (C := Tryz.checked) (os := os) (X := fun w _ => laidMetH Tryz.prog Rows.promisePlaysRow.laid w) false (World.laidAll Tryz.prog os Rows.promisePlaysRow.laid) #[.slice none 0 0] 8 (World.laidAll_os _ _ _)
   (World.shaped_of_ZipB (by kernel_rfl) (by kernel_rfl)) (by kernel_rfl) (by kernel_rfl) (by kernel_rfl)
   (by rw [MakeChecks.laidMetH_plain _ _ _ (by kernel_rfl)]; exact laidMet_laidAll _ (by kernel_rfl) (by kernel_rfl))) ?_
 intro W base args ds gs before hval0 hW hc _ hL _
 have hT : Tabs W := by
  rw [MakeChecks.laidMetH_plain _ _ _ (by kernel_rfl)] at hL
  refine tabs_of_laid hL ?_ ?_
  ·rw [← first_eq]
   exact .tail _ (.tail _ (.tail _ (.tail _ (.tail _ (.tail _ (.head _))))))
  ·rw [← accept_eq]
   exact .tail _ (.tail _ (.tail _ (.head _)))
 have hval : ∀ (j : Nat) t v, Tryz.f3.params[j]? = some t → args[j]? = some v → Value.okWide Tryz.prog W .any base t v := hval0
 have hW' := hW
 have hlt := hW.lt
 obtain ⟨p, q, hA0, hV, rfl, _, _⟩ := hW
 have hA : DataW.TrodAll enc Tryz.prog W 0 (fun _ => true) true Tryz.f3.params.toList args.toList ds p := hA0
 rw [Tryz.params3] at hA hval
 obtain ⟨v0, vs0, d0, ds0, p0, q0, hargs, rfl, rfl, h0, r0⟩ := trodAll_cons hA
 obtain ⟨rfl, rfl, rfl⟩ := trodAll_nil r0
 obtain rfl : args = #[v0] := by cases args; simp_all
 obtain ⟨rfl, rfl⟩ := trodVars_none hV
 have hl := larg (hval 0 22 v0 rfl rfl) h0
 clear hA0 hval0
 simp only [List.append_nil] at hW' hlt
 refine (walk W hT v0 hl).mono fun e W' ⟨he, hk⟩ => ?_
 subst he
 have s2 := Below.trod laidOut (by kernel_rfl) (of_decide_eq_true (by kernel_rfl)) h0 hk fun x hx => by simpa using hlt x hx
 refine ⟨_, rfl, _, _, _, [], p0, [], hW', ?_, ?_, ?_, ?_, fun h => by cases h⟩
 ·exact trodAll_cons_mk (shut_bool Tryz.underlying4 _) trodAll_mk0
 ·have := trodAll_cons_mk s2 trodAll_mk0
  simp only [List.append_nil] at this
  exact this
 ·rfl
 ·exact World.keptBut_mono (fun _ h => h.elim) (kept_of_below hk)
theorem closed : joinedFacts Tryz.prog 3 Tryz.f3 Rows.promisePlaysSpec Rows.promisePlaysRow = true := by
 unfold joinedFacts
 rw [k10, k11, k12, k13]
 kernel_rfl
theorem over : Rows.PromisePlaysSaid :=
 OpenClaim.holds_of_wide 3 Tryz.f3 rfl rfl rfl rfl rfl rfl rfl ⟨rfl, rfl, rfl, rfl, rfl⟩ rfl rfl rfl rfl rfl c6 Tryz.func3 closed
  (of_decide_eq_true (by kernel_rfl)) (by unfold Func.isWrapper; first | (rw [if_pos (by decide +kernel)]; kernel_rfl) | (rw [if_neg (by decide +kernel)]; exact ⟨rfl, rfl⟩))
  (fun os started H enc _ => lifted os started H enc)
theorem reads (f : FuncId) (fn : Func) (hf : Tryz.pinned.checked.prog.funcNamed Rows.promisePlaysRow.func = some f) (hfn : Tryz.pinned.checked.prog.funcs[f]? = some fn) :
  true = Tryz.pinned.checked.prog.looks [] ∧ ∀ (j : Nat) t, fn.params[j]? = some t → Tryz.pinned.checked.prog.wantsStandIn t = false := by
 obtain rfl : f = 3 := (Option.some.inj (c6.symm.trans hf)).symm
 obtain rfl : fn = Tryz.f3 := (Option.some.inj (Tryz.func3.symm.trans hfn)).symm
 refine ⟨c3, fun j t ht => ?_⟩
 rw [Tryz.params3] at ht
 have hm : t ∈ [22] := by simpa using Array.mem_of_getElem? ht
 exact (show Tryz.prog.wantsStandIn t = false by simpa using List.all_eq_true.1 c5 t hm)
theorem card : Rows.PromisePlaysCardSaid :=
 Claim7.holds_tied_plain_at .later [] [.data, .data, .data, .data, .sentinel, .sentinel, .pinned] true (true, "a5433a4378f19fd4dd9286856c879a3dc346107171da8a413ab4d66bb524b8f0") true over (fun _ h => by cases h) c1 (fun _ h => by cases h) promisePlays_row_tie rfl ⟨rfl, rfl⟩ c2 rfl
  reads c4
end Go.Proofs.YtcceopgaiffkmaaGreatDoor.promisePlays
