/- PromiseChains, proved: for every input the law hands back true and each argument reads as before. Condition: the variables of the library that the row lists read as the row lays them; the card ties them to the program's text. -/
import Derived.Test.YtbckjaoljeimgaaGreatDoorChE
import Derived.Test.YtbckjaoljeimgaaGreatDoorChFactsA
import Derived.Test.YtbckjaoljeimgaaGreatDoorChFactsC
import Derived.Test.YtbckjaoljeimgaaGreatDoorTie
import Derived.Test.YtbckjaoljeimgaaGreatDoorCards
import Derived.LaidMore
import Derived.Lay
import Derived.Stop.Joined
import Derived.Carry
import Derived.Lib.SmallJoins
namespace Go.Proofs.YtbckjaoljeimgaaGreatDoor.promiseChains
open Go.ChangeShapes Go.WideShapes Go.ChangeAt Go.RowKit
set_option maxRecDepth 100000
theorem kept_of_below {w w' : World} (h : RowKit.Below w.heap.size w w') : w.keptBut w' (fun _ => False) := by
 refine ⟨h.os, h.output, fun i hi => ?_⟩
 rw [h.block i hi]
 split
 ·rename_i h1 h2
  rw [h1] at h2
  cases h2
  exact ⟨rfl, rfl, rfl, fun _ _ => rfl⟩
 ·rename_i h1 h2
  rw [h1] at h2
  cases h2
  exact .inr ⟨rfl, rfl⟩
 ·rfl
theorem laidOut : laidOutB Tryz.prog = true := by kernel_rfl
theorem own : ownKnob Tryz.prog.godebug = none := by kernel_rfl
theorem cells5 : Tryz.prog.cellsOf 5 = 1 := by kernel_rfl
theorem fits_u8 {a : Int} (h : (Lit.int .u8 a).wf = true) : 0 ≤ a ∧ a ≤ 255 := by
 have e1 : IntKind.min .u8 = 0 := by kernel_rfl
 have e2 : IntKind.max .u8 = 255 := by kernel_rfl
 simpa [Lit.wf, e1, e2] using h
theorem larg {H : Type} {enc : TypeId × Value → H} {W : World} {base : Nat} {sp : Nat → Bool} {hd : Bool} {v : Value} {d : DataW H} {ps : List MemPlace} (hval : Value.okWide Tryz.prog W .any base 65 v) (h : DataW.Trod enc Tryz.prog W 0 sp hd 65 v d ps) : LArg W v := by
 obtain ⟨a, len, cap, rfl⟩ := okWide_slice Tryz.underlying65 hval
 obtain ⟨fuel, hf⟩ := h
 have hf : DataW.trod enc Tryz.prog W 0 sp hd fuel 65 [.slice a len cap] = some (d, ps) := hf
 rcases DataW.trod_slice Tryz.underlying65 hf with ⟨e, _⟩ | ⟨a', len', cap', elems, rest, n, _, e, _, _, hlc, _, hel, hE, _⟩
 ·exact .inl (List.singleton_inj.1 e)
 ·obtain ⟨rfl, rfl, rfl⟩ : a = some a' ∧ len = len' ∧ cap = cap' := by
   have := List.singleton_inj.1 e
   injection this with h1 h2 h3
   exact ⟨h1, h2, h3⟩
  obtain ⟨b, o, spot⟩ := a'
  simp only [Value.okWide, Tryz.underlying65, Cell.okWide, Cell.ok, World.has] at hval
  obtain ⟨_, _, _, hspot, row, cells, hsh, _⟩ := hval
  subst hspot
  have hob : b < W.heap.size := by
   cases hb : W.heap[b]? with
   | some ob => exact (Array.getElem?_eq_some_iff.1 hb).1
   | none => simp [World.shape?, hb] at hsh
  refine .inr ⟨b, o, len, cap, rfl, hob, fun n hn => ?_⟩
  have h0 := hE n (by omega)
  rw [cells5] at h0
  obtain ⟨y, hy⟩ : ∃ y, elems[n]? = some y := ⟨_, List.getElem?_eq_getElem (by omega)⟩
  rw [hy] at h0
  obtain ⟨cs, hcs, ht⟩ := Option.bind_eq_some_iff.1 h0
  obtain ⟨b0, e0, _, w0⟩ := DataW.trod_int Tryz.underlying5 ht
  subst e0
  have q0 := (World.cells?_some hcs).2.2 0 (by omega)
  have q1 : W.cell? ⟨b, o + n, none⟩ = some (.int .u8 b0) := by
   rcases Nat.eq_zero_or_pos n with rfl | hp
   ·simpa [Addr.add] using q0
   ·simpa [Addr.add, show n ≠ 0 by omega] using q0
  exact ⟨b0, (fits_u8 w0).1, (fits_u8 w0).2, q1⟩
theorem lifted (os : Os) (started : os.Started) (H : Type) (enc : TypeId × Value → H) :
  ReturnsInHanded {} Tryz.checked os 4 .any (fun w args => (Rows.promiseChainsSpec.pre enc Tryz.prog Tryz.f4 Rows.promiseChainsRow.domain false w args ∧ laidMetH Tryz.prog Rows.promiseChainsRow.laid w) ∧ sizedMet enc Tryz.prog Tryz.f4 (OpenSpec.ofChange Rows.promiseChainsSpec) false w args)
   (Rows.promiseChainsSpec.post enc Tryz.prog Tryz.f4 false true false false) := by
 refine returnsInHanded_of_change_and (C := Tryz.checked) (X := fun w _ => laidMetH Tryz.prog Rows.promiseChainsRow.laid w) (fun _ _ _ hh h => h.of_heap hh) own started (by kernel_rfl) Tryz.func4
  (ChangeSpec.witness_shaped (enc := enc) (C := Tryz.checked) (os := os) (X := fun w _ => laidMetH Tryz.prog Rows.promiseChainsRow.laid w) false (World.laidAll Tryz.prog os Rows.promiseChainsRow.laid) #[.int .i32 0, .slice none 0 0] 8 (World.laidAll_os _ _ _)
   (World.shaped_of_ZipB (by kernel_rfl) (by kernel_rfl)) (by kernel_rfl) (by kernel_rfl) (by kernel_rfl)
   (by rw [MakeChecks.laidMetH_plain _ _ _ (by kernel_rfl)]; exact laidMet_laidAll _ (by kernel_rfl) (by kernel_rfl))) ?_
 intro W base args ds gs before hval0 hW hc _ hL _
 have hval : ∀ (j : Nat) t v, Tryz.f4.params[j]? = some t → args[j]? = some v → Value.okWide Tryz.prog W .any base t v := hval0
 have hW' := hW
 have hlt := hW.lt
 obtain ⟨p, q, hA0, hV, rfl, _, _⟩ := hW
 have hA : DataW.TrodAll enc Tryz.prog W 0 (fun _ => true) true Tryz.f4.params.toList args.toList ds p := hA0
 rw [Tryz.params4] at hA hval
 obtain ⟨v0, vs0, d0, ds0, p0, q0, hargs, rfl, rfl, h0, r0⟩ := trodAll_cons hA
 obtain ⟨v1, vs1, d1, ds1, p1, q1, rfl, rfl, rfl, h1, r1⟩ := trodAll_cons r0
 obtain ⟨rfl, rfl, rfl⟩ := trodAll_nil r1
 obtain rfl : args = #[v0, v1] := by cases args; simp_all
 obtain ⟨rfl, rfl⟩ := trodVars_none hV
 have hl := larg (hval 1 65 v1 rfl rfl) h1
 obtain ⟨a0, rfl, rfl, rfl, w0⟩ := open_int Tryz.underlying21 (hval 0 21 v0 rfl rfl) h0
 have hn : -2147483648 ≤ a0 ∧ a0 ≤ 2147483647 := by
  have e1 : IntKind.min .i32 = -2147483648 := by kernel_rfl
  have e2 : IntKind.max .i32 = 2147483647 := by kernel_rfl
  simpa [Lit.wf, e1, e2] using w0
 clear hA0 hval0
 simp only [List.append_nil, List.nil_append] at hW' hlt
 refine (walk W a0 hn v1 hl).mono fun e W' ⟨he, hk⟩ => ?_
 subst he
 have s2 := Below.trod laidOut (by kernel_rfl) (of_decide_eq_true (by kernel_rfl)) h1 hk fun x hx => by simpa using hlt x hx
 refine ⟨_, rfl, _, _, _, [], p1, [], hW', ?_, ?_, ?_, ?_, fun h => by cases h⟩
 ·exact trodAll_cons_mk (shut_bool Tryz.underlying4 _) trodAll_mk0
 ·have := trodAll_cons_mk (shut_int Tryz.underlying21 w0) (trodAll_cons_mk s2 trodAll_mk0)
  simp only [List.append_nil, List.nil_append] at this
  exact this
 ·rfl
 ·exact World.keptBut_mono (fun _ h => h.elim) (kept_of_below hk)
theorem closed : joinedFacts Tryz.prog 4 Tryz.f4 Rows.promiseChainsSpec Rows.promiseChainsRow = true := by
 unfold joinedFacts
 rw [k10, k11, k12, k13]
 kernel_rfl
theorem over : Rows.PromiseChainsSaid :=
 OpenClaim.holds_of_wide 4 Tryz.f4 rfl rfl rfl rfl rfl rfl rfl ⟨rfl, rfl, rfl, rfl, rfl⟩ rfl rfl rfl rfl rfl c6 Tryz.func4 closed
  (of_decide_eq_true (by kernel_rfl)) (by unfold Func.isWrapper; first | (rw [if_pos (by decide +kernel)]; kernel_rfl) | (rw [if_neg (by decide +kernel)]; exact ⟨rfl, rfl⟩))
  (fun os started H enc _ => lifted os started H enc)
theorem reads (f : FuncId) (fn : Func) (hf : Tryz.pinned.checked.prog.funcNamed Rows.promiseChainsRow.func = some f) (hfn : Tryz.pinned.checked.prog.funcs[f]? = some fn) :
  true = Tryz.pinned.checked.prog.looks [] ∧ ∀ (j : Nat) t, fn.params[j]? = some t → Tryz.pinned.checked.prog.wantsStandIn t = false := by
 obtain rfl : f = 4 := (Option.some.inj (c6.symm.trans hf)).symm
 obtain rfl : fn = Tryz.f4 := (Option.some.inj (Tryz.func4.symm.trans hfn)).symm
 refine ⟨c3, fun j t ht => ?_⟩
 rw [Tryz.params4] at ht
 have hm : t ∈ [21, 65] := by simpa using Array.mem_of_getElem? ht
 exact (show Tryz.prog.wantsStandIn t = false by simpa using List.all_eq_true.1 c5 t hm)
theorem card : Rows.PromiseChainsCardSaid :=
 Claim7.holds_tied_plain_at .later [] [.data, .data, .data, .data, .sentinel, .sentinel, .pinned] true (true, "5be27dadfe86adbadf9519445363520cc479fddbc4d89ae026e2c639f6aeb857") true over (fun _ h => by cases h) c1 (fun _ h => by cases h) promiseChains_row_tie rfl ⟨rfl, rfl⟩ c2 rfl
  reads c4
end Go.Proofs.YtbckjaoljeimgaaGreatDoor.promiseChains
