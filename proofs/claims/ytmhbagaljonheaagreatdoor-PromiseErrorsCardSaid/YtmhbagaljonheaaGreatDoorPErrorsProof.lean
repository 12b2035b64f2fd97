/- PromiseErrors, proved: for every input the law hands back true and each argument reads as before. Condition: the variables of the library that the row lists read as the row lays them; the card ties them to the program's text. -/
import Derived.Test.YtmhbagaljonheaaGreatDoorPErrorsWalk
import Derived.Test.YtmhbagaljonheaaGreatDoorPErrorsFactsA
import Derived.Test.YtmhbagaljonheaaGreatDoorPErrorsFactsB
import Derived.Test.YtmhbagaljonheaaGreatDoorPErrorsFactsC
import Derived.Test.YtmhbagaljonheaaGreatDoorPErrorsFactsD
import Derived.Test.YtmhbagaljonheaaGreatDoorTie
import Derived.Test.YtmhbagaljonheaaGreatDoorCards
import Derived.ProofKit
import Derived.OpenShut
import Derived.LaidMore
import Derived.Lay
import Derived.SevenTiedAt
import Derived.Stop.Joined
import Derived.Lib.SmallJoins
import Derived.Lib.LaidU8T
import Derived.Carry
namespace Go.Proofs.YtmhbagaljonheaaGreatDoor
open Go.Lib Go.Proofs
set_option maxRecDepth 100000
/-- the two tables, of what a row lays -/
theorem tabs_of_laid {l : List (String × DataW Unit)} {w : World} (hL : laidMet Tryz.prog l w) (h3 : ("unicode/utf8.first", firstData) ∈ l) (h4 : ("unicode/utf8.acceptRanges", acceptData) ∈ l) : Tabs w :=
  utf8Tabs_of_readsT (U8Types.of196 Tryz.lays196) ⟨by kernel_rfl, by kernel_rfl, by kernel_rfl, by kernel_rfl, by kernel_rfl, by kernel_rfl, by kernel_rfl⟩ (Lib.laidMet.reads hL h3) (Lib.laidMet.reads hL h4)
theorem first_eq : Rows.laid_unicode_utf8_first = firstData := by kernel_rfl
theorem accept_eq : (Rows.laid_unicode_utf8_acceptRanges : DataW Unit) = acceptData := by kernel_rfl
theorem laidOut : laidOutB Tryz.prog = true := by kernel_rfl
end Go.Proofs.YtmhbagaljonheaaGreatDoor
namespace Go.Proofs.YtmhbagaljonheaaGreatDoor.promiseErrors
open Go.ChangeShapes Go.WideShapes Go.ChangeAt Go.RowKit
open Go.ChangeMaps (open_string shut_string)
open Go.Joins (open_agg4 shut_agg4 field_of_Trod trod_struct4)
set_option maxRecDepth 100000

theorem own : ownKnob Tryz.prog.godebug = none := by kernel_rfl
theorem cells3 : Tryz.prog.cellsOf 3 = 1 := by kernel_rfl
theorem cells2 : Tryz.prog.cellsOf 2 = 1 := by kernel_rfl
theorem cells9 : Tryz.prog.cellsOf 9 = 1 := by kernel_rfl
theorem cells23 : Tryz.prog.cellsOf 23 = 4 := by kernel_rfl

/-- a slice of values that came in -/
theorem larg {H : Type} {enc : TypeId × Value → H} {W : World} {base : Nat} {sp : Nat → Bool} {hd : Bool} {v : Value} {d : DataW H} {ps : List MemPlace} (hval : Value.okWide Tryz.prog W .any base 54 v) (h : DataW.Trod enc Tryz.prog W 0 sp hd 54 v d ps) : LArg W v := by
  obtain ⟨a, len, cap, rfl⟩ := okWide_slice Tryz.underlying54 hval
  obtain ⟨fuel, hf⟩ := h
  have hf : DataW.trod enc Tryz.prog W 0 sp hd fuel 54 [.slice a len cap] = some (d, ps) := hf
  rcases DataW.trod_slice Tryz.underlying54 hf with ⟨e, _⟩ | ⟨a', len', cap', elems, rest, n, _, e, _, _, hlc, _, hel, hE, _⟩
  · exact .inl (List.singleton_inj.1 e)
  · obtain ⟨rfl, rfl, rfl⟩ : a = some a' ∧ len = len' ∧ cap = cap' := by
      have := List.singleton_inj.1 e
      injection this with h1 h2 h3
      exact ⟨h1, h2, h3⟩
    obtain ⟨b, o, spot⟩ := a'
    simp only [Value.okWide, Tryz.underlying54, Cell.okWide, Cell.ok, World.has] at hval
    obtain ⟨_, _, _, hspot, row, cells, hsh, _⟩ := hval
    subst hspot
    obtain ⟨ob, hob⟩ : ∃ ob, W.heap[b]? = some ob := by
      cases hb : W.heap[b]? with
      | some ob => exact ⟨ob, rfl⟩
      | none => simp [World.shape?, hb] at hsh
    refine .inr ⟨b, o, len, cap, ob, rfl, hlc, hob, fun h1 => ?_⟩
    have h0 := hE 0 (by omega)
    rw [cells23] at h0
    obtain ⟨y, hy⟩ : ∃ y, elems[0]? = some y := ⟨_, List.getElem?_eq_getElem (by omega)⟩
    rw [hy] at h0
    obtain ⟨cs, hcs, ht⟩ := Option.bind_eq_some_iff.1 h0
    obtain ⟨y0, y1, y2, y3, n', _, hlen, t0, t1, t2, t3⟩ := trod_struct4 Tryz.underlying23 ht
    rw [cells23] at hlen
    obtain ⟨c0, c1, c2, c3, rfl⟩ : ∃ c0 c1 c2 c3, cs = [c0, c1, c2, c3] := by
      match cs, hlen with
      | [c0, c1, c2, c3], _ => exact ⟨c0, c1, c2, c3, rfl⟩
    simp only [cells3, cells2, cells9, List.drop_zero, List.drop_succ_cons, List.take_succ_cons, List.take_zero] at t0 t1 t2 t3
    obtain ⟨b0, e0, _, w0⟩ := DataW.trod_int Tryz.underlying3 t0
    obtain ⟨b1, e1, _, w1⟩ := DataW.trod_int Tryz.underlying2 t1
    obtain ⟨b2, e2, _, w2⟩ := DataW.trod_string Tryz.underlying9 t2
    obtain ⟨b3, e3, _, w3⟩ := DataW.trod_int Tryz.underlying3 t3
    obtain rfl := List.singleton_inj.1 e0
    obtain rfl := List.singleton_inj.1 e1
    obtain rfl := List.singleton_inj.1 e2
    obtain rfl := List.singleton_inj.1 e3
    have cell := (World.cells?_some hcs).2.2
    have q0 := cell 0 (by omega)
    have q1 := cell 1 (by omega)
    have q2 := cell 2 (by omega)
    have q3 := cell 3 (by omega)
    simp only [Addr.add, Nat.zero_mul, Nat.add_zero, List.getElem?_cons_zero, List.getElem?_cons_succ] at q0 q1 q2 q3
    exact ⟨b0, b1, b2, b3, fits_i64 w0, fits_i64 w1, fits_i64 w3, by unfold maxLen at w2; omega, q0, q1, q2, q3⟩

theorem lifted (os : Os) (started : os.Started) (H : Type) (enc : TypeId × Value → H) :
    ReturnsInHanded {} Tryz.checked os 5 .any (fun w args => (Rows.promiseErrorsSpec.pre enc Tryz.prog Tryz.f5 Rows.promiseErrorsRow.domain false w args ∧ laidMetH Tryz.prog Rows.promiseErrorsRow.laid w) ∧ sizedMet enc Tryz.prog Tryz.f5 (OpenSpec.ofChange Rows.promiseErrorsSpec) false w args)
      (Rows.promiseErrorsSpec.post enc Tryz.prog Tryz.f5 false true false false) := by
  refine returnsInHanded_of_change_and (C := Tryz.checked) (X := fun w _ => laidMetH Tryz.prog Rows.promiseErrorsRow.laid w) (fun _ _ _ hh h => h.of_heap hh) own started (by kernel_rfl) Tryz.func5
    (ChangeSpec.witness_shaped (enc := enc) (C := Tryz.checked) (os := os) (X := fun w _ => laidMetH Tryz.prog Rows.promiseErrorsRow.laid w) false (World.laidAll Tryz.prog os Rows.promiseErrorsRow.laid) #[.agg #[.int .i64 0, .int .i64 0, .string ⟨#[]⟩, .int .i64 0], .int .i64 0, .slice none 0 0] 8 (World.laidAll_os _ _ _)
      (World.shaped_of_ZipB (by kernel_rfl) (by kernel_rfl)) (by kernel_rfl) (by kernel_rfl) (by kernel_rfl)
      (by rw [MakeChecks.laidMetH_plain _ _ _ (by kernel_rfl)]; exact laidMet_laidAll _ (by kernel_rfl) (by kernel_rfl))) ?_
  intro W base args ds gs before hval0 hW hc _ hL _
  have hT : Tabs W := by
    rw [MakeChecks.laidMetH_plain _ _ _ (by kernel_rfl)] at hL
    refine tabs_of_laid hL ?_ ?_
    · rw [← first_eq]; exact .tail _ (.tail _ (.tail _ (.tail _ (.tail _ (.tail _ (.head _))))))
    · rw [← accept_eq]; exact .tail _ (.tail _ (.tail _ (.head _)))
  have hval : ∀ (j : Nat) t v, Tryz.f5.params[j]? = some t → args[j]? = some v → Value.okWide Tryz.prog W .any base t v := hval0
  have hW' := hW
  have hlt := hW.lt
  obtain ⟨p, q, hA0, hV, rfl, _, _⟩ := hW
  have hA : DataW.TrodAll enc Tryz.prog W 0 (fun _ => true) true Tryz.f5.params.toList args.toList ds p := hA0
  rw [Tryz.params5] at hA hval
  obtain ⟨v0, vs0, d0, ds0, p0, q0, hargs, rfl, rfl, h0, r0⟩ := trodAll_cons hA
  obtain ⟨v1, vs1, d1, ds1, p1, q1, rfl, rfl, rfl, h1, r1⟩ := trodAll_cons r0
  obtain ⟨v2, vs2, d2, ds2, p2, q2, rfl, rfl, rfl, h2, r2⟩ := trodAll_cons r1
  obtain ⟨rfl, rfl, rfl⟩ := trodAll_nil r2
  obtain rfl : args = #[v0, v1, v2] := by cases args; simp_all
  obtain ⟨rfl, rfl⟩ := trodVars_none hV
  have hl := larg (hval 2 54 v2 rfl rfl) h2
  obtain ⟨x0, x1, x2, x3, y0, y1, y2, y3, n, rfl, rfl, rfl, t0, t1, t2, t3⟩ := open_agg4 Tryz.underlying23 (by kernel_rfl) (by kernel_rfl) (hval 0 23 v0 rfl rfl) h0
  obtain ⟨b0, e0, rfl, wb0⟩ := DataW.trod_int Tryz.underlying3 t0
  obtain ⟨b1, e1, rfl, wb1⟩ := DataW.trod_int Tryz.underlying2 t1
  obtain ⟨b2, e2, rfl, wb2⟩ := DataW.trod_string Tryz.underlying9 t2
  obtain ⟨b3, e3, rfl, wb3⟩ := DataW.trod_int Tryz.underlying3 t3
  obtain rfl := List.singleton_inj.1 e0
  obtain rfl := List.singleton_inj.1 e1
  obtain rfl := List.singleton_inj.1 e2
  obtain rfl := List.singleton_inj.1 e3
  obtain ⟨a, rfl, rfl, rfl, wa⟩ := open_int Tryz.underlying3 (hval 1 3 v1 rfl rfl) h1
  clear hA0 hval0
  simp only [List.append_nil, List.nil_append] at hW' hlt
  refine (walk b0 b1 b3 a b2 v2 wb0 wb1 wb3 wa W hT hl).mono fun e W' ⟨he, hk⟩ => ?_
  subst he
  have s1 : ∀ (sp : Nat → Bool) (hd : Bool), DataW.Trod enc Tryz.prog W' 0 sp hd 23 (.agg #[.int .i64 b0, .int .i64 b1, .string b2, .int .i64 b3]) (.agg [.lit (.int .i64 b0), .lit (.int .i64 b1), .lit (.string b2.data.toList), .lit (.int .i64 b3)]) [] := fun sp hd =>
    shut_agg4 (y0 := (.lit (.int .i64 b0), [])) (y1 := (.lit (.int .i64 b1), [])) (y2 := (.lit (.string b2.data.toList), [])) (y3 := (.lit (.int .i64 b3), [])) Tryz.underlying23 (by kernel_rfl) (by kernel_rfl)
      (field_of_Trod (shut_int Tryz.underlying3 wb0) rfl) (field_of_Trod (shut_int Tryz.underlying2 wb1) rfl) (field_of_Trod (shut_string Tryz.underlying9 wb2) rfl) (field_of_Trod (shut_int Tryz.underlying3 wb3) rfl)
  have s2 := Below.trod laidOut (by kernel_rfl) (of_decide_eq_true (by kernel_rfl)) h2 hk fun x hx => by simpa using hlt x hx
  refine ⟨_, rfl, _, _, _, [], p2, [], hW', ?_, ?_, ?_, ?_, fun h => by cases h⟩
  · exact trodAll_cons_mk (shut_bool Tryz.underlying4 _) trodAll_mk0
  · have := trodAll_cons_mk (s1 _ _) (trodAll_cons_mk (shut_int Tryz.underlying3 wa) (trodAll_cons_mk s2 trodAll_mk0))
    simp only [List.append_nil, List.nil_append] at this
    exact this
  · rfl
  · exact World.keptBut_mono (fun _ h => h.elim) (Go.Ev.kept_of_below hk)

theorem closed : joinedFacts Tryz.prog 5 Tryz.f5 Rows.promiseErrorsSpec Rows.promiseErrorsRow = true := by
  unfold joinedFacts
  rw [k10, k11, k12, k13]
  kernel_rfl

theorem over : Rows.PromiseErrorsSaid :=
  OpenClaim.holds_of_wide 5 Tryz.f5 rfl rfl rfl rfl rfl rfl rfl ⟨rfl, rfl, rfl, rfl, rfl⟩ rfl rfl rfl rfl rfl c6 Tryz.func5 closed
    (of_decide_eq_true (by kernel_rfl)) (by unfold Func.isWrapper; first | (rw [if_pos (by decide +kernel)]; kernel_rfl) | (rw [if_neg (by decide +kernel)]; exact ⟨rfl, rfl⟩))
    (fun os started H enc _ => lifted os started H enc)

theorem reads (f : FuncId) (fn : Func) (hf : Tryz.pinned.checked.prog.funcNamed Rows.promiseErrorsRow.func = some f) (hfn : Tryz.pinned.checked.prog.funcs[f]? = some fn) :
    true = Tryz.pinned.checked.prog.looks [] ∧ ∀ (j : Nat) t, fn.params[j]? = some t → Tryz.pinned.checked.prog.wantsStandIn t = false := by
  obtain rfl : f = 5 := (Option.some.inj (c6.symm.trans hf)).symm
  obtain rfl : fn = Tryz.f5 := (Option.some.inj (Tryz.func5.symm.trans hfn)).symm
  refine ⟨c3, fun j t ht => ?_⟩
  rw [Tryz.params5] at ht
  have hm : t ∈ [23, 3, 54] := by simpa using Array.mem_of_getElem? ht
  exact (show Tryz.prog.wantsStandIn t = false by simpa using List.all_eq_true.1 c5 t hm)

/-- the card -/
theorem card : Rows.PromiseErrorsCardSaid :=
  Claim7.holds_tied_plain_at .later [] [.data, .data, .data, .data, .sentinel, .sentinel, .pinned] true (true, "ab9a556efb875ba3d22a2be84cb6598a0aa863f07a9ab79eb5693b2967b8e9bb") true over (fun _ h => by cases h) c1 (fun _ h => by cases h) promiseErrors_row_tie rfl ⟨rfl, rfl⟩ c2 rfl
    reads c4
#print axioms card
end Go.Proofs.YtmhbagaljonheaaGreatDoor.promiseErrors
