/- PromiseOnce, proved: for every input the law hands back true and each argument reads as before. Condition: the variables of the library that the row lists read as the row lays them; the card ties them to the program's text. -/
import Derived.Test.YtmhbagaljonheaaGreatDoorOnceE
import Derived.Test.YtmhbagaljonheaaGreatDoorOnceFactsA
import Derived.Test.YtmhbagaljonheaaGreatDoorOnceFactsB
import Derived.Test.YtmhbagaljonheaaGreatDoorOnceFactsC
import Derived.Test.YtmhbagaljonheaaGreatDoorOnceFactsD
import Derived.Test.YtmhbagaljonheaaGreatDoorTie
import Derived.Test.YtmhbagaljonheaaGreatDoorCards
import Derived.ProofKit
import Derived.OpenShut
import Derived.LaidMore
import Derived.Lay
import Derived.SevenTiedAt
import Derived.Stop.Joined
import Derived.Lib.SmallJoins
import Derived.Lib.LaidU8T
import Derived.Carry
namespace Go.Proofs.YtmhbagaljonheaaGreatDoor
open Go.Lib Go.Proofs
set_option maxRecDepth 100000
/-- the two tables, of what a row lays -/
theorem tabs_of_laid {l : List (String × DataW Unit)} {w : World} (hL : laidMet Tryz.prog l w) (h3 : ("unicode/utf8.first", firstData) ∈ l) (h4 : ("unicode/utf8.acceptRanges", acceptData) ∈ l) : Tabs w :=
  utf8Tabs_of_readsT (U8Types.of196 Tryz.lays196) ⟨by kernel_rfl, by kernel_rfl, by kernel_rfl, by kernel_rfl, by kernel_rfl, by kernel_rfl, by kernel_rfl⟩ (Lib.laidMet.reads hL h3) (Lib.laidMet.reads hL h4)
theorem first_eq : Rows.laid_unicode_utf8_first = firstData := by kernel_rfl
theorem accept_eq : (Rows.laid_unicode_utf8_acceptRanges : DataW Unit) = acceptData := by kernel_rfl
theorem laidOut : laidOutB Tryz.prog = true := by kernel_rfl
end Go.Proofs.YtmhbagaljonheaaGreatDoor
namespace Go.Proofs.YtmhbagaljonheaaGreatDoor.promiseOnce
open Go.ChangeShapes Go.WideShapes Go.ChangeAt Go.RowKit
open Go.ChangeMaps (open_string shut_string)
open Go.Joins (open_agg4 shut_agg4 field_of_Trod trod_struct4)
set_option maxRecDepth 100000

theorem own : ownKnob Tryz.prog.godebug = none := by kernel_rfl
theorem cells5 : Tryz.prog.cellsOf 5 = 1 := by kernel_rfl
theorem fits_u8 {a : Int} (h : (Lit.int .u8 a).wf = true) : 0 ≤ a ∧ a ≤ 255 := by
  have e1 : IntKind.min .u8 = 0 := by kernel_rfl
  have e2 : IntKind.max .u8 = 255 := by kernel_rfl
  simpa [Lit.wf, e1, e2] using h
theorem fits {a : Int} (h : (Lit.int .i64 a).wf = true) : W64 a := by
  have e1 : IntKind.min .i64 = -9223372036854775808 := by kernel_rfl
  have e2 : IntKind.max .i64 = 9223372036854775807 := by kernel_rfl
  unfold W64
  simpa [Lit.wf, e1, e2] using h

/-- a list of bytes that came in -/
theorem larg {H : Type} {enc : TypeId × Value → H} {W : World} {base : Nat} {sp : Nat → Bool} {hd : Bool} {v : Value} {d : DataW H} {ps : List MemPlace} (hval : Value.okWide Tryz.prog W .any base 71 v) (h : DataW.Trod enc Tryz.prog W 0 sp hd 71 v d ps) : LArg W v := by
  obtain ⟨a, len, cap, rfl⟩ := okWide_slice Tryz.underlying71 hval
  obtain ⟨fuel, hf⟩ := h
  have hf : DataW.trod enc Tryz.prog W 0 sp hd fuel 71 [.slice a len cap] = some (d, ps) := hf
  rcases DataW.trod_slice Tryz.underlying71 hf with ⟨e, _⟩ | ⟨a', len', cap', elems, rest, n, _, e, _, _, hlc, _, hel, hE, _⟩
  · exact .inl (List.singleton_inj.1 e)
  · obtain ⟨rfl, rfl, rfl⟩ : a = some a' ∧ len = len' ∧ cap = cap' := by
      have := List.singleton_inj.1 e
      injection this with h1 h2 h3
      exact ⟨h1, h2, h3⟩
    obtain ⟨b, o, spot⟩ := a'
    simp only [Value.okWide, Tryz.underlying71, Cell.okWide, Cell.ok, World.has] at hval
    obtain ⟨_, _, _, hspot, row, cells, hsh, _⟩ := hval
    subst hspot
    have hob : b < W.heap.size := by
      cases hb : W.heap[b]? with
      | some ob => exact (Array.getElem?_eq_some_iff.1 hb).1
      | none => simp [World.shape?, hb] at hsh
    refine .inr ⟨b, o, len, cap, rfl, hob, fun n hn => ?_⟩
    have h0 := hE n (by omega)
    rw [cells5] at h0
    obtain ⟨y, hy⟩ : ∃ y, elems[n]? = some y := ⟨_, List.getElem?_eq_getElem (by omega)⟩
    rw [hy] at h0
    obtain ⟨cs, hcs, ht⟩ := Option.bind_eq_some_iff.1 h0
    obtain ⟨b0, e0, _, w0⟩ := DataW.trod_int Tryz.underlying5 ht
    subst e0
    have q0 := (World.cells?_some hcs).2.2 0 (by omega)
    have q1 : W.cell? ⟨b, o + n, none⟩ = some (.int .u8 b0) := by
      rcases Nat.eq_zero_or_pos n with rfl | hp
      · simpa [Addr.add] using q0
      · simpa [Addr.add, show n ≠ 0 by omega] using q0
    exact ⟨b0, (fits_u8 w0).1, (fits_u8 w0).2, q1⟩

theorem lifted (os : Os) (started : os.Started) (H : Type) (enc : TypeId × Value → H) :
    ReturnsInHanded {} Tryz.checked os 4 .any (fun w args => (Rows.promiseOnceSpec.pre enc Tryz.prog Tryz.f4 Rows.promiseOnceRow.domain false w args ∧ laidMetH Tryz.prog Rows.promiseOnceRow.laid w) ∧ sizedMet enc Tryz.prog Tryz.f4 (OpenSpec.ofChange Rows.promiseOnceSpec) false w args)
      (Rows.promiseOnceSpec.post enc Tryz.prog Tryz.f4 false true false false) := by
  refine returnsInHanded_of_change_and (C := Tryz.checked) (X := fun w _ => laidMetH Tryz.prog Rows.promiseOnceRow.laid w) (fun _ _ _ hh h => h.of_heap hh) own started (by kernel_rfl) Tryz.func4
    (ChangeSpec.witness_shaped (enc := enc) (C := Tryz.checked) (os := os) (X := fun w _ => laidMetH Tryz.prog Rows.promiseOnceRow.laid w) false (World.laidAll Tryz.prog os Rows.promiseOnceRow.laid) #[.agg #[.int .i64 0, .int .i64 0, .string ⟨#[]⟩, .int .i64 0], .agg #[.int .i64 0, .int .i64 0, .string ⟨#[]⟩, .int .i64 0], .slice none 0 0] 8 (World.laidAll_os _ _ _)
      (World.shaped_of_ZipB (by kernel_rfl) (by kernel_rfl)) (by kernel_rfl) (by kernel_rfl) (by kernel_rfl)
      (by rw [MakeChecks.laidMetH_plain _ _ _ (by kernel_rfl)]; exact laidMet_laidAll _ (by kernel_rfl) (by kernel_rfl))) ?_
  intro W base args ds gs before hval0 hW hc _ hL _
  have hT : Tabs W := by
    rw [MakeChecks.laidMetH_plain _ _ _ (by kernel_rfl)] at hL
    refine tabs_of_laid hL ?_ ?_
    · rw [← first_eq]; exact .tail _ (.tail _ (.tail _ (.tail _ (.tail _ (.tail _ (.head _))))))
    · rw [← accept_eq]; exact .tail _ (.tail _ (.tail _ (.head _)))
  have hval : ∀ (j : Nat) t v, Tryz.f4.params[j]? = some t → args[j]? = some v → Value.okWide Tryz.prog W .any base t v := hval0
  have hW' := hW
  have hlt := hW.lt
  obtain ⟨p, q, hA0, hV, rfl, _, _⟩ := hW
  have hA : DataW.TrodAll enc Tryz.prog W 0 (fun _ => true) true Tryz.f4.params.toList args.toList ds p := hA0
  rw [Tryz.params4] at hA hval
  obtain ⟨v0, vs0, d0, ds0, p0, q0, hargs, rfl, rfl, h0, r0⟩ := trodAll_cons hA
  obtain ⟨v1, vs1, d1, ds1, p1, q1, rfl, rfl, rfl, h1, r1⟩ := trodAll_cons r0
  obtain ⟨v2, vs2, d2, ds2, p2, q2, rfl, rfl, rfl, h2, r2⟩ := trodAll_cons r1
  obtain ⟨rfl, rfl, rfl⟩ := trodAll_nil r2
  obtain rfl : args = #[v0, v1, v2] := by cases args; simp_all
  obtain ⟨rfl, rfl⟩ := trodVars_none hV
  have hl := larg (hval 2 71 v2 rfl rfl) h2
  obtain ⟨x0, x1, x2, x3, y0, y1, y2, y3, n, rfl, rfl, rfl, t0, t1, t2, t3⟩ := open_agg4 Tryz.underlying23 (by kernel_rfl) (by kernel_rfl) (hval 0 23 v0 rfl rfl) h0
  obtain ⟨b0, e0, rfl, wb0⟩ := DataW.trod_int Tryz.underlying3 t0
  obtain ⟨b1, e1, rfl, wb1⟩ := DataW.trod_int Tryz.underlying2 t1
  obtain ⟨b2, e2, rfl, wb2⟩ := DataW.trod_string Tryz.underlying9 t2
  obtain ⟨b3, e3, rfl, wb3⟩ := DataW.trod_int Tryz.underlying3 t3
  obtain rfl := List.singleton_inj.1 e0
  obtain rfl := List.singleton_inj.1 e1
  obtain rfl := List.singleton_inj.1 e2
  obtain rfl := List.singleton_inj.1 e3
  obtain ⟨x0, x1, x2, x3, y0, y1, y2, y3, n, rfl, rfl, rfl, t0, t1, t2, t3⟩ := open_agg4 Tryz.underlying23 (by kernel_rfl) (by kernel_rfl) (hval 1 23 v1 rfl rfl) h1
  obtain ⟨c0, e0, rfl, wc0⟩ := DataW.trod_int Tryz.underlying3 t0
  obtain ⟨c1, e1, rfl, wc1⟩ := DataW.trod_int Tryz.underlying2 t1
  obtain ⟨c2, e2, rfl, wc2⟩ := DataW.trod_string Tryz.underlying9 t2
  obtain ⟨c3, e3, rfl, wc3⟩ := DataW.trod_int Tryz.underlying3 t3
  obtain rfl := List.singleton_inj.1 e0
  obtain rfl := List.singleton_inj.1 e1
  obtain rfl := List.singleton_inj.1 e2
  obtain rfl := List.singleton_inj.1 e3
  clear hA0 hval0
  simp only [List.append_nil, List.nil_append] at hW' hlt
  refine (walk ⟨b0, b1, b2, b3, c0, c1, c2, c3, W⟩ v2 (fits wb0) (fits wb1) (fits wb3) (fits wc0) (fits wc1) (fits wc3) hT hl).mono fun e W' ⟨he, hk⟩ => ?_
  subst he
  have s1 : ∀ (sp : Nat → Bool) (hd : Bool), DataW.Trod enc Tryz.prog W' 0 sp hd 23 (.agg #[.int .i64 b0, .int .i64 b1, .string b2, .int .i64 b3]) (.agg [.lit (.int .i64 b0), .lit (.int .i64 b1), .lit (.string b2.data.toList), .lit (.int .i64 b3)]) [] := fun sp hd =>
    shut_agg4 (y0 := (.lit (.int .i64 b0), [])) (y1 := (.lit (.int .i64 b1), [])) (y2 := (.lit (.string b2.data.toList), [])) (y3 := (.lit (.int .i64 b3), [])) Tryz.underlying23 (by kernel_rfl) (by kernel_rfl)
      (field_of_Trod (shut_int Tryz.underlying3 wb0) rfl) (field_of_Trod (shut_int Tryz.underlying2 wb1) rfl) (field_of_Trod (shut_string Tryz.underlying9 wb2) rfl) (field_of_Trod (shut_int Tryz.underlying3 wb3) rfl)
  have s3 : ∀ (sp : Nat → Bool) (hd : Bool), DataW.Trod enc Tryz.prog W' 0 sp hd 23 (.agg #[.int .i64 c0, .int .i64 c1, .string c2, .int .i64 c3]) (.agg [.lit (.int .i64 c0), .lit (.int .i64 c1), .lit (.string c2.data.toList), .lit (.int .i64 c3)]) [] := fun sp hd =>
    shut_agg4 (y0 := (.lit (.int .i64 c0), [])) (y1 := (.lit (.int .i64 c1), [])) (y2 := (.lit (.string c2.data.toList), [])) (y3 := (.lit (.int .i64 c3), [])) Tryz.underlying23 (by kernel_rfl) (by kernel_rfl)
      (field_of_Trod (shut_int Tryz.underlying3 wc0) rfl) (field_of_Trod (shut_int Tryz.underlying2 wc1) rfl) (field_of_Trod (shut_string Tryz.underlying9 wc2) rfl) (field_of_Trod (shut_int Tryz.underlying3 wc3) rfl)
  have s2 := Below.trod laidOut (by kernel_rfl) (of_decide_eq_true (by kernel_rfl)) h2 hk fun x hx => by simpa using hlt x hx
  refine ⟨_, rfl, _, _, _, [], p2, [], hW', ?_, ?_, ?_, ?_, fun h => by cases h⟩
  · exact trodAll_cons_mk (shut_bool Tryz.underlying4 _) trodAll_mk0
  · have := trodAll_cons_mk (s1 _ _) (trodAll_cons_mk (s3 _ _) (trodAll_cons_mk s2 trodAll_mk0))
    simp only [List.append_nil, List.nil_append] at this
    exact this
  · rfl
  · exact World.keptBut_mono (fun _ h => h.elim) (Go.Ev.kept_of_below hk)

theorem closed : joinedFacts Tryz.prog 4 Tryz.f4 Rows.promiseOnceSpec Rows.promiseOnceRow = true := by
  unfold joinedFacts
  rw [k10, k11, k12, k13]
  kernel_rfl

theorem over : Rows.PromiseOnceSaid :=
  OpenClaim.holds_of_wide 4 Tryz.f4 rfl rfl rfl rfl rfl rfl rfl ⟨rfl, rfl, rfl, rfl, rfl⟩ rfl rfl rfl rfl rfl c6 Tryz.func4 closed
    (of_decide_eq_true (by kernel_rfl)) (by unfold Func.isWrapper; first | (rw [if_pos (by decide +kernel)]; kernel_rfl) | (rw [if_neg (by decide +kernel)]; exact ⟨rfl, rfl⟩))
    (fun os started H enc _ => lifted os started H enc)

theorem reads (f : FuncId) (fn : Func) (hf : Tryz.pinned.checked.prog.funcNamed Rows.promiseOnceRow.func = some f) (hfn : Tryz.pinned.checked.prog.funcs[f]? = some fn) :
    true = Tryz.pinned.checked.prog.looks [] ∧ ∀ (j : Nat) t, fn.params[j]? = some t → Tryz.pinned.checked.prog.wantsStandIn t = false := by
  obtain rfl : f = 4 := (Option.some.inj (c6.symm.trans hf)).symm
  obtain rfl : fn = Tryz.f4 := (Option.some.inj (Tryz.func4.symm.trans hfn)).symm
  refine ⟨c3, fun j t ht => ?_⟩
  rw [Tryz.params4] at ht
  have hm : t ∈ [23, 23, 71] := by simpa using Array.mem_of_getElem? ht
  exact (show Tryz.prog.wantsStandIn t = false by simpa using List.all_eq_true.1 c5 t hm)

/-- the card -/
theorem card : Rows.PromiseOnceCardSaid :=
  Claim7.holds_tied_plain_at .later [] [.data, .data, .data, .data, .sentinel, .sentinel, .pinned] true (true, "ab9a556efb875ba3d22a2be84cb6598a0aa863f07a9ab79eb5693b2967b8e9bb") true over (fun _ h => by cases h) c1 (fun _ h => by cases h) promiseOnce_row_tie rfl ⟨rfl, rfl⟩ c2 rfl
    reads c4
#print axioms card
end Go.Proofs.YtmhbagaljonheaaGreatDoor.promiseOnce
