/- A verified evaluator for the model's code (part EvZd): own work, of no program. -/
import Derived.Test.YtegokcjfjopdoaaGreatDoorEvZc
import Derived.Lib.Bytealg
namespace Go.Ev

theorem idxByte_eq (c : Nat) (hc : c < 256) : ∀ (l : List UInt8) (i : Nat), idxByte c l i = if Lib.indexByte l (UInt8.ofNat c) = -1 then -1 else Lib.indexByte l (UInt8.ofNat c) + i
  | [], i => by simp [idxByte, Lib.indexByte]
  | b :: l, i => by
    have hb : (b == UInt8.ofNat c) = Nat.beq b.toNat c := by
      rw [Bool.eq_iff_iff, beq_iff_eq, Nat.beq_eq]
      constructor
      · intro h; rw [h]; simp; omega
      · intro h; rw [← h]; simp
    simp only [idxByte, Lib.indexByte, hb]
    cases hbb : Nat.beq b.toNat c with
    | true => simp
    | false =>
      simp only [Bool.false_eq_true, if_false]
      rw [idxByte_eq c hc l (i + 1)]
      have := Lib.indexByte_ge l (UInt8.ofNat c)
      by_cases h : Lib.indexByte l (UInt8.ofNat c) = -1
      · simp [h]
      · have h' : (Lib.indexByte l (UInt8.ofNat c) == -1) = false := by simpa using h
        simp only [h, if_false, h', Bool.false_eq_true]
        rw [if_neg (by omega)]
        omega

/-- what the program says of the one function without a body that is met -/
def ExtFact (P : Program) : Prop := ∀ (f : FuncId) (fn : Func), P.funcs[f]? = some fn → (fn.name == "internal/bytealg.IndexByteString") = true → Extern.findNext fn = none ∧ Extern.find fn = some Extern.BytealgIndexByte.indexByte

theorem ext_ok {P : Program} {σ : Sg} (hng : NoCount P) (hx : ExtFact P) : ExtOK P σ := by
  intro f fn args m k hf hb hh
  simp only [extC] at hh
  split at hh
  · rename_i hname
    split at hh
    · rename_i l c b
      obtain ⟨hb256, h1⟩ := isTrue_inv hh
      have hb256 : b < 256 := by simpa [Nat.blt_eq] using hb256
      rw [forceI_eq] at h1
      refine ⟨_, h1, fun e w vs hv => ?_⟩
      obtain ⟨v1, vs1, e1, r1, hv1⟩ := hv.cons_inv
      obtain ⟨v2, vs2, rfl, r2, hv2⟩ := hv1.cons_inv
      have := hv2.nil_inv
      subst this
      cases r2
      cases r1 with
      | str s hl hc =>
        subst hl; subst hc
        have hvs : vs = #[.string s, .int .u8 (Int.ofNat b)] := by apply Array.ext'; exact e1
        obtain ⟨q1, q2⟩ := hx f fn hf hname
        refine ⟨.int .i64 (idxByte b (decBytes s.size (encBytes s.data.toList)) 0), ?_, .int _ _⟩
        rw [hvs, run_callFunc_extern hf (hng f fn hf) (by rw [hb]; rfl) q1 q2, run_indexByte_string]
        have hd : decBytes s.size (encBytes s.data.toList) = s.data.toList := by rw [← strLen, dec_enc]
        rw [hd, idxByte_eq b hb256, Lib.firstIdx_eq]
        have hu : (Int.ofNat b).toNat.toUInt8 = UInt8.ofNat b := rfl
        rw [hu]
        simp only [Result.andThen_ok]
        congr 3
        split
        · rename_i h; exact h
        · simp
    · cases hh
  · cases hh

/-- THE EVALUATOR IS SOUND. -/
theorem eval_sound {P : Program} {σ : Sg} {G : Nat → Bool} (hng : NoCount P) (hx : ExtFact P) (fuel depth : Nat) : SoundCall P σ G (callC P G fuel depth) :=
  callC_ok hng (ext_ok hng hx) (fun _ hc rd => draw_ok hc rd) fuel depth
#print axioms eval_sound

end Go.Ev
