/- A verified evaluator for the model's code (part EvM): own work, of no program. -/
import Derived.Test.YtegokcjfjopdoaaGreatDoorEvL
namespace Go.Ev

section
variable {P : Program} {σ : Sg} {G : Nat → Bool} {t : Tm} {h : Hp} {tab : Tab} {nb : Nat} {k : KF}
variable {dst : Option Tmp} {type : TypeId} {pos : String} {after : Array Edge} {guard : Option (Nat × Bool)}

theorem decBytes_len : ∀ (n c : Nat), (decBytes n c).length = n
  | 0, _ => rfl
  | n + 1, c => by simp [decBytes, decBytes_len n c]

theorem modify_push {α : Type} (a : Array α) (x : α) (f : α → α) : (a.push x).modify a.size f = a.push (f x) := by
  apply Array.ext_getElem?
  intro i
  rw [Array.getElem?_modify, Array.getElem?_push, Array.getElem?_push]
  by_cases hi : a.size = i
  · subst hi; simp
  · have : ¬ i = a.size := fun h => hi h.symm
    simp [hi, this]

theorem run_stringToBytes {e : Env} (el : TypeId) (s : ByteArray) (w : World) :
    ∃ (sl dr : Nat) (obj : Obj), (Conv.stringToBytes el s).run P w = .ok (.slice (some ⟨w.heap.size, 0, none⟩) s.size (s.size + sl)) { w with heap := w.heap.push obj, drawn := dr } ∧
      BR σ e (.cells true 1 s.size (ofList ((decBytes s.size (encBytes s.data.toList)).map fun b => .int .u8 b.toNat))) ⟨w.heap.size, 0, sl, true⟩ obj := by
  have hd : decBytes s.size (encBytes s.data.toList) = s.data.toList := by rw [← strLen, dec_enc]
  let tp := w.tape w.drawn (.appendCap s.size 0 el) % (2 ^ 63 - s.size)
  let elems : Array Value := s.data.map fun b => .int .u8 b.toNat
  let c : Array Value := elems ++ Array.replicate (s.size + tp - s.size) (.int .u8 0)
  have hes : elems.size = s.size := by simp [elems]
  have hc : c.size = s.size + tp := by simp [c, hes]
  refine ⟨tp, w.drawn + 1, .cells c el (c.size, c.size + 1), ?_, ?_⟩
  · have hsh : ({ w with heap := w.heap.push (.cells c el), drawn := w.drawn + 1 } : World).shape? w.heap.size = some (el, c.size) := by simp [World.shape?]
    have hfr : ({ w with heap := w.heap.push (.cells c el), drawn := w.drawn + 1 } : World).freeze ⟨w.heap.size, c.size, none⟩ 1 = { w with heap := w.heap.push (.cells c el (c.size, c.size + 1)), drawn := w.drawn + 1 } := by
      simp only [World.freeze, Nat.one_ne_zero, if_false]
      congr 1
      exact modify_push _ _ _
    simp only [Conv.stringToBytes, Sem.run_bind, run_choose, Question.forced, Bool.false_eq_true, if_false, Result.andThen_ok, Question.cut]
    have hrow : (newRow el c).run P { w with drawn := w.drawn + 1 } = .ok ⟨w.heap.size, 0, none⟩ { w with heap := w.heap.push (.cells c el), drawn := w.drawn + 1 } := rfl
    show ((newRow el c).run P { w with drawn := w.drawn + 1 }).andThen _ = _
    rw [hrow]
    simp only [Result.andThen_ok, markStringish, Sem.run_bind, run_shape, hsh, run_freeze, hfr, Sem.run_pure]
    rfl
  · rw [hd]
    refine .cells (by simp [hc]) (fun h => by cases h) (fun i hi => ?_) (fun i hi => ?_) (.inr ⟨rfl, rfl, rfl⟩)
    · rw [ofList_get]; exact List.getElem?_eq_none (by simp; exact hi)
    · have hlt : i < s.data.toList.length := hi
      have hlt' : i < s.data.size := hi
      refine ⟨.int .u8 (s.data.toList[i].toNat : Nat), .int .u8 (s.data.toList[i].toNat : Nat), ?_, ?_, .int _ _⟩
      · rw [ofList_get, List.getElem?_map, List.getElem?_eq_getElem hlt]; rfl
      · have hi' : i < s.size := hi
        simp [c, elems, Array.getElem?_append, hi']

theorem fl_convert {s d : TypeId} {x : Operand} (hh : floatC P G (.convert s d x) t h tab nb k = true) (hs : Sat σ tab) : FlOK P σ G ⟨dst, .convert s d x, type, pos, after, guard⟩ t h nb k := by
  obtain ⟨c, hc, h1⟩ := getO_inv hh
  simp only [convC] at h1
  split at h1
  · cases h1
  · rename_i sd hsd
    split at h1
    · rename_i el hd
      cases c <;> simp only [] at h1 <;> first | (cases h1; done) | skip
      rename_i l code
      split at h1
      · rename_i hel
        refine ⟨_, _, tab, h1, hs, fun e w ρ hr hij ho => ?_⟩
        have hx := ho x (by simp [Op.operands]) _ hc
        generalize hy : ρ x = y at hx
        cases hx with
        | str st hl hcd =>
          subst hl; subst hcd
          obtain ⟨sl, dr, obj, h2, h3⟩ := run_stringToBytes (P := P) (σ := σ) (e := e) el st w
          refine ⟨_, obj, sl, dr, ?_, h3, .sl (o := 0) (cap := st.size) (p := ⟨w.heap.size, 0, sl, true⟩) (Env.up_same _ _ _)⟩
          simp [execOp, convert, undRun hsd, undRun hd, undRun hel, hy, h2]
      · cases h1
    · rename_i kd hd
      cases c <;> simp only [] at h1 <;> first | (cases h1; done) | skip
      · have h2 := wrapK_inv h1
        refine ⟨_, none, tab, h2, hs, fun e w ρ hr hij ho => ?_⟩
        have hx := ho x (by simp [Op.operands]) _ hc
        generalize hy : ρ x = y at hx
        cases hx
        exact ⟨_, by simp [execOp, convert, undRun hsd, undRun hd, hy, Conv.intToInt], .int _ _⟩
      · rename_i kd' sy
        split at h1
        · rename_i lo hi ht
          split at h1
          · rename_i hb
            simp only [leI_eq, Bool.and_eq_true, decide_eq_true_eq] at hb
            have hb2 := hs sy lo hi ht
            refine ⟨_, none, tab, h1, hs, fun e w ρ hr hij ho => ?_⟩
            have hx := ho x (by simp [Op.operands]) _ hc
            generalize hy : ρ x = y at hx
            cases hx
            refine ⟨.int kd (σ.i sy), ?_, .sym _ _⟩
            have hw : kd.wrap (σ.i sy) = σ.i sy := wrap_in (by omega) (by omega)
            simp [execOp, convert, undRun hsd, undRun hd, hy, Conv.intToInt, hw]
          · cases h1
        · cases h1
    · rename_i hd
      cases c <;> simp only [] at h1 <;> first | (cases h1; done) | skip
      · rename_i kd a
        rw [forceN_eq, forceN_eq] at h1
        refine ⟨_, none, tab, h1, hs, fun e w ρ hr hij ho => ?_⟩
        have hx := ho x (by simp [Op.operands]) _ hc
        generalize hy : ρ x = y at hx
        cases hx
        exact ⟨_, by simp [execOp, convert, undRun hsd, undRun hd, hy, Conv.intToString], .str _ rfl rfl⟩
      · refine ⟨_, none, tab, h1, hs, fun e w ρ hr hij ho => ?_⟩
        have hx := ho x (by simp [Op.operands]) _ hc
        generalize hy : ρ x = y at hx
        have hx' := hx
        cases hx
        exact ⟨_, by simp [execOp, convert, undRun hsd, undRun hd, hy], hx'⟩
      · refine ⟨_, none, tab, h1, hs, fun e w ρ hr hij ho => ?_⟩
        have hx := ho x (by simp [Op.operands]) _ hc
        generalize hy : ρ x = y at hx
        have hx' := hx
        cases hx
        exact ⟨_, by simp [execOp, convert, undRun hsd, undRun hd, hy], hx'⟩
    · cases h1

theorem lenC_inv {ty : TypeId} {v : CV} {k : CV → Tab → Bool} (hh : lenC P ty v h tab k = true) :
    ∃ c, k c tab = true ∧ ∀ {e : Env} {w : World} {u : Value} (rt : TypeId) (ats : Array TypeId), ats[0]? = some ty → HR σ e h w → VR σ e v u → ∃ r, (Builtin.len_ ats rt #[u]).run P w = .ok r w ∧ VR σ e c r := by
  have arr : ∀ {m el}, P.underlying ty = some (.array m el) → k (.int .i64 (.ofNat m)) tab = true → ∃ c, k c tab = true ∧ ∀ {e : Env} {w : World} {u : Value} (rt : TypeId) (ats : Array TypeId), ats[0]? = some ty → HR σ e h w → VR σ e v u → ∃ r, (Builtin.len_ ats rt #[u]).run P w = .ok r w ∧ VR σ e c r :=
    fun {m el} hu hk => ⟨_, hk, fun {e w u} rt ats ht _ _ => ⟨.int .i64 m, by simp [Builtin.len_, ht, undRun hu, goInt], .int _ _⟩⟩
  have parr : ∀ {a m el}, P.underlying ty = some (.pointer a) → P.underlying a = some (.array m el) → k (.int .i64 (.ofNat m)) tab = true → ∃ c, k c tab = true ∧ ∀ {e : Env} {w : World} {u : Value} (rt : TypeId) (ats : Array TypeId), ats[0]? = some ty → HR σ e h w → VR σ e v u → ∃ r, (Builtin.len_ ats rt #[u]).run P w = .ok r w ∧ VR σ e c r :=
    fun {a m el} hu hu2 hk => ⟨_, hk, fun {e w u} rt ats ht _ _ => ⟨.int .i64 m, by simp [Builtin.len_, ht, undRun hu, undRun hu2, goInt], .int _ _⟩⟩
  have dflt : (match P.underlying ty with
    | some (.array m _) => k (.int .i64 (.ofNat m)) tab
    | some (.pointer a) => match P.underlying a with | some (.array m _) => k (.int .i64 (.ofNat m)) tab | _ => false
    | _ => false) = true → ∃ c, k c tab = true ∧ ∀ {e : Env} {w : World} {u : Value} (rt : TypeId) (ats : Array TypeId), ats[0]? = some ty → HR σ e h w → VR σ e v u → ∃ r, (Builtin.len_ ats rt #[u]).run P w = .ok r w ∧ VR σ e c r := by
    intro h1
    split at h1
    · exact arr (by assumption) h1
    · split at h1
      · exact parr (by assumption) (by assumption) h1
      · cases h1
    · cases h1
  cases v <;> simp only [lenC] at hh <;> first | exact dflt hh | skip
  · split at hh
    · rename_i hu
      refine ⟨_, hh, fun {e w u} rt ats ht _ hv => ?_⟩
      cases hv with
      | str s hl hc => exact ⟨.int .i64 s.size, by simp [Builtin.len_, ht, undRun hu, goInt], by rw [hl]; exact .int _ _⟩
    · cases hh
  · split at hh
    · rename_i hu
      refine ⟨_, hh, fun {e w u} rt ats ht _ hv => ?_⟩
      cases hv
      exact ⟨.int .i64 0, by simp [Builtin.len_, ht, undRun hu, goInt], .int _ _⟩
    · cases hh
  · split at hh
    · rename_i hu
      refine ⟨_, hh, fun {e w u} rt ats ht _ hv => ?_⟩
      cases hv
      exact ⟨_, by simp [Builtin.len_, ht, undRun hu, goInt], .int _ _⟩
    · cases hh
  · split at hh
    · rename_i hu
      refine ⟨_, hh, fun {e w u} rt ats ht _ hv => ?_⟩
      cases hv
      exact ⟨.int .i64 0, by simp [Builtin.len_, ht, undRun hu, goInt], .int _ _⟩
    · cases hh
  · split at hh
    · rename_i hu
      refine ⟨_, hh, fun {e w u} rt ats ht _ hv => ?_⟩
      cases hv
      exact ⟨.int .i64 0, by simp [Builtin.len_, ht, undRun hu, goInt], .int _ _⟩
    · cases hh
  · rename_i b
    split at hh
    · rename_i hu
      obtain ⟨cb, hcb, h1⟩ := getK_inv hh
      cases cb <;> simp only [] at h1 <;> first | (cases h1; done) | skip
      rename_i es clock
      rw [forceN_eq] at h1
      refine ⟨_, h1, fun {e w u} rt ats ht hr hv => ?_⟩
      cases hv with
      | map hb =>
        have := hr _ _ _ hb hcb
        split at this
        · obtain ⟨o, g2, g3⟩ := this
          cases g3 with
          | map hl hv' =>
            rename_i entries
            refine ⟨.int .i64 entries.size, by simp [Builtin.len_, ht, undRun hu, goInt, getObj, Sem.run, g2], ?_⟩
            rw [hl]; simp only [Array.length_toList]; exact .int _ _
        · cases this
    · cases hh
  · rename_i s l
    split at hh
    · rename_i hu
      refine ⟨_, hh, fun {e w u} rt ats ht _ hv => ?_⟩
      cases hv with
      | ssym _ _ hl => exact ⟨.int .i64 ((σ.s s).size), by simp [Builtin.len_, ht, undRun hu, goInt], by rw [hl]; exact .sym _ _⟩
    · cases hh

end
end Go.Ev
