/- A verified evaluator for the model's code (part EvQ): own work, of no program. -/
import Derived.Test.YtegokcjfjopdoaaGreatDoorEvP
namespace Go.Ev

section
variable {P : Program} {σ : Sg} {G : Nat → Bool} {t : Tm} {m : M} {k : KA}
variable {dst : Option Tmp} {type : TypeId} {pos : String} {after : Array Edge} {guard : Option (Nat × Bool)}

/-- how the second argument's type goes with it -/
def strTy (P : Program) (str : Bool) (ty : TypeId) : Prop := if str then P.underlying ty = some .string else ∃ e', P.underlying ty = some (.slice e')

theorem appended_inv {str : Bool} {n : Nat} {x : CV} {h : Hp} {k : List CV → Nat → Bool} (hh : appended str n x h k = true) :
    ∃ new cnt, k new cnt = true ∧ (∀ c ∈ new, oneC c = true) ∧ new.length = cnt * n ∧ ∀ {e : Env} {w : World} {ux : Value} {ty : TypeId}, HR σ e h w → VR σ e x ux → strTy P str ty →
      ∃ news, LR σ e new news ∧ Src P n ty ux cnt news w := by
  cases str with
  | false =>
    cases x <;> simp only [appended] at hh <;> first | (cases hh; done) | skip
    · refine ⟨[], 0, hh, (fun c hc => by cases hc), by simp, fun {e w ux ty} _ hv ht => ?_⟩
      obtain ⟨e', ht⟩ : ∃ e', P.underlying ty = some (.slice e') := by simpa [strTy] using ht
      cases hv
      exact ⟨[], .nil, Src.ofNil w ht 0⟩
    · rename_i b off len cap
      obtain ⟨lo, es, sz, cs, hc, h1⟩ := withCells_inv hh
      obtain ⟨l, hl, hrow, h2⟩ := loadN_inv h1
      obtain ⟨hone, h3⟩ := allOne_inv h2
      refine ⟨l, len, h3, hone, hl, fun {e w ux ty} hr hv ht => ?_⟩
      obtain ⟨e', ht⟩ : ∃ e', P.underlying ty = some (.slice e') := by simpa [strTy] using ht
      cases hv with
      | @sl _ _ _ _ p hb =>
        obtain ⟨_, c, el, fz, hw, _, _, hout, hin, _⟩ := hr.cells hb hc
        obtain ⟨vs, hvs, hget⟩ := row_real hout hin hrow
        refine ⟨vs, hvs, Src.ofSlice w ht ⟨p.r, off + p.d, none⟩ len (cap + p.s) vs (by rw [← hvs.1, hl]) (fun j u hu => ?_) (hvs.one hone)⟩
        rw [addr_add]
        simp [World.cell?, hw, hget j u hu]
    · refine ⟨[], 0, hh, (fun c hc => by cases hc), by simp, fun {e w ux ty} _ hv ht => ?_⟩
      obtain ⟨e', ht⟩ : ∃ e', P.underlying ty = some (.slice e') := by simpa [strTy] using ht
      cases hv with
      | slE r o c => exact ⟨[], .nil, Src.ofSlice w ht ⟨r, o, none⟩ 0 c [] (by simp) (fun j u hu => by simp at hu) (fun u hu => by cases hu)⟩
  | true =>
    cases x <;> simp only [appended] at hh <;> first | (cases hh; done) | skip
    rename_i l code
    split at hh
    · rename_i hn
      have hn : n = 1 := by simpa using hn
      subst hn
      refine ⟨_, _, hh, fun c hc => ?_, by simp [decBytes_len], fun {e w ux ty} _ hv ht => ?_⟩
      · obtain ⟨b, _, rfl⟩ := List.mem_map.1 hc; rfl
      · have ht : P.underlying ty = some .string := by simpa [strTy] using ht
        cases hv with
        | str s hl hcd =>
          subst hl; subst hcd
          have hd : decBytes s.size (encBytes s.data.toList) = s.data.toList := by rw [← strLen, dec_enc]
          refine ⟨byteCells s, ?_, Src.ofString w ht s⟩
          rw [hd]
          refine ⟨by simp [byteCells], fun i c v hc hv => ?_⟩
          simp only [byteCells, List.getElem?_map, Option.map_eq_some_iff] at hc hv
          obtain ⟨b, hb, rfl⟩ := hc
          obtain ⟨b', hb', rfl⟩ := hv
          rw [hb] at hb'; cases hb'
          exact .int _ _
    · cases hh

theorem pushN_inv : ∀ {l : List CV} {off : Nat} {cs : Tr CV} {k : Tr CV → Bool}, pushN l off cs k = true → ∃ cs', k cs' = true ∧ ∀ j, cs'.get? j = if off ≤ j ∧ j < off + l.length then l[j - off]? else cs.get? j
  | [], off, cs, k, h => ⟨cs, h, (fun j => by rw [if_neg (by simp)])⟩
  | x :: l, off, cs, k, h => by
    obtain ⟨h1, h2⟩ := oneK_inv (show oneK x (insK x cs off fun cs' => pushN l (off + 1) cs' k) = true from h)
    obtain ⟨cs1, h3, _, h4⟩ := insK_inv _ _ _ _ h2
    obtain ⟨cs', h5, h8⟩ := pushN_inv h3
    refine ⟨cs', h5, fun j => ?_⟩
    rw [h8, h4]
    by_cases hj : off ≤ j ∧ j < off + (x :: l).length
    · rw [if_pos hj]
      simp only [List.length_cons] at hj
      by_cases h0 : j = off
      · subst h0
        rw [if_neg (by omega)]; simp
      · rw [if_pos (by omega)]
        have : j - off = (j - (off + 1)) + 1 := by omega
        rw [this]; simp
    · rw [if_neg hj]
      simp only [List.length_cons] at hj
      rw [if_neg (by omega), if_neg (by omega)]

theorem newB_inv {cb : CB} {k : Nat → M → Bool} (h : newB cb m k = true) : ∃ h', k m.n ⟨h', m.n + 1, m.tab⟩ = true ∧ ∀ j, h'.get? j = if j = m.n then some cb else m.h.get? j := by
  obtain ⟨h', h1, _, h2⟩ := insK_inv _ _ _ _ (show insK cb m.h m.n (fun h' => forceN (Nat.succ m.n) fun n' => k m.n ⟨h', n', m.tab⟩) = true from h)
  rw [forceN_eq] at h1
  exact ⟨h', h1, h2⟩

theorem newB_fresh {cb : CB} {k : Nat → M → Bool} (h : newB cb m k = true) : m.h.get? m.n = none := by
  obtain ⟨h', h1, h0, h2⟩ := insK_inv _ _ _ _ (show insK cb m.h m.n (fun h' => forceN (Nat.succ m.n) fun n' => k m.n ⟨h', n', m.tab⟩) = true from h)
  exact h0

/-- a grown row: what is listed, then zeros -/
theorem BR.grown {e : Env} {cs : List CV} {vs : List Value} (hv : LR σ e cs vs) {tr : Tr CV} (htr : ∀ i, tr.get? i = cs[i]?) {sz es s : Nat} (hsz : cs.length = sz) {z : Array Value} (hz : z.size = es) (r : Nat) (el : TypeId) :
    BR σ e (.cells true es sz tr) ⟨r, 0, s, true⟩ (.cells (vs.toArray ++ Builtin.zeroCells z s) el (0, 0)) := by
  have hl : vs.length = sz := hv.1 ▸ hsz
  refine .cells (by simp [Builtin.zeroCells, hl, hz]) (fun h => by cases h) (fun i hi => ?_) (fun i hi => ?_) (.inl rfl)
  · rw [htr]; exact List.getElem?_eq_none (by omega)
  · have hi' : i < cs.length := by omega
    obtain ⟨v, h1, h2⟩ := hv.get (List.getElem?_eq_getElem hi')
    refine ⟨_, v, by rw [htr]; exact List.getElem?_eq_getElem hi', ?_, h2⟩
    have : i < vs.length := by omega
    simp only [Nat.zero_add]
    rw [Array.getElem?_append_left (by simpa using this)]
    simpa using h1

theorem grownCap_split (w : World) (need old : Nat) (el : TypeId) : ∃ s, grownCap w need old el = need + s := by
  exact ⟨_, rfl⟩

theorem appendC_inv {et tx ty : TypeId} {str : Bool} {s x : CV} (hh : appendC P et str s x m k = true) (hu : P.underlying tx = some (.slice et)) (hty : strTy P str ty) :
    ∃ v m', k v m' = true ∧ m'.tab = m.tab ∧ ∀ (e : Env) (w : World) (us ux : Value) (rt : TypeId), RL σ G e m w → VR σ e s us → VR σ e x ux →
      ∃ v' w' e', (Builtin.append_ #[tx, ty] rt #[us, ux]).run P w = .ok v' w' ∧ VR σ e' v v' ∧ RL σ G e' m' w' ∧ Kept e m w e' m' w' := by
  obtain ⟨i, hi, h1⟩ := szK_inv hh
  obtain ⟨hn0, h2⟩ := isTrue_inv h1
  obtain ⟨hb0, h3⟩ := isTrue_inv h2
  obtain ⟨hz0, h4⟩ := isTrue_inv h3
  obtain ⟨new, cnt, h5, hone, hlen, hsrc⟩ := appended_inv (P := P) (σ := σ) h4
  clear h1 h2 h3 h4 hh
  have hby : P.bytesOf et = i.bytes := by simp [Program.bytesOf, hi]
  have hzero : ∃ zv z, i.zero = some zv ∧ ofValues zv.cells.toList = some z ∧ z.length = i.size := by
    cases hzz : zeroOf P et with
    | none => rw [hzz] at hz0; cases hz0
    | some z =>
      rw [hzz] at hz0
      obtain ⟨i', zv, hi', hzv, hz'⟩ := zeroOf_inv hzz
      rw [hi] at hi'; cases hi'
      exact ⟨zv, z, hzv, hz', by simpa using hz0⟩
  obtain ⟨zv, z, hzv, hzz, hzl⟩ := hzero
  have hzs : zv.cells.size = i.size := by have := (ofValues_LR (σ := σ) (e := fun _ => none) hzz).1; simp at this; omega
  -- a new row
  have grow : ∀ {e : Env} {w : World} {ux : Value} {base : Option Addr} {sLen sCap : Nat} {m1 : M} {old : List CV} {olds news : List Value} (rt : TypeId), RL σ G e m1 w → LR σ e new news → Src P i.size ty ux cnt news w → LR σ e old olds → old.length = sLen * i.size →
      (∀ w' : World, w'.heap = w.heap → (Builtin.firstCells i.size sLen (.slice base sLen sCap)).run P w' = .ok olds.toArray w') → sCap < sLen + cnt → 4 * (sLen + cnt) * i.bytes ≤ 281474976710656 →
      ∀ {tr : Tr CV} (_ : ∀ j, tr.get? j = (old ++ new)[j]?) {h' : Hp} (_ : ∀ j, h'.get? j = if j = m1.n then some (.cells true i.size ((sLen + cnt) * i.size) tr) else m1.h.get? j),
      ∃ v' w' e', (Builtin.append_ #[tx, ty] rt #[.slice base sLen sCap, ux]).run P w = .ok v' w' ∧ VR σ e' (.sl m1.n 0 (sLen + cnt) (sLen + cnt)) v' ∧ RL σ G e' ⟨h', m1.n + 1, m1.tab⟩ w' ∧ Kept e m1 w e' ⟨h', m1.n + 1, m1.tab⟩ w' := by
    intro e w ux base sLen sCap m1 old olds news rt hR hnews hs hold hol hfc hgt hfit tr htr h' hh'
    obtain ⟨sl, hsl⟩ := grownCap_split w (sLen + cnt) sCap et
    have hn : sLen + cnt ≤ 281474976710656 := by
      have hb : 0 < i.bytes := by
        rcases Nat.eq_zero_or_pos i.bytes with h | h
        · rw [hby, h] at hb0; cases hb0
        · exact h
      have : (sLen + cnt) * 1 ≤ (4 * (sLen + cnt)) * i.bytes := Nat.mul_le_mul (by omega) hb
      omega
    have hfit' : Builtin.nextslicecap (sLen + cnt) sCap * i.bytes ≤ 281474976710656 := by
      have h1 := nextslicecap_le hgt
      have : Builtin.nextslicecap (sLen + cnt) sCap * i.bytes ≤ (4 * (sLen + cnt)) * i.bytes := Nat.mul_le_mul_right _ (by omega)
      omega
    have hrun := run_append_grow_src (P := P) w tx ty rt et i zv hu hi hzv base sLen sCap olds (hfc w.drew rfl) ux cnt news hs hgt (by omega) hfit'
    rw [hsl] at hrun
    have hBR := BR.grown (σ := σ) (e := e) (hold.append hnews) htr (sz := (sLen + cnt) * i.size) (s := sl) (by simp [hol, hlen, Nat.add_mul]) hzs w.heap.size et
    have hnew := hR.new (dr := w.drawn + 1) hBR hh'
    refine ⟨_, _, e.up m1.n ⟨w.heap.size, 0, sl, true⟩, hrun, .sl (o := 0) (cap := sLen + cnt) (p := ⟨w.heap.size, 0, sl, true⟩) (Env.up_same _ _ _), ?_, ?_⟩
    · have := hnew.1
      rw [show sLen + cnt + sl - (sLen + cnt) = sl by omega]
      exact this
    · have := hnew.2
      rw [show sLen + cnt + sl - (sLen + cnt) = sl by omega]
      exact this
  cases s <;> simp only [] at h5 <;> first | (cases h5; done) | skip
  · -- nil
    split at h5
    · rename_i hc0
      have hc0 : cnt = 0 := by simpa using hc0
      refine ⟨_, _, h5, rfl, fun e w us ux rt hR hs hx => ?_⟩
      cases hs
      obtain ⟨news, hnews, hsr⟩ := hsrc hR.hr hx hty
      subst hc0
      refine ⟨.slice none 0 0, w, e, ?_, .sl0, hR, .refl _ _ _⟩
      rcases hsr.kind with ⟨e', hk⟩ | hk <;> simp [Builtin.append_, undRun hu, undRun hk, szRun hi, hsr.len, hsr.cells]
    · rename_i hcnt
      obtain ⟨hfit, h6⟩ := isTrue_inv h5
      have hfit := Nat.le_of_ble_eq_true hfit
      rw [hby] at hfit
      rw [forceN_eq] at h6
      obtain ⟨h', h7, hh'⟩ := newB_inv h6
      have hpos : 0 < cnt := by
        rcases Nat.eq_zero_or_pos cnt with h | h
        · subst h; cases hcnt
        · exact h
      refine ⟨_, _, h7, rfl, fun e w us ux rt hR hs hx => ?_⟩
      cases hs
      obtain ⟨news, hnews, hsr⟩ := hsrc hR.hr hx hty
      have := grow (base := none) (sLen := 0) (sCap := 0) (old := []) (olds := []) rt hR hnews hsr .nil (by simp) (fun w' _ => by simp [Builtin.firstCells]) (by omega) (by simpa using hfit) (tr := ofList new) (fun j => by rw [ofList_get]; simp) (h' := h') (by simpa using hh')
      simpa using this
  · -- a slice
    rename_i b off len cap
    obtain ⟨lo, es, sz, cs, hc, h6⟩ := withCells_inv h5
    rw [forceN_eq] at h6
    split at h6
    · -- there is room, whatever the capacity
      rename_i hroom
      have hroom := Nat.le_of_ble_eq_true hroom
      obtain ⟨cs', h7, hone', hin, hcs⟩ := storeN_inv h6
      obtain ⟨h', h8, _, hh'⟩ := setK_inv _ _ _ _ h7
      refine ⟨_, _, h8, rfl, fun e w us ux rt hR hs hx => ?_⟩
      obtain ⟨news, hnews, hsr⟩ := hsrc hR.hr hx hty
      cases hs with
      | @sl _ _ _ _ p hb =>
        obtain ⟨a1, a2, a3, a4, a5⟩ := hR.store hb hc hone' hin hcs hh' hnews
        have e1 : ∀ j, off + len * i.size + p.d + j = off + p.d + len * i.size + j := fun j => by omega
        have e2 : off + len * i.size + p.d = off + p.d + len * i.size := by omega
        simp only [e1] at a1 a2
        rw [e2] at a4 a5
        have hrun := run_append_room_src (P := P) w tx ty rt et i hu hi p.r (off + p.d) len (cap + p.s) ux cnt news hsr (by omega) a1 a2
        exact ⟨_, _, e, hrun, .sl hb, a4, a5⟩
    · rename_i hnr
      have hnr : cap < len + cnt := by
        rcases Nat.lt_or_ge cap (len + cnt) with h | h
        · exact h
        · rw [Nat.ble_eq_true_of_le h] at hnr; cases hnr
      obtain ⟨hfit, h7⟩ := isTrue_inv h6
      have hfit := Nat.le_of_ble_eq_true hfit
      rw [hby] at hfit
      rw [forceN_eq] at h7
      cases lo with
      | false =>
        simp only [] at h7
        obtain ⟨old, hol, hrow, h8⟩ := loadN_inv h7
        obtain ⟨h', h9, hh'⟩ := newB_inv h8
        refine ⟨_, _, h9, rfl, fun e w us ux rt hR hs hx => ?_⟩
        cases hs with
        | @sl _ _ _ _ p hb =>
          obtain ⟨_, c, el, fz, hw, _, hex, hout, hin, _⟩ := hR.hr.cells hb hc
          obtain ⟨vs, hvs, hget⟩ := row_real hout hin hrow
          have hps := (hex rfl).2
          obtain ⟨news, hnews, hsr⟩ := hsrc hR.hr hx hty
          refine grow rt hR hnews hsr hvs hol (fun w' hw' => ?_) (by omega) hfit (tr := ofList (old ++ new)) (fun j => ofList_get _ _) hh'
          have hvl : vs.length = len * i.size := hvs.1 ▸ hol
          have := run_loadRow (P := P) (w := w') (r := p.r) (o := off + p.d) (by rw [hw']; exact hw) vs hget
          rw [hvl] at this
          simpa [Builtin.firstCells] using this
      | true =>
        obtain ⟨hes, h8⟩ := isTrue_inv h7
        have hes : es = i.size := by simpa using hes
        obtain ⟨hcap, h9⟩ := isTrue_inv h8
        have hcap : off + cap * es = sz := by simpa using hcap
        obtain ⟨h1, h10, _, hh1⟩ := setK_inv _ _ _ _ h9
        subst hes
        -- the two ways to lay the row
        have lay : ∃ (tr : Tr CV) (h' : Hp), k (.sl m.n 0 (len + cnt) (len + cnt)) ⟨h', m.n + 1, m.tab⟩ = true ∧ (∀ j, h'.get? j = if j = m.n then some (.cells true i.size ((len + cnt) * i.size) tr) else h1.get? j) ∧
            ∀ {e : Env} {w : World} {p : Place}, HR σ e m.h w → e b = some p → ∃ old : List CV, old.length = len * i.size ∧ Row cs off old ∧ ∀ j, tr.get? j = (old ++ new)[j]? := by
          split at h10
          · rename_i hb
            simp only [Bool.and_eq_true, Nat.beq_eq] at hb
            obtain ⟨hoff, hfull⟩ := hb
            obtain ⟨cs', h11, hp⟩ := pushN_inv h10
            obtain ⟨h', h12, hh'⟩ := newB_inv h11
            refine ⟨cs', h', h12, hh', fun {e w p} hr hb => ?_⟩
            obtain ⟨_, c, el, fz, _, _, _, hout, hin, _⟩ := hr.cells hb hc
            have hrow : ∀ (n o : Nat), o + n ≤ sz → Row cs o ((List.range n).map fun j => (cs.get? (o + j)).getD undefC) := by
              intro n
              induction n with
              | zero => intro o _; trivial
              | succ n ih =>
                intro o ho
                rw [List.range_succ_eq_map]
                obtain ⟨cv, v, a1, _, _⟩ := hin o (by omega)
                refine ⟨by simp [a1], ?_⟩
                have := ih (o + 1) (by omega)
                simpa [List.map_map, Function.comp_def, Nat.add_assoc, Nat.add_comm 1] using this
            refine ⟨_, ?_, hrow sz off (by omega), fun j => ?_⟩
            · simp [← hfull]
            · rw [hp]
              by_cases hj : j < sz
              · rw [if_neg (by omega), List.getElem?_append_left (by simpa using hj)]
                obtain ⟨cv, v, a1, _, _⟩ := hin j hj
                simp [hj, hoff, a1]
              · rw [List.getElem?_append_right (by simp; omega)]
                simp only [List.length_map, List.length_range]
                by_cases hj2 : j < sz + new.length
                · rw [if_pos ⟨by omega, hj2⟩]
                · rw [if_neg (by omega), hout j (by omega), List.getElem?_eq_none (by omega)]
          · obtain ⟨old, hol, hrow, h11⟩ := loadN_inv h10
            obtain ⟨h', h12, hh'⟩ := newB_inv h11
            exact ⟨_, h', h12, hh', fun {e w p} _ _ => ⟨old, hol, hrow, fun j => ofList_get _ _⟩⟩
        obtain ⟨tr, h', h11, hh', hlay⟩ := lay
        refine ⟨_, _, h11, rfl, fun e w us ux rt hR hs hx => ?_⟩
        obtain ⟨news, hnews, hsr⟩ := hsrc hR.hr hx hty
        cases hs with
        | @sl _ _ _ _ p hb =>
          obtain ⟨old, hol, hrow, htr⟩ := hlay hR.hr hb
          obtain ⟨hl, c, el, fz, hw, hsz, hex, hout, hin, hfz⟩ := hR.hr.cells hb hc
          obtain ⟨vs, hvs, hget⟩ := row_real hout hin hrow
          have hvl : vs.length = len * i.size := hvs.1 ▸ hol
          have hnl : news.length = cnt * i.size := hnews.1 ▸ hlen
          obtain ⟨hRk, hKk⟩ := hR.kill hb hh1
          by_cases hroom : len + cnt ≤ cap + p.s
          · -- in place
            have hm1 : (len + cnt) * i.size ≤ (cap + p.s) * i.size := Nat.mul_le_mul_right _ hroom
            have hsplit : (cap + p.s) * i.size = (len + cnt) * i.size + (cap + p.s - (len + cnt)) * i.size := by
              rw [← Nat.add_mul]; congr 1; omega
            have hcs : c.size = off + p.d + (cap + p.s) * i.size := by rw [hsz, ← hcap, Nat.add_mul]; omega
            have hadd : (len + cnt) * i.size = len * i.size + cnt * i.size := Nat.add_mul _ _ _
            have a1 : ∀ j, j < news.length → (w.cell? ⟨p.r, off + p.d + len * i.size + j, none⟩).isSome = true := by
              intro j hj
              have : off + p.d + len * i.size + j < c.size := by omega
              simp [World.cell?, hw, this]
            have a2 : ∀ j, j < news.length → w.frozen? ⟨p.r, off + p.d + len * i.size + j, none⟩ = false := by
              intro j hj
              have : off + p.d + len * i.size + j < c.size := by omega
              simp only [World.frozen?, hw]
              rcases hfz with rfl | ⟨_, _, rfl⟩
              · simp
              · simp; omega
            have hrun := run_append_room_src (P := P) w tx ty rt et i hu hi p.r (off + p.d) len (cap + p.s) ux cnt news hsr hroom a1 a2
            obtain ⟨c', g2, g3, g4, g5, g6, g7⟩ := setCells_heap p.r el fz news (off + p.d + len * i.size) w c hw
            have hBR : BR σ (e.kill b) (.cells true i.size ((len + cnt) * i.size) tr) ⟨p.r, off + p.d, cap + p.s - (len + cnt), true⟩ (.cells c' el fz) := by
              have hall := hvs.append hnews
              have hallen : (old ++ new).length = (len + cnt) * i.size := by simp [hol, hlen, Nat.add_mul]
              refine .cells (by rw [g3, hcs, hsplit]; simp; omega) (fun h => by cases h) (fun j hj => ?_) (fun j hj => ?_) ?_
              · rw [htr]; exact List.getElem?_eq_none (by omega)
              · have hj' : j < (old ++ new).length := by omega
                obtain ⟨v, q1, q2⟩ := hall.get (List.getElem?_eq_getElem hj')
                refine ⟨_, v, by rw [htr]; exact List.getElem?_eq_getElem hj', ?_, q2.mono (Ext.kill e b)⟩
                show c'[off + p.d + j]? = some v
                rw [g4]
                by_cases hjo : j < len * i.size
                · rw [if_neg (by omega)]
                  rw [List.getElem?_append_left (by omega)] at q1
                  exact hget j v q1
                · rw [if_pos (by omega)]
                  rw [List.getElem?_append_right (by omega)] at q1
                  rw [show off + p.d + j - (off + p.d + len * i.size) = j - vs.length by omega]
                  exact q1
              · rcases hfz with h | ⟨_, h2, h3⟩
                · exact .inl h
                · exact .inr ⟨rfl, h2, by rw [g3]; exact h3⟩
            have hfree : ∀ x q, e.kill b x = some q → q.live = true → q.r ≠ p.r := by
              intro x q hq hql he
              by_cases hxb : x = b
              · subst hxb; simp [Env.kill, hb] at hq; subst hq; cases hql
              · have hq' : e x = some q := by simpa [Env.kill, hxb] using hq
                exact hxb (hR.inj _ _ _ _ hq' hb hql hl he)
            have hRn := hRk.bind (p := ⟨p.r, off + p.d, cap + p.s - (len + cnt), true⟩) rfl hfree hBR hh' g2
            have hkn : (e.kill b) m.n = none := hRk.bnd _ (Nat.le_refl _)
            have hbn : b ≠ m.n := fun h => by have := hR.bnd m.n (Nat.le_refl _); rw [← h, hb] at this; cases this
            refine ⟨_, _, (e.kill b).up m.n ⟨p.r, off + p.d, cap + p.s - (len + cnt), true⟩, hrun, ?_, hRn, ?_⟩
            · have := VR.sl (σ := σ) (o := 0) (len := len + cnt) (cap := len + cnt) (Env.up_same (e.kill b) m.n ⟨p.r, off + p.d, cap + p.s - (len + cnt), true⟩)
              simp only [Nat.zero_add] at this
              rw [show len + cnt + (cap + p.s - (len + cnt)) = cap + p.s by omega] at this
              exact this
            · have hsize : w.heap.size ≤ (w.setCells p.r (off + p.d + len * i.size) news).heap.size := by
                rcases Nat.lt_or_ge (w.setCells p.r (off + p.d + len * i.size) news).heap.size w.heap.size with h | h
                · exfalso
                  have := g2 (w.setCells p.r (off + p.d + len * i.size) news).heap.size
                  rw [Array.getElem?_eq_none (Nat.le_refl _)] at this
                  split at this
                  · cases this
                  · rw [Array.getElem?_eq_getElem h] at this; cases this
                · exact h
              refine ⟨(Ext.kill e b).trans (Ext.up hkn), Nat.le_succ _, fun x hx hn => ?_, hsize, fun r hr hn => ?_, fun x q hq hql => ?_, g5, g6, g7⟩
              · have hxn : x ≠ m.n := by omega
                have hxb : x ≠ b := fun h => by rw [h, hb] at hn; cases hn
                exact ⟨by simp [Env.up, hxn, Env.kill, hxb, hn], by show h'.get? x = _; rw [hh', if_neg hxn, hh1, if_neg hxb]⟩
              · rw [g2, if_neg (fun he => hn b p hb hl he.symm)]
              · by_cases hxn : x = m.n
                · subst hxn
                  simp [Env.up] at hq
                  subst hq
                  exact .inl ⟨b, p, hb, hl, rfl⟩
                · have hq' : e.kill b x = some q := by simpa [Env.up, hxn] using hq
                  by_cases hxb : x = b
                  · subst hxb; simp [Env.kill, hb] at hq'; subst hq'; cases hql
                  · exact .inl ⟨x, q, by simpa [Env.kill, hxb] using hq', hql, rfl⟩
          · -- a new row
            obtain ⟨v', w', e', q1, q2, q3, q4⟩ := grow (m1 := ⟨h1, m.n, m.tab⟩) (base := some ⟨p.r, off + p.d, none⟩) (sLen := len) (sCap := cap + p.s) rt hRk (hnews.mono (Ext.kill e b)) hsr (hvs.mono (Ext.kill e b)) hol (fun w' hw' => by
                have := run_loadRow (P := P) (w := w') (r := p.r) (o := off + p.d) (by rw [hw']; exact hw) vs hget
                rw [hvl] at this
                simpa [Builtin.firstCells] using this) (by omega) hfit htr hh'
            exact ⟨v', w', e', q1, q2, q3, hKk.trans q4⟩

end
end Go.Ev
