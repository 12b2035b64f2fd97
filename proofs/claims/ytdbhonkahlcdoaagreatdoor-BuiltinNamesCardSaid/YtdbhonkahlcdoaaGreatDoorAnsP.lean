/- builtin.Name and value.Number as contracts that the evaluator takes. Condition: strings.asciiSpace and strconv.ErrSyntax read as they are laid. -/
import Derived.Test.YtdbhonkahlcdoaaGreatDoorEvO
import Derived.Test.YtdbhonkahlcdoaaGreatDoorNameC
import Derived.Test.YtdbhonkahlcdoaaGreatDoorNumC
import Derived.KernelRfl
namespace Go.Proofs.YtdbhonkahlcdoaaGreatDoor
open Go Go.Ev
set_option maxRecDepth 1000000
/-- what the two read of the library's variables -/
structure Libs (w : World) : Prop where
  sp : Spaces w
  er : ∃ te pe, w.var? Tryz.prog "strconv.ErrSyntax" = some #[.iface te pe]
  pw : Lib.TabIs Tryz.prog w "internal/strconv.uint64pow10" .u64 Lib.pow10Tab
theorem gA : Tryz.prog.globalNamed "strings.asciiSpace" = some 0 := by kernel_rfl
theorem gE : Tryz.prog.globalNamed "strconv.ErrSyntax" = some 5 := by kernel_rfl
theorem var_of {w0 w : World} {n : String} {g : Nat} {c : Array Value} (hg : Tryz.prog.globalNamed n = some g) (h : w0.var? Tryz.prog n = some c) (hb : ∀ o, w0.heap[g]? = some o → w.heap[g]? = some o) : w.var? Tryz.prog n = some c := by
  simp only [World.var?, hg, Option.bind_some] at h ⊢
  cases h0 : w0.heap[g]? with
  | none => rw [h0] at h; cases h
  | some o => rw [hb o h0]; rw [h0] at h; exact h
theorem gP : Tryz.prog.globalNamed "internal/strconv.uint64pow10" = some 4 := by kernel_rfl
def fixed (r : Nat) : Bool := Nat.beq r 0 || (Nat.beq r 5 || Nat.beq r 4)
theorem Libs.of_fx {w0 w : World} (h : Libs w0) (hb : ∀ r o, fixed r = true → w0.heap[r]? = some o → w.heap[r]? = some o) : Libs w := by
  obtain ⟨h1, ⟨te, pe, h2⟩, h3⟩ := h
  exact ⟨var_of gA h1 fun o ho => hb _ o rfl ho, ⟨te, pe, var_of gE h2 fun o ho => hb _ o rfl ho⟩, var_of gP h3 fun o ho => hb _ o rfl ho⟩
def strOf (b : ByteArray) : CV := .str b.size (encBytes b.data.toList)
/-- the names, from ten on -/
def nameL : List CV := [.str 6 91759600823911, .str 6 86266253305202, .str 4 1801812339, .str 14 2097126231105673354653837927206758, .str 6 109342978307173, .str 7 29681597484786041, .str 3 7170414, .str 3 7168376, .str 3 6382195, .str 14 2301213380135507544270768179344235, .str 4 1886745448, .str 3 7368560, .str 5 495672977012, .str 7 33054014227179124, .str 5 495740085093, .str 7 29676250032787302, .str 8 7597118938897737075, .str 4 1785686382, .str 6 109330244526452, .str 7 32199706527560549, .str 7 28832984205452136, .str 3 7168368, .str 6 112602977166706, .str 4 1936682341, .str 5 435778056825, .str 4 1718185572, .str 6 125779802678117, .str 4 1936683636, .str 0 0, .str 0 0, .str 5 495740085093, .str 7 29676250032787302, .str 8 7597118938897737075, .str 10 545218989645367268177000, .str 5 495807392116, .str 11 140761153830229051267183461, .str 11 140760987739445118680265573, .str 4 1953655149, .str 6 125780002955636, .str 0 0, .str 3 5071216, .str 7 24599792060293488, .str 3 6776180, .str 3 7562612, .str 3 6840691, .str 6 110386773062757, .str 4 1936292453, .str 4 1801812339, .str 6 130160803538291, .str 0 0, .str 7 22643821039416165, .str 7 32199693810038373, .str 6 125779902292852, .str 4 1952998766, .str 5 426836779880, .str 7 32199693810038373, .str 6 125779902292852, .str 0 0, .str 0 0, .str 0 0, .str 5 298272845682, .str 9 1558277107616530460530, .str 10 389031341209076454551410, .str 14 1671191322026108085646479150182258, .str 9 2129766453455245371001, .str 5 482671227749, .str 0 0, .str 0 0, .str 0 0, .str 0 0, .str 4 1852143732, .str 5 499968536439, .str 4 1852143732, .str 4 1667329132, .str 5 418498243705, .str 0 0, .str 0 0, .str 0 0, .str 0 0, .str 0 0]
theorem nameL_ok : ((List.range 80).map fun i => strOf (nameOf (Int.ofNat (10 + i)))) = nameL := by kernel_rfl
theorem nameLow : ((List.range 10).map fun i => strOf (nameOf (Int.ofNat i))) = List.replicate 10 (.str 0 0) := by kernel_rfl
def nameCV (m : Nat) : CV := match Nat.blt m 10 with
  | true => .str 0 0
  | false => match nameL[m - 10]? with
    | some c => c
    | none => .str 0 0
theorem nameOf_high (m : Nat) (h : 90 ≤ m) : nameOf (Int.ofNat m) = ⟨#[]⟩ := by
  have e : (Int.ofNat m).tdiv 10 = Int.ofNat (m / 10) := rfl
  have hw : wordsOf (Int.ofNat (m / 10) * 10) = [] := by
    have : (9 : Int) ≤ Int.ofNat (m / 10) := by show (9 : Int) ≤ ((m / 10 : Nat) : Int); omega
    unfold wordsOf
    rw [if_neg (by omega), if_neg (by omega), if_neg (by omega), if_neg (by omega), if_neg (by omega), if_neg (by omega), if_neg (by omega), if_neg (by omega)]
  unfold nameOf
  rw [e, hw]
  split
  · rfl
  · rfl
theorem nameCV_ok (m : Nat) : nameCV m = strOf (nameOf (Int.ofNat m)) := by
  unfold nameCV
  cases hb : Nat.blt m 10 with
  | true =>
    have hm : m < 10 := by simpa [Nat.blt_eq] using hb
    have := congrArg (fun l => l[m]?) nameLow
    simp only [List.getElem?_map, List.getElem?_range hm, Option.map_some, List.getElem?_replicate, hm, if_true, Option.some.injEq] at this
    exact this.symm
  | false =>
    have hm : 10 ≤ m := by
      rcases Nat.lt_or_ge m 10 with h | h
      · have : Nat.blt m 10 = true := by simpa [Nat.blt_eq] using h
        rw [hb] at this; cases this
      · exact h
    rcases Nat.lt_or_ge m 90 with h | h
    · have := congrArg (fun l => l[m - 10]?) nameL_ok
      have e : 10 + (m - 10) = m := by omega
      simp only [List.getElem?_map, List.getElem?_range (show m - 10 < 80 by omega), Option.map_some, e] at this
      rw [← this]
    · have : nameL[m - 10]? = none := List.getElem?_eq_none (by show 80 ≤ m - 10; omega)
      simp only [this]
      rw [nameOf_high m h]
      rfl
def ansName (args : List CV) : Option CV := match args with
  | [.int .i64 (.ofNat m)] => match Nat.blt m 100000 with
    | true => some (nameCV m)
    | false => none
  | _ => none
/-- a text that begins with no digit and no sign -/
def letterB (len code : Nat) : Bool := match len with
  | 0 => false
  | n + 1 => match Nat.blt n 1000 with
    | true => Nat.blt 57 (Nat.mod (Nat.div code (Nat.pow 256 n)) 256)
    | false => false
def ansNum (args : List CV) : Option CV := match args with
  | [.str len code] => match letterB len code with
    | true => some (.tup [.int .i64 0, .int .i64 6])
    | false => none
  | _ => none
theorem letter_first {b : ByteArray} {code : Nat} (h : letterB b.size code = true) (hc : encBytes b.data.toList = code) : b.size ≤ 1000 ∧ ∃ x r, b.data.toList = x :: r ∧ 57 < x.toNat := by
  have hd : decBytes b.size (encBytes b.data.toList) = b.data.toList := by
    have := dec_enc b.data.toList
    simpa using this
  rw [hc] at hd
  unfold letterB at h
  split at h
  · cases h
  · rename_i n hn
    split at h
    · rename_i h1
      have h1 : n < 1000 := by simpa [Nat.blt_eq] using h1
      have h2 : 57 < code / 256 ^ n % 256 := Nat.le_of_ble_eq_true h
      rw [hn] at hd
      simp only [decBytes] at hd
      refine ⟨by omega, _, _, hd.symm, ?_⟩
      simp only [UInt8.toNat_ofNat']
      omega
    · cases h
def A0 : AnsT := fun g => match Nat.beq g 13 with
  | true => some ansName
  | false => match Nat.beq g 47 with
    | true => some ansNum
    | false => none
section
variable {σ : Sg} {w0 : World}
theorem name_goes (hng : NoCount Tryz.prog) {id : Int} (hid : -9223372036854775808 ≤ id ∧ id ≤ 9223372036854775807) (e : Env) (w : World) (hT : Spaces w) (kd : CallKind) (c : Frame) (cs : List Frame) (hk : KindOK (.func 13) kd c) :
    ∃ v' w', CallGoes Tryz.prog kd c cs (CallSem (.func 13) #[.int .i64 id]) w v' w' ∧ VR σ e (strOf (nameOf id)) v' ∧ RowKit.Below w.heap.size w w' := by
  obtain ⟨cb, hcb⟩ : ∃ cb, Tryz.f13.body = some cb := Option.isSome_iff_exists.1 (by kernel_rfl)
  refine goes_of_wp (Φ := fun v' w' => VR σ e (strOf (nameOf id)) v' ∧ RowKit.Below w.heap.size w w') hng Tryz.func13 hcb ?_ (name_wp cb hcb id hid w hT) kd c cs hk
  rintro en w' ⟨h1, h2⟩
  exact ⟨_, h1, .str _ rfl rfl, h2⟩
theorem number_goes (hng : NoCount Tryz.prog) {s : ByteArray} (hs : s.size ≤ 1000) {b : UInt8} {r : List UInt8} (h : s.data.toList = b :: r) (h' : 57 < b.toNat) (e : Env) (w : World) (hL : Libs w) (kd : CallKind) (c : Frame) (cs : List Frame) (hk : KindOK (.func 47) kd c) :
    ∃ v' w', CallGoes Tryz.prog kd c cs (CallSem (.func 47) #[.string s]) w v' w' ∧ VR σ e (.tup [.int .i64 0, .int .i64 6]) v' ∧ RowKit.Below w.heap.size w w' := by
  obtain ⟨cb, hcb⟩ : ∃ cb, Tryz.f47.body = some cb := Option.isSome_iff_exists.1 (by kernel_rfl)
  obtain ⟨te, pe, hv⟩ := hL.er
  have hc := World.var?_cell gE hv 0
  refine goes_of_wp (Φ := fun v' w' => VR σ e (.tup [.int .i64 0, .int .i64 6]) v' ∧ RowKit.Below w.heap.size w w') hng Tryz.func47 hcb ?_ (number_wp cb hcb s hs b r h h' te pe w hc) kd c cs hk
  rintro en w' ⟨h1, h2⟩
  exact ⟨_, h1, .tup rfl (LR.cons (.int _ _) (LR.cons (.int _ _) LR.nil)).2, h2⟩
theorem ans0 (hng : NoCount Tryz.prog) (hL : Libs w0) (hfx : ∀ r o, fixed r = true → w0.heap[r]? = some o → σ.fx r = some o) : AnsOk Tryz.prog σ A0 := by
  intro g ans args v hg hv e w vs kd c cs hl hx hk
  have libs : Libs w := hL.of_fx fun r o hr h => hx r o (hfx r o hr h)
  unfold A0 at hg
  split at hg
  · rename_i h
    obtain rfl : g = 13 := by simpa using h
    obtain rfl := Option.some.inj hg
    unfold ansName at hv
    split at hv
    · rename_i m
      obtain ⟨u, us, hu, r1, r2⟩ := hl.cons_inv
      obtain rfl := r2.nil_inv
      have hvs : vs = #[u] := by apply Array.ext'; exact hu
      subst hvs
      cases r1
      split at hv
      · rename_i hm
        have hm : m < 100000 := by simpa [Nat.blt_eq] using hm
        obtain rfl := Option.some.inj hv
        rw [nameCV_ok]
        exact name_goes hng (by show (-9223372036854775808 : Int) ≤ (m : Int) ∧ (m : Int) ≤ 9223372036854775807; omega) e w libs.sp kd c cs hk
      · cases hv
    · cases hv
  · split at hg
    · rename_i h
      obtain rfl : g = 47 := by simpa using h
      obtain rfl := Option.some.inj hg
      unfold ansNum at hv
      split at hv
      · rename_i len code
        obtain ⟨u, us, hu, r1, r2⟩ := hl.cons_inv
        obtain rfl := r2.nil_inv
        have hvs : vs = #[u] := by apply Array.ext'; exact hu
        subst hvs
        cases r1
        rename_i s hs hc
        subst hs
        split at hv
        · rename_i hb
          obtain rfl := Option.some.inj hv
          obtain ⟨q1, x, r, q2, q3⟩ := letter_first hb hc
          exact number_goes hng q1 q2 q3 e w libs kd c cs hk
        · cases hv
      · cases hv
    · cases hg
end
end Go.Proofs.YtdbhonkahlcdoaaGreatDoor
