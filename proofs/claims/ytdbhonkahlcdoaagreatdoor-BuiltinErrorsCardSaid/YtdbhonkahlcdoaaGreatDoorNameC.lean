/- builtin.Name of every number, walked. Condition: the table strings.asciiSpace reads as it is laid. -/
import Derived.Test.YtdbhonkahlcdoaaGreatDoorShLay
import Derived.WalkKit
import Derived.WalkMore
import Derived.BigCall
import Derived.Below
namespace Go.Proofs.YtdbhonkahlcdoaaGreatDoor
open Go Go.RowKit
set_option maxRecDepth 100000
def lit1 : ByteArray := ⟨#[83, 116, 114, 105, 110, 103, 32, 78, 117, 109, 98, 101, 114, 32, 107, 101, 121, 115, 32, 103, 101, 116, 80, 114, 111, 116, 111, 116, 121, 112, 101, 79, 102, 32, 99, 114, 101, 97, 116, 101, 32, 105, 115, 65, 114, 114, 97, 121, 32, 109, 105, 110, 32, 109, 97, 120, 32, 97, 98, 115, 32, 113, 117, 101, 117, 101, 77, 105, 99, 114, 111, 116, 97, 115, 107]⟩
def lit2 : ByteArray := ⟨#[112, 117, 115, 104, 32, 112, 111, 112, 32, 115, 104, 105, 102, 116, 32, 117, 110, 115, 104, 105, 102, 116, 32, 115, 108, 105, 99, 101, 32, 105, 110, 100, 101, 120, 79, 102, 32, 105, 110, 99, 108, 117, 100, 101, 115, 32, 106, 111, 105, 110, 32, 99, 111, 110, 99, 97, 116, 32, 114, 101, 118, 101, 114, 115, 101]⟩
def lit3 : ByteArray := ⟨#[102, 111, 114, 69, 97, 99, 104, 32, 109, 97, 112, 32, 102, 105, 108, 116, 101, 114, 32, 115, 111, 109, 101, 32, 101, 118, 101, 114, 121, 32, 102, 105, 110, 100, 32, 114, 101, 100, 117, 99, 101, 32, 115, 111, 114, 116]⟩
def lit4 : ByteArray := ⟨#[115, 108, 105, 99, 101, 32, 105, 110, 100, 101, 120, 79, 102, 32, 105, 110, 99, 108, 117, 100, 101, 115, 32, 115, 116, 97, 114, 116, 115, 87, 105, 116, 104, 32, 115, 112, 108, 105, 116, 32, 116, 111, 85, 112, 112, 101, 114, 67, 97, 115, 101, 32, 116, 111, 76, 111, 119, 101, 114, 67, 97, 115, 101, 32, 116, 114, 105, 109, 32, 114, 101, 112, 101, 97, 116]⟩
def lit5 : ByteArray := ⟨#[77, 97, 112, 32, 87, 101, 97, 107, 77, 97, 112, 32, 103, 101, 116, 32, 115, 101, 116, 32, 104, 97, 115, 32, 100, 101, 108, 101, 116, 101, 32, 115, 105, 122, 101, 32, 107, 101, 121, 115, 32, 118, 97, 108, 117, 101, 115]⟩
def lit6 : ByteArray := ⟨#[80, 114, 111, 109, 105, 115, 101, 32, 114, 101, 115, 111, 108, 118, 101, 32, 114, 101, 106, 101, 99, 116, 32, 116, 104, 101, 110, 32, 99, 97, 116, 99, 104, 32, 114, 101, 115, 111, 108, 118, 101, 32, 114, 101, 106, 101, 99, 116]⟩
def lit7 : ByteArray := ⟨#[69, 114, 114, 111, 114, 32, 84, 121, 112, 101, 69, 114, 114, 111, 114, 32, 82, 97, 110, 103, 101, 69, 114, 114, 111, 114, 32, 82, 101, 102, 101, 114, 101, 110, 99, 101, 69, 114, 114, 111, 114, 32, 115, 116, 114, 105, 110, 103, 105, 102, 121, 32, 112, 97, 114, 115, 101]⟩
def lit8 : ByteArray := ⟨#[110, 101, 120, 116, 32, 116, 104, 114, 111, 119, 32, 110, 101, 120, 116, 32, 99, 97, 108, 108, 32, 97, 112, 112, 108, 121]⟩
/-- the words of a ten -/
def wordsOf (f : Int) : List (List UInt8) :=
  if f = 10 then Lib.fields lit1.data.toList else if f = 20 then Lib.fields lit2.data.toList else if f = 30 then Lib.fields lit3.data.toList else if f = 40 then Lib.fields lit4.data.toList
  else if f = 50 then Lib.fields lit5.data.toList else if f = 60 then Lib.fields lit6.data.toList else if f = 70 then Lib.fields lit7.data.toList else if f = 80 then Lib.fields lit8.data.toList else []
/-- the name of a number -/
def nameOf (id : Int) : ByteArray := if id < 0 then ⟨#[]⟩ else match (wordsOf (id.tdiv 10 * 10))[(id - id.tdiv 10 * 10).toNat]? with
  | some l => ⟨l.toArray⟩
  | none => ⟨#[]⟩
def Spaces (w : World) : Prop := Lib.TabIs Tryz.prog w "strings.asciiSpace" .u8 Lib.asciiSpaceTab
theorem fields_at (s : ByteArray) (ha : (s.data.toList.all fun b => decide (b.toNat < 128)) = true) (hs : s.size < 1000) (w : World) (hT : Spaces w) : Calls Tryz.prog 30 #[.string s] w fun e w' =>
      e = .returned (.slice (some ⟨w.heap.size, 0, none⟩) (Lib.fields s.data.toList).length (Lib.fields s.data.toList).length) ∧ w' = w.alloc (.cells ((Lib.fields s.data.toList).map fun l => Value.string ⟨l.toArray⟩).toArray 9) :=
  Any.strings_Fields Tryz.lays157 (by kernel_rfl) (by kernel_rfl) s w (by omega) (fun j b hb => by
    have := List.all_eq_true.1 ha b (List.mem_of_getElem? hb)
    simpa using this) hT
theorem word_at (w : World) (L : List (List UInt8)) (i : Nat) (hl : i < L.length) : (w.alloc (.cells (L.map fun l => Value.string ⟨l.toArray⟩).toArray 9)).cell? ⟨w.heap.size, i, none⟩ = some (.string ⟨L[i].toArray⟩) := by
  have hb : (w.alloc (.cells (L.map fun l => Value.string ⟨l.toArray⟩).toArray 9)).heap[w.heap.size]? = some (.cells (L.map fun l => Value.string ⟨l.toArray⟩).toArray 9 (0, 0)) := by
    show (w.heap.push _)[w.heap.size]? = _
    simp
  have hc : (w.alloc (.cells (L.map fun l => Value.string ⟨l.toArray⟩).toArray 9)).cell? ⟨w.heap.size, i, none⟩ = ((L.map fun l => Value.string ⟨l.toArray⟩).toArray)[i]? := by
    simp only [World.cell?, hb]
    rfl
  rw [hc]
  simp [hl]
theorem tdiv_bounds (id : Int) (h : -9223372036854775808 ≤ id ∧ id ≤ 9223372036854775807) : IntKind.i64.wrap (id.tdiv 10) = id.tdiv 10 ∧ IntKind.i64.wrap (id.tdiv 10 * 10) = id.tdiv 10 * 10 ∧ IntKind.i64.wrap (id - id.tdiv 10 * 10) = id - id.tdiv 10 * 10 ∧ (0 ≤ id → 0 ≤ id - id.tdiv 10 * 10) := by
  rcases Int.lt_or_le id 0 with hn | hp
  · have e : id.tdiv 10 = -((-id) / 10) := by
      have := Int.neg_tdiv (-id) 10
      rw [Int.neg_neg] at this
      rw [this, Int.tdiv_eq_ediv_of_nonneg (by omega)]
    rw [e]
    exact ⟨IntWalk.i64_in _ (by omega), IntWalk.i64_in _ (by omega), IntWalk.i64_in _ (by omega), fun h => by omega⟩
  · rw [Int.tdiv_eq_ediv_of_nonneg hp]
    exact ⟨IntWalk.i64_in _ (by omega), IntWalk.i64_in _ (by omega), IntWalk.i64_in _ (by omega), fun h => by omega⟩
set_option maxHeartbeats 8000000 in
theorem name_wp (c : Code) (hc : Tryz.f13.body = some c) (id : Int) (h : -9223372036854775808 ≤ id ∧ id ≤ 9223372036854775807) (w : World) (hT : Spaces w) : c.wp Tryz.prog (bodyPost Tryz.prog Tryz.f13 fun e w' => e = .returned (.string (nameOf id)) ∧ Below w.heap.size w w')
    { tmps := #[.int .i64 id] ++ Array.replicate (Tryz.f13.ntmps - (#[.int .i64 id] : Array Value).size) undef, defers := [] } w := by
  obtain rfl : _ = c := Option.some.inj hc
  clear hc
  simp only [Tryz.ntmps13, List.size_toArray, List.length_cons, List.length_nil, Nat.reduceAdd, Nat.reduceSub, Array.replicate_succ, Array.replicate_zero, List.push_toArray, List.append_toArray, List.nil_append, List.cons_append]
  obtain ⟨b1, b2, b3, b4⟩ := tdiv_bounds id h
  obtain ⟨R, hR⟩ : ∃ R, R = nameOf id := ⟨_, rfl⟩
  rw [← hR]
  unfold nameOf at hR
  obtain ⟨f, hf⟩ : ∃ f, f = id.tdiv 10 * 10 := ⟨_, rfl⟩
  have b2' : IntKind.i64.wrap (id.tdiv 10 * 10) = f := b2.trans hf.symm
  rw [← hf] at b3 b4 hR
  clear hf b2
  by_cases h10 : f = 10
  · subst h10
    obtain ⟨L, hL⟩ : ∃ L, L = Lib.fields lit1.data.toList := ⟨_, rfl⟩
    have cL := fields_at lit1 (by kernel_rfl) (by decide) w hT
    have hwd : wordsOf 10 = L := hL.symm
    rw [hwd] at hR
    rw [← hL] at cL
    clear hL hwd
    go_wp2_with fail
    refine cL.mono ?_
    rintro e w2 ⟨rfl, rfl⟩
    by_cases hn : id < 0
    · rw [if_pos hn] at hR
      subst hR
      go_wp2_with fail
      go_ret
      exact ⟨rfl, (Below.refl _ _).alloc (Nat.le_refl _) _⟩
    · rw [if_neg hn] at hR
      obtain ⟨i, hi⟩ : ∃ i : Nat, id - 10 = i := ⟨(id - 10).toNat, by have := b4 (by omega); omega⟩
      rw [hi] at b3 hR
      rw [Int.toNat_natCast] at hR
      by_cases hl : i < L.length
      · rw [List.getElem?_eq_getElem hl] at hR
        have hlz : (i : Int) < L.length := by omega
        have i0 : (0 : Int) ≤ i := by omega
        have hc : (w.alloc (.cells (L.map fun l => Value.string ⟨l.toArray⟩).toArray 9)).cell? ⟨w.heap.size, i, none⟩ = some (.string R) := by
          rw [hR]
          exact word_at w L i hl
        clear hR
        go_wp2_with fail
        go_ret
        exact ⟨rfl, (Below.refl _ _).alloc (Nat.le_refl _) _⟩
      · rw [List.getElem?_eq_none (by omega)] at hR
        have hlz : ¬ (i : Int) < L.length := by omega
        subst hR
        go_wp2_with fail
        go_ret
        exact ⟨rfl, (Below.refl _ _).alloc (Nat.le_refl _) _⟩
  by_cases h20 : f = 20
  · subst h20
    obtain ⟨L, hL⟩ : ∃ L, L = Lib.fields lit2.data.toList := ⟨_, rfl⟩
    have cL := fields_at lit2 (by kernel_rfl) (by decide) w hT
    have hwd : wordsOf 20 = L := hL.symm
    rw [hwd] at hR
    rw [← hL] at cL
    clear hL hwd
    go_wp2_with fail
    refine cL.mono ?_
    rintro e w2 ⟨rfl, rfl⟩
    by_cases hn : id < 0
    · rw [if_pos hn] at hR
      subst hR
      go_wp2_with fail
      go_ret
      exact ⟨rfl, (Below.refl _ _).alloc (Nat.le_refl _) _⟩
    · rw [if_neg hn] at hR
      obtain ⟨i, hi⟩ : ∃ i : Nat, id - 20 = i := ⟨(id - 20).toNat, by have := b4 (by omega); omega⟩
      rw [hi] at b3 hR
      rw [Int.toNat_natCast] at hR
      by_cases hl : i < L.length
      · rw [List.getElem?_eq_getElem hl] at hR
        have hlz : (i : Int) < L.length := by omega
        have i0 : (0 : Int) ≤ i := by omega
        have hc : (w.alloc (.cells (L.map fun l => Value.string ⟨l.toArray⟩).toArray 9)).cell? ⟨w.heap.size, i, none⟩ = some (.string R) := by
          rw [hR]
          exact word_at w L i hl
        clear hR
        go_wp2_with fail
        go_ret
        exact ⟨rfl, (Below.refl _ _).alloc (Nat.le_refl _) _⟩
      · rw [List.getElem?_eq_none (by omega)] at hR
        have hlz : ¬ (i : Int) < L.length := by omega
        subst hR
        go_wp2_with fail
        go_ret
        exact ⟨rfl, (Below.refl _ _).alloc (Nat.le_refl _) _⟩
  by_cases h30 : f = 30
  · subst h30
    obtain ⟨L, hL⟩ : ∃ L, L = Lib.fields lit3.data.toList := ⟨_, rfl⟩
    have cL := fields_at lit3 (by kernel_rfl) (by decide) w hT
    have hwd : wordsOf 30 = L := hL.symm
    rw [hwd] at hR
    rw [← hL] at cL
    clear hL hwd
    go_wp2_with fail
    refine cL.mono ?_
    rintro e w2 ⟨rfl, rfl⟩
    by_cases hn : id < 0
    · rw [if_pos hn] at hR
      subst hR
      go_wp2_with fail
      go_ret
      exact ⟨rfl, (Below.refl _ _).alloc (Nat.le_refl _) _⟩
    · rw [if_neg hn] at hR
      obtain ⟨i, hi⟩ : ∃ i : Nat, id - 30 = i := ⟨(id - 30).toNat, by have := b4 (by omega); omega⟩
      rw [hi] at b3 hR
      rw [Int.toNat_natCast] at hR
      by_cases hl : i < L.length
      · rw [List.getElem?_eq_getElem hl] at hR
        have hlz : (i : Int) < L.length := by omega
        have i0 : (0 : Int) ≤ i := by omega
        have hc : (w.alloc (.cells (L.map fun l => Value.string ⟨l.toArray⟩).toArray 9)).cell? ⟨w.heap.size, i, none⟩ = some (.string R) := by
          rw [hR]
          exact word_at w L i hl
        clear hR
        go_wp2_with fail
        go_ret
        exact ⟨rfl, (Below.refl _ _).alloc (Nat.le_refl _) _⟩
      · rw [List.getElem?_eq_none (by omega)] at hR
        have hlz : ¬ (i : Int) < L.length := by omega
        subst hR
        go_wp2_with fail
        go_ret
        exact ⟨rfl, (Below.refl _ _).alloc (Nat.le_refl _) _⟩
  by_cases h40 : f = 40
  · subst h40
    obtain ⟨L, hL⟩ : ∃ L, L = Lib.fields lit4.data.toList := ⟨_, rfl⟩
    have cL := fields_at lit4 (by kernel_rfl) (by decide) w hT
    have hwd : wordsOf 40 = L := hL.symm
    rw [hwd] at hR
    rw [← hL] at cL
    clear hL hwd
    go_wp2_with fail
    refine cL.mono ?_
    rintro e w2 ⟨rfl, rfl⟩
    by_cases hn : id < 0
    · rw [if_pos hn] at hR
      subst hR
      go_wp2_with fail
      go_ret
      exact ⟨rfl, (Below.refl _ _).alloc (Nat.le_refl _) _⟩
    · rw [if_neg hn] at hR
      obtain ⟨i, hi⟩ : ∃ i : Nat, id - 40 = i := ⟨(id - 40).toNat, by have := b4 (by omega); omega⟩
      rw [hi] at b3 hR
      rw [Int.toNat_natCast] at hR
      by_cases hl : i < L.length
      · rw [List.getElem?_eq_getElem hl] at hR
        have hlz : (i : Int) < L.length := by omega
        have i0 : (0 : Int) ≤ i := by omega
        have hc : (w.alloc (.cells (L.map fun l => Value.string ⟨l.toArray⟩).toArray 9)).cell? ⟨w.heap.size, i, none⟩ = some (.string R) := by
          rw [hR]
          exact word_at w L i hl
        clear hR
        go_wp2_with fail
        go_ret
        exact ⟨rfl, (Below.refl _ _).alloc (Nat.le_refl _) _⟩
      · rw [List.getElem?_eq_none (by omega)] at hR
        have hlz : ¬ (i : Int) < L.length := by omega
        subst hR
        go_wp2_with fail
        go_ret
        exact ⟨rfl, (Below.refl _ _).alloc (Nat.le_refl _) _⟩
  by_cases h50 : f = 50
  · subst h50
    obtain ⟨L, hL⟩ : ∃ L, L = Lib.fields lit5.data.toList := ⟨_, rfl⟩
    have cL := fields_at lit5 (by kernel_rfl) (by decide) w hT
    have hwd : wordsOf 50 = L := hL.symm
    rw [hwd] at hR
    rw [← hL] at cL
    clear hL hwd
    go_wp2_with fail
    refine cL.mono ?_
    rintro e w2 ⟨rfl, rfl⟩
    by_cases hn : id < 0
    · rw [if_pos hn] at hR
      subst hR
      go_wp2_with fail
      go_ret
      exact ⟨rfl, (Below.refl _ _).alloc (Nat.le_refl _) _⟩
    · rw [if_neg hn] at hR
      obtain ⟨i, hi⟩ : ∃ i : Nat, id - 50 = i := ⟨(id - 50).toNat, by have := b4 (by omega); omega⟩
      rw [hi] at b3 hR
      rw [Int.toNat_natCast] at hR
      by_cases hl : i < L.length
      · rw [List.getElem?_eq_getElem hl] at hR
        have hlz : (i : Int) < L.length := by omega
        have i0 : (0 : Int) ≤ i := by omega
        have hc : (w.alloc (.cells (L.map fun l => Value.string ⟨l.toArray⟩).toArray 9)).cell? ⟨w.heap.size, i, none⟩ = some (.string R) := by
          rw [hR]
          exact word_at w L i hl
        clear hR
        go_wp2_with fail
        go_ret
        exact ⟨rfl, (Below.refl _ _).alloc (Nat.le_refl _) _⟩
      · rw [List.getElem?_eq_none (by omega)] at hR
        have hlz : ¬ (i : Int) < L.length := by omega
        subst hR
        go_wp2_with fail
        go_ret
        exact ⟨rfl, (Below.refl _ _).alloc (Nat.le_refl _) _⟩
  by_cases h60 : f = 60
  · subst h60
    obtain ⟨L, hL⟩ : ∃ L, L = Lib.fields lit6.data.toList := ⟨_, rfl⟩
    have cL := fields_at lit6 (by kernel_rfl) (by decide) w hT
    have hwd : wordsOf 60 = L := hL.symm
    rw [hwd] at hR
    rw [← hL] at cL
    clear hL hwd
    go_wp2_with fail
    refine cL.mono ?_
    rintro e w2 ⟨rfl, rfl⟩
    by_cases hn : id < 0
    · rw [if_pos hn] at hR
      subst hR
      go_wp2_with fail
      go_ret
      exact ⟨rfl, (Below.refl _ _).alloc (Nat.le_refl _) _⟩
    · rw [if_neg hn] at hR
      obtain ⟨i, hi⟩ : ∃ i : Nat, id - 60 = i := ⟨(id - 60).toNat, by have := b4 (by omega); omega⟩
      rw [hi] at b3 hR
      rw [Int.toNat_natCast] at hR
      by_cases hl : i < L.length
      · rw [List.getElem?_eq_getElem hl] at hR
        have hlz : (i : Int) < L.length := by omega
        have i0 : (0 : Int) ≤ i := by omega
        have hc : (w.alloc (.cells (L.map fun l => Value.string ⟨l.toArray⟩).toArray 9)).cell? ⟨w.heap.size, i, none⟩ = some (.string R) := by
          rw [hR]
          exact word_at w L i hl
        clear hR
        go_wp2_with fail
        go_ret
        exact ⟨rfl, (Below.refl _ _).alloc (Nat.le_refl _) _⟩
      · rw [List.getElem?_eq_none (by omega)] at hR
        have hlz : ¬ (i : Int) < L.length := by omega
        subst hR
        go_wp2_with fail
        go_ret
        exact ⟨rfl, (Below.refl _ _).alloc (Nat.le_refl _) _⟩
  by_cases h70 : f = 70
  · subst h70
    obtain ⟨L, hL⟩ : ∃ L, L = Lib.fields lit7.data.toList := ⟨_, rfl⟩
    have cL := fields_at lit7 (by kernel_rfl) (by decide) w hT
    have hwd : wordsOf 70 = L := hL.symm
    rw [hwd] at hR
    rw [← hL] at cL
    clear hL hwd
    go_wp2_with fail
    refine cL.mono ?_
    rintro e w2 ⟨rfl, rfl⟩
    by_cases hn : id < 0
    · rw [if_pos hn] at hR
      subst hR
      go_wp2_with fail
      go_ret
      exact ⟨rfl, (Below.refl _ _).alloc (Nat.le_refl _) _⟩
    · rw [if_neg hn] at hR
      obtain ⟨i, hi⟩ : ∃ i : Nat, id - 70 = i := ⟨(id - 70).toNat, by have := b4 (by omega); omega⟩
      rw [hi] at b3 hR
      rw [Int.toNat_natCast] at hR
      by_cases hl : i < L.length
      · rw [List.getElem?_eq_getElem hl] at hR
        have hlz : (i : Int) < L.length := by omega
        have i0 : (0 : Int) ≤ i := by omega
        have hc : (w.alloc (.cells (L.map fun l => Value.string ⟨l.toArray⟩).toArray 9)).cell? ⟨w.heap.size, i, none⟩ = some (.string R) := by
          rw [hR]
          exact word_at w L i hl
        clear hR
        go_wp2_with fail
        go_ret
        exact ⟨rfl, (Below.refl _ _).alloc (Nat.le_refl _) _⟩
      · rw [List.getElem?_eq_none (by omega)] at hR
        have hlz : ¬ (i : Int) < L.length := by omega
        subst hR
        go_wp2_with fail
        go_ret
        exact ⟨rfl, (Below.refl _ _).alloc (Nat.le_refl _) _⟩
  by_cases h80 : f = 80
  · subst h80
    obtain ⟨L, hL⟩ : ∃ L, L = Lib.fields lit8.data.toList := ⟨_, rfl⟩
    have cL := fields_at lit8 (by kernel_rfl) (by decide) w hT
    have hwd : wordsOf 80 = L := hL.symm
    rw [hwd] at hR
    rw [← hL] at cL
    clear hL hwd
    go_wp2_with fail
    refine cL.mono ?_
    rintro e w2 ⟨rfl, rfl⟩
    by_cases hn : id < 0
    · rw [if_pos hn] at hR
      subst hR
      go_wp2_with fail
      go_ret
      exact ⟨rfl, (Below.refl _ _).alloc (Nat.le_refl _) _⟩
    · rw [if_neg hn] at hR
      obtain ⟨i, hi⟩ : ∃ i : Nat, id - 80 = i := ⟨(id - 80).toNat, by have := b4 (by omega); omega⟩
      rw [hi] at b3 hR
      rw [Int.toNat_natCast] at hR
      by_cases hl : i < L.length
      · rw [List.getElem?_eq_getElem hl] at hR
        have hlz : (i : Int) < L.length := by omega
        have i0 : (0 : Int) ≤ i := by omega
        have hc : (w.alloc (.cells (L.map fun l => Value.string ⟨l.toArray⟩).toArray 9)).cell? ⟨w.heap.size, i, none⟩ = some (.string R) := by
          rw [hR]
          exact word_at w L i hl
        clear hR
        go_wp2_with fail
        go_ret
        exact ⟨rfl, (Below.refl _ _).alloc (Nat.le_refl _) _⟩
      · rw [List.getElem?_eq_none (by omega)] at hR
        have hlz : ¬ (i : Int) < L.length := by omega
        subst hR
        go_wp2_with fail
        go_ret
        exact ⟨rfl, (Below.refl _ _).alloc (Nat.le_refl _) _⟩
  have e10 : (f == 10) = false := by simpa using h10
  have e20 : (f == 20) = false := by simpa using h20
  have e30 : (f == 30) = false := by simpa using h30
  have e40 : (f == 40) = false := by simpa using h40
  have e50 : (f == 50) = false := by simpa using h50
  have e60 : (f == 60) = false := by simpa using h60
  have e70 : (f == 70) = false := by simpa using h70
  have e80 : (f == 80) = false := by simpa using h80
  · obtain ⟨L, hL⟩ : ∃ L, L = Lib.fields (⟨#[]⟩ : ByteArray).data.toList := ⟨_, rfl⟩
    have cL := fields_at ⟨#[]⟩ (by kernel_rfl) (by decide) w hT
    have hwd : wordsOf f = L := by
      rw [hL]
      simp only [wordsOf, h10, h20, h30, h40, h50, h60, h70, h80, if_false]
      rfl
    rw [hwd] at hR
    rw [← hL] at cL
    clear hL hwd
    go_wp2_with fail
    refine cL.mono ?_
    rintro e w2 ⟨rfl, rfl⟩
    by_cases hn : id < 0
    · rw [if_pos hn] at hR
      subst hR
      go_wp2_with fail
      go_ret
      exact ⟨rfl, (Below.refl _ _).alloc (Nat.le_refl _) _⟩
    · rw [if_neg hn] at hR
      obtain ⟨i, hi⟩ : ∃ i : Nat, id - f = i := ⟨(id - f).toNat, by have := b4 (by omega); omega⟩
      rw [hi] at b3 hR
      rw [Int.toNat_natCast] at hR
      by_cases hl : i < L.length
      · rw [List.getElem?_eq_getElem hl] at hR
        have hlz : (i : Int) < L.length := by omega
        have i0 : (0 : Int) ≤ i := by omega
        have hc : (w.alloc (.cells (L.map fun l => Value.string ⟨l.toArray⟩).toArray 9)).cell? ⟨w.heap.size, i, none⟩ = some (.string R) := by
          rw [hR]
          exact word_at w L i hl
        clear hR
        go_wp2_with fail
        go_ret
        exact ⟨rfl, (Below.refl _ _).alloc (Nat.le_refl _) _⟩
      · rw [List.getElem?_eq_none (by omega)] at hR
        have hlz : ¬ (i : Int) < L.length := by omega
        subst hR
        go_wp2_with fail
        go_ret
        exact ⟨rfl, (Below.refl _ _).alloc (Nat.le_refl _) _⟩
end Go.Proofs.YtdbhonkahlcdoaaGreatDoor
