/- The heap as PromiseErrors has it when values are looked up: three blocks, written out. -/
import Derived.Test.YtmhbagaljonheaaGreatDoorRunA
import Derived.Test.YtmhbagaljonheaaGreatDoorEvI
namespace Go.Proofs.YtmhbagaljonheaaGreatDoor
open Go Go.Ev
set_option maxRecDepth 1000000
/-- one slot of the arena: a plain object -/
def slot (proto : Int) : List CV := [.bool true, .int .i64 0, .int .i64 proto, .sl0, .sl0, .sl0, .int .i64 0, .int .i64 0, .int .i64 0, .int .i64 0, .sl0]
def heapF : List FB := [
  { b := 11, te := 0, lo := false, es := 0, l := [.int .i64 1000, .int .i64 1007, .int .i64 1014, .int .i64 1014, .int .i64 1021, .int .i64 1028, .int .i64 1035, .int .i64 1042, .int .i64 1049, .int .i64 0, .int .i64 1056, .int .i64 1063] },
  { b := 95, te := 171, lo := true, es := 11, l := [slot 0, slot 1000, slot 1000, slot 1000, slot 1000, slot 1000, slot 1000, slot 1000, slot 1000, slot 1000, slot 1000, slot 1000].flatten },
  { b := 100, te := 41, lo := false, es := 0, l := [.int .i64 1000, .int .i64 7, .sl 95 0 12 12, .sl0, .int .i64 12, .int .i64 1077, .int .i64 1070, .sl 11 0 12 12] }]
def inN (b : Nat) : Bool := Nat.beq b 11 || (Nat.beq b 95 || Nat.beq b 100)
noncomputable def hp0 : Hp := smallH 101 heapF
theorem heapOk : FOk heapF inN 101 hp0 where
  nms := fun b hb => by
    simp only [inN, Bool.or_eq_true, Nat.beq_eq] at hb
    rcases hb with rfl | rfl | rfl
    · exact ⟨_, .head _, rfl⟩
    · exact ⟨_, .tail _ (.head _), rfl⟩
    · exact ⟨_, .tail _ (.tail _ (.head _)), rfl⟩
  lt := fun f hf => by
    have : (heapF.all fun f => Nat.blt f.b 101) = true := by kernel_rfl
    simpa [Nat.blt_eq] using List.all_eq_true.1 this f hf
  inN := fun f hf => by
    have : (heapF.all fun f => inN f.b) = true := by kernel_rfl
    exact List.all_eq_true.1 this f hf
  cl := fun f hf c hc => by
    have : (heapF.all fun f => f.l.all fun c => clCV inN c) = true := by kernel_rfl
    exact List.all_eq_true.1 (List.all_eq_true.1 this f hf) c hc
  hb := fun f hf => by
    rcases List.mem_cons.1 hf with rfl | hf
    · rfl
    rcases List.mem_cons.1 hf with rfl | hf
    · rfl
    rcases List.mem_cons.1 hf with rfl | hf
    · rfl
    · cases hf
/-- a small run: what is handed back, and the three blocks as they were -/
noncomputable def runV (f : FuncId) (args : List CV) (tab : Tab) (r : CV) : Res := stepS (D := 10) Tryz.prog tyI fnF G0 drawn 1000000 (callS (D := 10) Tryz.prog tyI fnF G0 drawn 1000000 140) (.func f) (encVs args) tab (encH 10 hp0) 101 (isRS 10 r heapF)
theorem runV_at {f : FuncId} {args : List CV} {tab : Tab} {r : CV} (h : (runV f args tab r).val = true) : callStep Tryz.prog G0 1000000 (callC Tryz.prog G0 1000000 140) (.func f) args ⟨hp0, 101, tab⟩ (isRP r heapF) = true :=
  runV_step tyI_eq fnF_eq drawFact h
end Go.Proofs.YtmhbagaljonheaaGreatDoor
