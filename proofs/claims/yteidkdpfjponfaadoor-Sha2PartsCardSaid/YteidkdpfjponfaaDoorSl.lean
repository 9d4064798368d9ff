/- Cuts of a slice of numbers, between places that are variables: where the cut lies is told by one name. Conditions: none of the program. -/
import Derived.Test.YteidkdpfjponfaaDoorRp
namespace Go.Proofs.YteidkdpfjponfaaDoor
open Go.RowKit
set_option linter.unusedVariables false
set_option linter.unusedSimpArgs false

section
variable {P : Program}
theorem run_slice_ab (ty e : TypeId) (hu : P.underlying ty = some (.slice e)) (hs : (P.info? e).map (·.size) = some 1) (A : Option Addr) (n c lo hi : Nat) (h1 : lo ≤ hi) (h2 : hi ≤ c) (k k' : IntKind) (w : World) :
    (Instr.slice ty (.slice A n c) (some (.int k (lo : Int))) (some (.int k' (hi : Int))) none).run P w = .ok (.slice (if c = lo then A else A.map (·.add lo)) (hi - lo) (c - lo)) w := by
  cases hq : P.info? e with
  | none => simp [hq] at hs
  | some f =>
    have hs : f.size = 1 := by simpa [hq] using hs
    have a1 : (lo : Int) ≤ (hi : Int) := by omega
    have a2 : (hi : Int) ≤ (c : Int) := by omega
    simp [Instr.slice, run_underlying hu, Instr.sliceBounds, Instr.sliceBound, asIntOf, go_sem, sizeOf, typeInfo, hq, hs, a1, a2, h1, h2]
theorem run_slice_a (ty e : TypeId) (hu : P.underlying ty = some (.slice e)) (hs : (P.info? e).map (·.size) = some 1) (A : Option Addr) (n c lo : Nat) (h1 : lo ≤ n) (k : IntKind) (w : World) :
    (Instr.slice ty (.slice A n c) (some (.int k (lo : Int))) none none).run P w = .ok (.slice (if c = lo then A else A.map (·.add lo)) (n - lo) (c - lo)) w := by
  cases hq : P.info? e with
  | none => simp [hq] at hs
  | some f =>
    have hs : f.size = 1 := by simpa [hq] using hs
    have a1 : (lo : Int) ≤ (n : Int) := by omega
    simp [Instr.slice, run_underlying hu, Instr.sliceBounds, Instr.sliceBound, asIntOf, go_sem, sizeOf, typeInfo, hq, hs, a1, h1]
    try (intro h; omega)
theorem run_slice_0vv (ty e : TypeId) (hu : P.underlying ty = some (.slice e)) (hs : (P.info? e).map (·.size) = some 1) (A : Option Addr) (n c v : Nat) (h0 : 0 < v) (h1 : v ≤ c) (k k' : IntKind) (w : World) :
    (Instr.slice ty (.slice A n c) none (some (.int k (v : Int))) (some (.int k' (v : Int)))).run P w = .ok (.slice A v v) w := by
  cases hq : P.info? e with
  | none => simp [hq] at hs
  | some f =>
    have hs : f.size = 1 := by simpa [hq] using hs
    have a1 : (v : Int) ≤ (c : Int) := by omega
    have a2 : ¬ (v = 0) := by omega
    cases A <;> simp [Instr.slice, run_underlying hu, Instr.sliceBounds, Instr.sliceBound, asIntOf, go_sem, sizeOf, typeInfo, hq, hs, a1, h1, a2, Addr.add]
theorem run_slice_0v (ty e : TypeId) (hu : P.underlying ty = some (.slice e)) (hs : (P.info? e).map (·.size) = some 1) (A : Option Addr) (n c v : Nat) (h1 : v ≤ c) (k : IntKind) (w : World) :
    (Instr.slice ty (.slice A n c) none (some (.int k (v : Int))) none).run P w = .ok (.slice A v c) w := by
  cases hq : P.info? e with
  | none => simp [hq] at hs
  | some f =>
    have hs : f.size = 1 := by simpa [hq] using hs
    have a1 : (v : Int) ≤ (c : Int) := by omega
    cases A <;> simp [Instr.slice, run_underlying hu, Instr.sliceBounds, Instr.sliceBound, asIntOf, go_sem, sizeOf, typeInfo, hq, hs, a1, h1, Addr.add]
end

end Go.Proofs.YteidkdpfjponfaaDoor
