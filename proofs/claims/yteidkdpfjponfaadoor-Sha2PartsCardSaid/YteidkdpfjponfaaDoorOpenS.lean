/- A slice of numbers that came in. Conditions: none of the program. -/
import Derived.Test.YteidkdpfjponfaaDoorRp
import Derived.Test.YteidkdpfjponfaaDoorBits
import Derived.ProofKit
import Derived.OpenShut
namespace Go.Proofs.YteidkdpfjponfaaDoor
open Go.RowKit Go.ChangeShapes Go.WideShapes
set_option linter.unusedVariables false

theorem open_nums {H : Type} {enc : TypeId × Value → H} {P : Program} {W : World} {r : Reach} {b0 base : Nat} {held : Bool} {t e : TypeId} {k : IntKind} {v : Value} {d : DataW H} {p : List MemPlace}
    (hu : P.underlying t = some (.slice e)) (he : P.underlying e = some (.int k)) (hce : P.cellsOf e = 1)
    (hv : Value.okWide P W r b0 t v) (hd : DataW.Trod enc P W base (fun _ => true) held t v d p) :
    ∃ (A : Option Addr) (c : Nat) (l : List Int), v = .slice A l.length c ∧ Rd W W.heap.size k A l ∧ l.length ≤ c ∧ c ≤ 9223372036854775807 ∧ (A = none → c = 0) ∧ (∀ x ∈ l, (Lit.int k x).wf = true) := by
  obtain ⟨A, n, c, rfl⟩ := okWide_slice hu hv
  obtain ⟨fuel, hf⟩ := hd
  rcases open_ints hu he hce hf with ⟨h, _⟩ | ⟨a, len, cap, zs, h, _, hlc, hcm, hzl, _, hcell, hwf⟩
  · have h : [Value.slice A n c] = [.slice none 0 0] := h
    injection h with h _
    injection h with h1 h2 h3
    subst h1 h2 h3
    exact ⟨none, 0, [], rfl, Rd.nil, Nat.le_refl _, by decide, fun _ => rfl, fun x hx => by cases hx⟩
  · have h : [Value.slice A n c] = [.slice (some a) len cap] := h
    injection h with h _
    injection h with h1 h2 h3
    subst h1 h2 h3
    have hzl : zs.length = c := by simpa using hzl
    have hl : (zs.take n).length = n := by simp; omega
    refine ⟨some a, c, zs.take n, by rw [hl], fun h0 => ⟨a, rfl, ?_, fun i hi => ?_⟩, by rw [hl]; omega, ?_, (fun h => by cases h), fun x hx => hwf x (List.mem_of_mem_take hx)⟩
    · rw [hl] at h0
      have := World.block_lt_of_cell? W _ (hcell 0 (by omega))
      rwa [block_plus] at this
    · rw [hl] at hi
      rw [gt_take _ _ _ hi]
      exact hcell i (by omega)
    · have : maxLen ≤ 9223372036854775807 := by decide
      omega
theorem Bys_of_wf {l : List Int} (h : ∀ x ∈ l, (Lit.int .u8 x).wf = true) : Bys l := fun x hx => by
  have := h x hx
  simp [Lit.wf, IntKind.min, IntKind.max, IntKind.bits, IntKind.signed] at this
  exact ⟨by omega, by omega⟩
theorem i64_of_wf {l : List Int} (h : ∀ x ∈ l, (Lit.int .i64 x).wf = true) (i : Nat) : -9223372036854775808 ≤ gt l i ∧ gt l i ≤ 9223372036854775807 := by
  rcases Nat.lt_or_ge i l.length with hi | hi
  · have := h _ (gt_mem l i hi)
    simp [Lit.wf, IntKind.min, IntKind.max, IntKind.bits, IntKind.signed] at this
    omega
  · have : gt l i = 0 := by simp [gt, List.getD_eq_getElem?_getD, List.getElem?_eq_none hi]
    omega

end Go.Proofs.YteidkdpfjponfaaDoor
