import Derived.Test.YteidkdpfjponfaaDoorBits
import Derived.ProofKit
import Derived.OpenShut
import Derived.Lib.LaidTab
namespace Go.Proofs.YteidkdpfjponfaaDoor
open Go.RowKit Go.ChangeShapes Go.WideShapes
set_option linter.unusedVariables false

def numOf : Option Value → Int
  | some (.int _ z) => z
  | _ => 0
/-- An array of numbers that came in, by value. -/
theorem open_numbers {H : Type} {enc : TypeId × Value → H} {P : Program} {W : World} {r : Reach} {b0 base : Nat} {sp : Nat → Bool} {held : Bool} {t e : TypeId} {n : Nat} {k : IntKind} {v : Value} {d : DataW H} {p : List MemPlace}
    (hu : P.underlying t = some (.array n e)) (he : P.underlying e = some (.int k)) (hce : P.cellsOf e = 1) (hct : P.cellsOf t = n)
    (hv : Value.okWide P W r b0 t v) (hd : DataW.Trod enc P W base sp held t v d p) :
    ∃ l : List Int, v = .agg (U k l) ∧ l.length = n ∧ ∀ x ∈ l, (Lit.int k x).wf = true := by
  simp only [Value.okWide, hu] at hv
  obtain ⟨cs, rfl, hsz, _⟩ := hv
  obtain ⟨fuel, hf⟩ := hd
  obtain ⟨xs, m, _, _, hlen, hxs, hel⟩ := DataW.trod_array hu hf
  have hc : ∀ i, i < n → ∃ z, cs[i]? = some (.int k z) ∧ (Lit.int k z).wf = true := by
    intro i hi
    have h := hel i hi
    rw [hce, Nat.mul_one] at h
    have hi' : i < cs.toList.length := by simpa [hsz, hct] using hi
    rw [show (Value.agg cs).cells.toList = cs.toList from rfl, List.drop_eq_getElem_cons hi', List.take_succ_cons, List.take_zero] at h
    have hx : xs[i]? = some xs[i] := List.getElem?_eq_getElem (by omega)
    rw [hx] at h
    obtain ⟨z, e1, _, wz⟩ := DataW.trod_int he h
    refine ⟨z, ?_, wz⟩
    have : cs.toList[i] = .int k z := by simpa using e1
    rw [← Array.getElem?_toList, List.getElem?_eq_getElem hi', this]
  refine ⟨(List.range n).map fun i => numOf cs[i]?, ?_, by simp, ?_⟩
  · congr 1
    apply Array.ext_getElem?
    intro i
    by_cases hi : i < n
    · obtain ⟨z, hz, _⟩ := hc i hi
      rw [U_get _ _ _ (by simpa using hi), hz]
      simp [gt, hi, hz, numOf]
    · rw [Array.getElem?_eq_none (by rw [hsz, hct]; omega), Array.getElem?_eq_none (by simp [U_size]; omega)]
  · intro x hx
    simp only [List.mem_map, List.mem_range] at hx
    obtain ⟨i, hi, rfl⟩ := hx
    obtain ⟨z, hz, wz⟩ := hc i hi
    simpa [hz, numOf] using wz
theorem Ws_of_wf {l : List Int} (h : ∀ x ∈ l, (Lit.int .u64 x).wf = true) : Ws l := fun x hx => by
  have := h x hx
  simp [Lit.wf, IntKind.min, IntKind.max, IntKind.bits, IntKind.signed] at this
  exact ⟨by omega, by omega⟩

end Go.Proofs.YteidkdpfjponfaaDoor
