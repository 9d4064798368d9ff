/- A package-level array of structs of two numbers, read out of a row's list. -/
import Derived.Test.YtigedohalangbaaDoorS8A
import Derived.Lib.LaidTab
import Derived.ChangeSame
import Derived.Stop.LaidErr
namespace Go.Proofs.YtigedohalangbaaDoor
open Go.RowKit Go.ChangeShapes Go.WideShapes
set_option linter.unusedVariables false
set_option linter.unusedSimpArgs false
def pairData {H : Type} (k : IntKind) (zs : List (Int × Int)) : DataW H := .agg (zs.map fun z => .agg [.lit (.int k z.1), .lit (.int k z.2)])
theorem pair_cells {H : Type} {enc : TypeId × Value → H} {P : Program} {w : World} {base : Nat} {sp : Nat → Bool} {held : Bool} {fuel : Nat} {t e : TypeId} {f0 f1 : Field} {n : Nat} {k : IntKind} {cs : List Value} {zs : List (Int × Int)} {p : List MemPlace}
    (ht : P.underlying t = some (.array n e)) (hs : P.underlying e = some (.struct #[f0, f1])) (h0 : P.underlying f0.type = some (.int k)) (h1 : P.underlying f1.type = some (.int k)) (hce : P.cellsOf e = 2) (hc0 : P.cellsOf f0.type = 1) (hc1 : P.cellsOf f1.type = 1) (ho0 : f0.offset = 0) (ho1 : f1.offset = 1)
    (h : DataW.trod enc P w base sp held fuel t cs = some (pairData k zs, p)) (i : Nat) (hi : i < n) :
    ∃ z, zs[i]? = some z ∧ cs[i * 2]? = some (.int k z.1) ∧ cs[i * 2 + 1]? = some (.int k z.2) := by
  cases fuel with
  | zero => simp [DataW.trod] at h
  | succ fuel =>
    simp only [DataW.trod, ht, hce] at h
    split at h
    · obtain ⟨xs, hm, hx⟩ := Option.map_eq_some_iff.1 h
      have hxs : xs.map (·.1) = zs.map fun z => (.agg [.lit (.int k z.1), .lit (.int k z.2)] : DataW H) := by
        have := congrArg Prod.fst hx
        simpa [pairData] using this
      obtain ⟨b, hb, hf⟩ := Lib.mapM_at hm i i (by simp [hi])
      have h2 : (xs.map (·.1))[i]? = some b.1 := by simp [hb]
      rw [hxs] at h2
      simp only [List.getElem?_map, Option.map_eq_some_iff] at h2
      obtain ⟨z, hz, hzb⟩ := h2
      refine ⟨z, hz, ?_⟩
      obtain ⟨y0, y1, m, hb2, _, g0, g1⟩ := trod_struct2 hs hf
      rw [hb2] at hzb
      simp only [DataW.agg.injEq, List.cons.injEq, and_true] at hzb
      obtain ⟨hz0, hz1⟩ := hzb
      obtain ⟨a0, hc0', hy0, _⟩ := DataW.trod_int h0 g0
      obtain ⟨a1, hc1', hy1, _⟩ := DataW.trod_int h1 g1
      rw [hy0] at hz0
      rw [hy1] at hz1
      simp only [DataW.lit.injEq, Lit.int.injEq, true_and] at hz0 hz1
      rw [ho0, hc0] at hc0'
      rw [ho1, hc1] at hc1'
      constructor
      · have := congrArg (·[0]?) hc0'
        rw [hz0]
        simpa [List.getElem?_take, List.getElem?_drop] using this
      · have := congrArg (·[0]?) hc1'
        rw [hz1]
        simpa [List.getElem?_take, List.getElem?_drop] using this
    · cases h
theorem pairs_of_head {P : Program} {W : World} {name : String} {k : IntKind} {zs : List (Int × Int)} {rest : List (String × DataW Unit)} {g : Nat} {t e : TypeId} {f0 f1 : Field} {n : Nat}
    (hg : P.globalNamed name = some g) (hty : (P.globals[g]?).map (·.type) = some t) (ht : P.underlying t = some (.array n e)) (hs : P.underlying e = some (.struct #[f0, f1])) (h0 : P.underlying f0.type = some (.int k)) (h1 : P.underlying f1.type = some (.int k)) (hce : P.cellsOf e = 2) (hc0 : P.cellsOf f0.type = 1) (hc1 : P.cellsOf f1.type = 1) (ho0 : f0.offset = 0) (ho1 : f1.offset = 1)
    (h : laidMet P ((name, pairData k zs) :: rest) W) (i : Nat) (hi : i < n) :
    ∃ z, zs[i]? = some z ∧ W.cell? ⟨g, i * 2, none⟩ = some (.int k z.1) ∧ W.cell? ⟨g, i * 2 + 1, none⟩ = some (.int k z.2) := by
  obtain ⟨ps, ⟨g', t', cs, fuel, p, q, hg', ht', hvar, hd, _, _⟩, _⟩ := h
  obtain rfl := Option.some.inj (hg.symm.trans hg')
  obtain rfl := Option.some.inj (hty.symm.trans ht')
  obtain ⟨z, hz, c0, c1⟩ := pair_cells ht hs h0 h1 hce hc0 hc1 ho0 ho1 hd i hi
  refine ⟨z, hz, ?_, ?_⟩
  · have := World.var?_cell hg hvar (i * 2)
    rw [this]; simpa using c0
  · have := World.var?_cell hg hvar (i * 2 + 1)
    rw [this]; simpa using c1
end Go.Proofs.YtigedohalangbaaDoor
