/- A struct of two numbers that came in, by value. -/
import Derived.Test.YtigedohalangbaaOpen
import Derived.Lib.SmallJoins
namespace Go.Proofs.Ytigedohalangbaa
open Go.RowKit Go.ChangeShapes Go.WideShapes Go.Joins Go.Deep Go.WideElems Go.Maps
set_option linter.unusedVariables false
theorem open_two {H : Type} {enc : TypeId × Value → H} {P : Program} {w : World} {r : Reach} {b0 base : Nat} {spare : Nat → Bool} {held : Bool} {t : TypeId} {f0 f1 : Field} {k0 k1 : IntKind} {v : Value} {d : DataW H} {p : List MemPlace}
    (hs : P.underlying t = some (.struct #[f0, f1])) (h0 : P.underlying f0.type = some (.int k0)) (h1 : P.underlying f1.type = some (.int k1)) (hone : oneCellFields P #[f0, f1] = true) (hC : P.cellsOf t = 2)
    (hv : Value.okWide P w r b0 t v) (h : DataW.Trod enc P w base spare held t v d p) :
    ∃ a b, v = .agg #[.int k0 a, .int k1 b] := by
  obtain ⟨v0, v1, y0, y1, n, rfl, _, _, e0, e1⟩ := open_agg2 hs hone hC hv h
  obtain ⟨a, ea, _⟩ := DataW.trod_int h0 e0
  obtain ⟨b, eb, _⟩ := DataW.trod_int h1 e1
  injection ea with ea
  injection eb with eb
  subst ea eb
  exact ⟨a, b, rfl⟩
end Go.Proofs.Ytigedohalangbaa
