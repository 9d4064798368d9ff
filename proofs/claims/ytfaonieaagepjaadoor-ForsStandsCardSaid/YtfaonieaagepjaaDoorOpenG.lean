/- Structs of four and of six numbers that came in, by value. -/
import Derived.Test.YtfaonieaagepjaaDoorZA
import Derived.Lib.SmallJoins
namespace Go.Proofs.YtfaonieaagepjaaDoor
open Go.RowKit Go.ChangeShapes Go.WideShapes Go.Joins Go.Deep Go.WideElems Go.Maps
set_option linter.unusedVariables false
set_option linter.unusedSimpArgs false
theorem open_four {H : Type} {enc : TypeId × Value → H} {P : Program} {w : World} {r : Reach} {b0 base : Nat} {spare : Nat → Bool} {held : Bool} {t : TypeId} {f0 f1 f2 f3 : Field} {k0 k1 k2 k3 : IntKind} {v : Value} {d : DataW H} {p : List MemPlace}
    (hs : P.underlying t = some (.struct #[f0, f1, f2, f3])) (u0 : P.underlying f0.type = some (.int k0)) (u1 : P.underlying f1.type = some (.int k1)) (u2 : P.underlying f2.type = some (.int k2)) (u3 : P.underlying f3.type = some (.int k3)) (hone : oneCellFields P #[f0, f1, f2, f3] = true) (hC : P.cellsOf t = 4)
    (hv : Value.okWide P w r b0 t v) (h : DataW.Trod enc P w base spare held t v d p) :
    ∃ a0 a1 a2 a3, v = .agg #[.int k0 a0, .int k1 a1, .int k2 a2, .int k3 a3] := by
  obtain ⟨cs, rfl, hsz⟩ := okWide_struct hs hv
  obtain ⟨fuel, hf⟩ := h
  obtain ⟨xs, m, _, _, _, hlen, hg⟩ := DataW.trod_struct hs hf
  obtain ⟨l⟩ := cs
  have hl : l.length = 4 := hsz.trans hC
  obtain ⟨o0, z0⟩ := hone_of hone 0 f0 rfl
  obtain ⟨a0, e0, _, _⟩ := DataW.trod_int u0 ((hg 0 f0 rfl).trans (List.getElem?_eq_getElem (by simp [hlen])))
  rw [o0, z0] at e0
  obtain ⟨o1, z1⟩ := hone_of hone 1 f1 rfl
  obtain ⟨a1, e1, _, _⟩ := DataW.trod_int u1 ((hg 1 f1 rfl).trans (List.getElem?_eq_getElem (by simp [hlen])))
  rw [o1, z1] at e1
  obtain ⟨o2, z2⟩ := hone_of hone 2 f2 rfl
  obtain ⟨a2, e2, _, _⟩ := DataW.trod_int u2 ((hg 2 f2 rfl).trans (List.getElem?_eq_getElem (by simp [hlen])))
  rw [o2, z2] at e2
  obtain ⟨o3, z3⟩ := hone_of hone 3 f3 rfl
  obtain ⟨a3, e3, _, _⟩ := DataW.trod_int u3 ((hg 3 f3 rfl).trans (List.getElem?_eq_getElem (by simp [hlen])))
  rw [o3, z3] at e3
  match l, hl with
  | [c0, c1, c2, c3], _ =>
    refine ⟨a0, a1, a2, a3, ?_⟩
    simp [Value.cells] at e0 e1 e2 e3
    simp [e0, e1, e2, e3]
theorem open_six {H : Type} {enc : TypeId × Value → H} {P : Program} {w : World} {r : Reach} {b0 base : Nat} {spare : Nat → Bool} {held : Bool} {t : TypeId} {f0 f1 f2 f3 f4 f5 : Field} {k0 k1 k2 k3 k4 k5 : IntKind} {v : Value} {d : DataW H} {p : List MemPlace}
    (hs : P.underlying t = some (.struct #[f0, f1, f2, f3, f4, f5])) (u0 : P.underlying f0.type = some (.int k0)) (u1 : P.underlying f1.type = some (.int k1)) (u2 : P.underlying f2.type = some (.int k2)) (u3 : P.underlying f3.type = some (.int k3)) (u4 : P.underlying f4.type = some (.int k4)) (u5 : P.underlying f5.type = some (.int k5)) (hone : oneCellFields P #[f0, f1, f2, f3, f4, f5] = true) (hC : P.cellsOf t = 6)
    (hv : Value.okWide P w r b0 t v) (h : DataW.Trod enc P w base spare held t v d p) :
    ∃ a0 a1 a2 a3 a4 a5, v = .agg #[.int k0 a0, .int k1 a1, .int k2 a2, .int k3 a3, .int k4 a4, .int k5 a5] := by
  obtain ⟨cs, rfl, hsz⟩ := okWide_struct hs hv
  obtain ⟨fuel, hf⟩ := h
  obtain ⟨xs, m, _, _, _, hlen, hg⟩ := DataW.trod_struct hs hf
  obtain ⟨l⟩ := cs
  have hl : l.length = 6 := hsz.trans hC
  obtain ⟨o0, z0⟩ := hone_of hone 0 f0 rfl
  obtain ⟨a0, e0, _, _⟩ := DataW.trod_int u0 ((hg 0 f0 rfl).trans (List.getElem?_eq_getElem (by simp [hlen])))
  rw [o0, z0] at e0
  obtain ⟨o1, z1⟩ := hone_of hone 1 f1 rfl
  obtain ⟨a1, e1, _, _⟩ := DataW.trod_int u1 ((hg 1 f1 rfl).trans (List.getElem?_eq_getElem (by simp [hlen])))
  rw [o1, z1] at e1
  obtain ⟨o2, z2⟩ := hone_of hone 2 f2 rfl
  obtain ⟨a2, e2, _, _⟩ := DataW.trod_int u2 ((hg 2 f2 rfl).trans (List.getElem?_eq_getElem (by simp [hlen])))
  rw [o2, z2] at e2
  obtain ⟨o3, z3⟩ := hone_of hone 3 f3 rfl
  obtain ⟨a3, e3, _, _⟩ := DataW.trod_int u3 ((hg 3 f3 rfl).trans (List.getElem?_eq_getElem (by simp [hlen])))
  rw [o3, z3] at e3
  obtain ⟨o4, z4⟩ := hone_of hone 4 f4 rfl
  obtain ⟨a4, e4, _, _⟩ := DataW.trod_int u4 ((hg 4 f4 rfl).trans (List.getElem?_eq_getElem (by simp [hlen])))
  rw [o4, z4] at e4
  obtain ⟨o5, z5⟩ := hone_of hone 5 f5 rfl
  obtain ⟨a5, e5, _, _⟩ := DataW.trod_int u5 ((hg 5 f5 rfl).trans (List.getElem?_eq_getElem (by simp [hlen])))
  rw [o5, z5] at e5
  match l, hl with
  | [c0, c1, c2, c3, c4, c5], _ =>
    refine ⟨a0, a1, a2, a3, a4, a5, ?_⟩
    simp [Value.cells] at e0 e1 e2 e3 e4 e5
    simp [e0, e1, e2, e3, e4, e5]
end Go.Proofs.YtfaonieaagepjaaDoor
