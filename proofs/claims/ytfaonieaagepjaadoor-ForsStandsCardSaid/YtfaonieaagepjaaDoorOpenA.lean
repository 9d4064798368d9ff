/- What layer 14's statements are given: addresses, four rows in a struct. -/
import Derived.Test.YtfaonieaagepjaaDoorOpenG
import Derived.Test.YtfaonieaagepjaaDoorZA
import Derived.Test.YtfaonieaagepjaaDoorA4A
namespace Go.Proofs.YtfaonieaagepjaaDoor
open Go.RowKit Go.ChangeShapes Go.WideShapes Go.Joins Go.Deep Go.WideElems Go.Maps
set_option linter.unusedVariables false
theorem W32_of_wf {x : Int} (h : (Lit.int .u32 x).wf = true) : W32 x := by
  simp [Lit.wf, IntKind.min, IntKind.max, IntKind.bits, IntKind.signed] at h
  exact ⟨by omega, by omega⟩
theorem U64_of_wf {x : Int} (h : (Lit.int .u64 x).wf = true) : 0 ≤ x ∧ x < 18446744073709551616 := by
  simp [Lit.wf, IntKind.min, IntKind.max, IntKind.bits, IntKind.signed] at h
  exact ⟨by omega, by omega⟩
theorem open_adrs {H : Type} {enc : TypeId × Value → H} {P : Program} {w : World} {r : Reach} {b0 base : Nat} {spare : Nat → Bool} {held : Bool} {t : TypeId} {f0 f1 f2 f3 f4 f5 : Field} {v : Value} {d : DataW H} {p : List MemPlace}
    (hs : P.underlying t = some (.struct #[f0, f1, f2, f3, f4, f5])) (u0 : P.underlying f0.type = some (.int .u32)) (u1 : P.underlying f1.type = some (.int .u64)) (u2 : P.underlying f2.type = some (.int .u32)) (u3 : P.underlying f3.type = some (.int .u32)) (u4 : P.underlying f4.type = some (.int .u32)) (u5 : P.underlying f5.type = some (.int .u32)) (hone : oneCellFields P #[f0, f1, f2, f3, f4, f5] = true) (hC : P.cellsOf t = 6)
    (hv : Value.okWide P w r b0 t v) (h : DataW.Trod enc P w base spare held t v d p) :
    ∃ a : Ad, v = .agg a.cs ∧ a.ok := by
  obtain ⟨cs, rfl, hsz⟩ := okWide_struct hs hv
  obtain ⟨fuel, hf⟩ := h
  obtain ⟨xs, m, _, _, _, hlen, hg⟩ := DataW.trod_struct hs hf
  obtain ⟨l⟩ := cs
  have hl : l.length = 6 := hsz.trans hC
  obtain ⟨o0, z0⟩ := hone_of hone 0 f0 rfl
  obtain ⟨a0, e0, _, w0⟩ := DataW.trod_int u0 ((hg 0 f0 rfl).trans (List.getElem?_eq_getElem (by simp [hlen])))
  rw [o0, z0] at e0
  obtain ⟨o1, z1⟩ := hone_of hone 1 f1 rfl
  obtain ⟨a1, e1, _, w1⟩ := DataW.trod_int u1 ((hg 1 f1 rfl).trans (List.getElem?_eq_getElem (by simp [hlen])))
  rw [o1, z1] at e1
  obtain ⟨o2, z2⟩ := hone_of hone 2 f2 rfl
  obtain ⟨a2, e2, _, w2⟩ := DataW.trod_int u2 ((hg 2 f2 rfl).trans (List.getElem?_eq_getElem (by simp [hlen])))
  rw [o2, z2] at e2
  obtain ⟨o3, z3⟩ := hone_of hone 3 f3 rfl
  obtain ⟨a3, e3, _, w3⟩ := DataW.trod_int u3 ((hg 3 f3 rfl).trans (List.getElem?_eq_getElem (by simp [hlen])))
  rw [o3, z3] at e3
  obtain ⟨o4, z4⟩ := hone_of hone 4 f4 rfl
  obtain ⟨a4, e4, _, w4⟩ := DataW.trod_int u4 ((hg 4 f4 rfl).trans (List.getElem?_eq_getElem (by simp [hlen])))
  rw [o4, z4] at e4
  obtain ⟨o5, z5⟩ := hone_of hone 5 f5 rfl
  obtain ⟨a5, e5, _, w5⟩ := DataW.trod_int u5 ((hg 5 f5 rfl).trans (List.getElem?_eq_getElem (by simp [hlen])))
  rw [o5, z5] at e5
  match l, hl with
  | [c0, c1, c2, c3, c4, c5], _ =>
    refine ⟨⟨a0, a1, a2, a3, a4, a5⟩, ?_, W32_of_wf w0, U64_of_wf w1, W32_of_wf w2, W32_of_wf w3, W32_of_wf w4, W32_of_wf w5⟩
    simp [Value.cells] at e0 e1 e2 e3 e4 e5
    simp [Ad.cs, e0, e1, e2, e3, e4, e5]
theorem open_rows4 {H : Type} {enc : TypeId × Value → H} {P : Program} {w : World} {r : Reach} {b0 base : Nat} {held : Bool} {t e : TypeId} {f0 f1 f2 f3 : Field} {k : IntKind} {v : Value} {d : DataW H} {p : List MemPlace}
    (hs : P.underlying t = some (.struct #[f0, f1, f2, f3])) (h0 : P.underlying f0.type = some (.slice e)) (h1 : P.underlying f1.type = some (.slice e)) (h2 : P.underlying f2.type = some (.slice e)) (h3 : P.underlying f3.type = some (.slice e))
    (he : P.underlying e = some (.int k)) (hce : P.cellsOf e = 1) (hone : oneCellFields P #[f0, f1, f2, f3] = true) (hC : P.cellsOf t = 4)
    (hv : Value.okWide P w r b0 t v) (h : DataW.Trod enc P w base (fun _ => true) held t v d p) :
    ∃ (A0 A1 A2 A3 : Option Addr) (c0 c1 c2 c3 : Nat) (l0 l1 l2 l3 : List Int), v = .agg #[.slice A0 l0.length c0, .slice A1 l1.length c1, .slice A2 l2.length c2, .slice A3 l3.length c3] ∧
      (Rd w w.heap.size k A0 l0 ∧ l0.length ≤ c0 ∧ c0 ≤ 9223372036854775807 ∧ (∀ x ∈ l0, (Lit.int k x).wf = true)) ∧ (Rd w w.heap.size k A1 l1 ∧ l1.length ≤ c1 ∧ c1 ≤ 9223372036854775807 ∧ (∀ x ∈ l1, (Lit.int k x).wf = true)) ∧
      (Rd w w.heap.size k A2 l2 ∧ l2.length ≤ c2 ∧ c2 ≤ 9223372036854775807 ∧ (∀ x ∈ l2, (Lit.int k x).wf = true)) ∧ (Rd w w.heap.size k A3 l3 ∧ l3.length ≤ c3 ∧ c3 ≤ 9223372036854775807 ∧ (∀ x ∈ l3, (Lit.int k x).wf = true)) := by
  obtain ⟨v0, v1, v2, v3, y0, y1, y2, y3, n, rfl, _, _, e0, e1, e2, e3⟩ := open_agg4 hs hone hC hv h
  obtain ⟨A0, c0, l0, rfl, g0, p0, q0, _, u0⟩ := open_numsT h0 he hce e0
  obtain ⟨A1, c1, l1, rfl, g1, p1, q1, _, u1⟩ := open_numsT h1 he hce e1
  obtain ⟨A2, c2, l2, rfl, g2, p2, q2, _, u2⟩ := open_numsT h2 he hce e2
  obtain ⟨A3, c3, l3, rfl, g3, p3, q3, _, u3⟩ := open_numsT h3 he hce e3
  exact ⟨A0, A1, A2, A3, c0, c1, c2, c3, l0, l1, l2, l3, rfl, ⟨g0, p0, q0, u0⟩, ⟨g1, p1, q1, u1⟩, ⟨g2, p2, q2, u2⟩, ⟨g3, p3, q3, u3⟩⟩
theorem two_of {l : List Int} (h : l.length = 2) : ∃ p q, l = [p, q] := by
  match l, h with
  | [p, q], _ => exact ⟨p, q, rfl⟩
end Go.Proofs.YtfaonieaagepjaaDoor
