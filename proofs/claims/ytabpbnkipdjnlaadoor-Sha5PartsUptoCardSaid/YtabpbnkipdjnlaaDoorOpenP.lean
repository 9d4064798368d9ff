/- A slice of slices of bytes, opened; its bulk. Conditions: none of the program. -/
import Derived.Test.YtabpbnkipdjnlaaDoorOpenS
import Derived.Test.YtabpbnkipdjnlaaDoorCat
import Derived.Test.YtabpbnkipdjnlaaDoorRows
namespace Go.Proofs.YtabpbnkipdjnlaaDoor
open Go.RowKit Go.ChangeShapes Go.WideShapes
set_option linter.unusedVariables false
set_option linter.unusedSimpArgs false

section
variable {H : Type}
def dnum : DataW H → Int
  | .lit (.int _ n) => n
  | _ => 0
def numsOf : DataW H → List Int
  | .slice es _ => es.map dnum
  | _ => []
theorem bulk_pos : ∀ d : DataW H, 1 ≤ Rows.uptoBulk d
  | .lit x => by cases x <;> simp [Rows.uptoBulk]
  | .nil => by simp [Rows.uptoBulk]
  | .ptr d => by simp [Rows.uptoBulk]
  | .slice _ _ => by simp [Rows.uptoBulk]
  | .agg _ => by simp [Rows.uptoBulk]
  | .iface _ _ => by simp [Rows.uptoBulk]
  | .map _ => by simp [Rows.uptoBulk]
  | .held _ => by simp [Rows.uptoBulk]
theorem bulk_len : ∀ es : List (DataW H), es.length ≤ Rows.uptoBulkAll es
  | [] => by simp
  | d :: r => by
    have h1 := bulk_pos d
    have h2 := bulk_len r
    simp only [List.length_cons, Rows.uptoBulkAll]; omega
theorem numsOf_le (d : DataW H) : (numsOf d).length ≤ Rows.uptoBulk d := by
  cases d with
  | slice es sp =>
    have := bulk_len es
    simp only [numsOf, List.length_map, Rows.uptoBulk]; omega
  | _ => simp [numsOf]
theorem numsOf_lits (k : IntKind) (l : List Int) (sp : List (DataW H)) : numsOf (.slice (lits k l) sp : DataW H) = l := by
  simp only [numsOf, lits, List.map_map]
  exact List.map_id'' (fun _ => rfl) l
theorem flat_bulk : ∀ es : List (DataW H), (es.map numsOf).flatten.length ≤ Rows.uptoBulkAll es
  | [] => by simp
  | d :: r => by
    have h1 := numsOf_le d
    have h2 := flat_bulk r
    simp only [List.map_cons, List.flatten_cons, List.length_append, Rows.uptoBulkAll]; omega
theorem part_of {enc : TypeId × Value → H} {P : Program} {W : World} {base n : Nat} {held : Bool} {t e : TypeId} {v : Value} {y : DataW H × List MemPlace}
    (hu : P.underlying t = some (.slice e)) (he : P.underlying e = some (.int .u8)) (hce : P.cellsOf e = 1)
    (hf : DataW.trod enc P W base (fun _ => true) held n t [v] = some y) :
    IsPart W W.heap.size v (numsOf y.1) ∧ ∀ x ∈ numsOf y.1, (Lit.int .u8 x).wf = true := by
  rcases open_ints hu he hce hf with ⟨h, rfl⟩ | ⟨a, len, cap, zs, h, _, hlc, hcm, hzl, rfl, hcell, hwf⟩
  · injection h with h _
    subst h
    exact ⟨⟨none, 0, rfl, Rd.nil, Nat.le_refl _⟩, fun x hx => by cases hx⟩
  · injection h with h _
    subst h
    have hzl : zs.length = cap := by simpa using hzl
    have hl : (zs.take len).length = len := by simp; omega
    rw [numsOf_lits]
    refine ⟨⟨some a, cap, by rw [hl], fun h0 => ⟨a, rfl, ?_, fun i hi => ?_⟩, by rw [hl]; omega⟩, fun x hx => hwf x (List.mem_of_mem_take hx)⟩
    · rw [hl] at h0
      have := World.block_lt_of_cell? W _ (hcell 0 (by omega))
      rwa [block_plus] at this
    · rw [hl] at hi
      rw [gt_take _ _ _ hi]
      exact hcell i (by omega)
theorem open_parts {enc : TypeId × Value → H} {P : Program} {W : World} {r : Reach} {b0 base : Nat} {held : Bool} {t e f : TypeId} {v : Value} {d : DataW H} {p : List MemPlace}
    (hu : P.underlying t = some (.slice e)) (he : P.underlying e = some (.slice f)) (hf8 : P.underlying f = some (.int .u8)) (hce : P.cellsOf e = 1) (hcf : P.cellsOf f = 1)
    (hv : Value.okWide P W r b0 t v) (hd : DataW.Trod enc P W base (fun _ => true) held t v d p) :
    ∃ (A : Option Addr) (c : Nat) (ls : List (List Int)), v = .slice A ls.length c ∧ Parts W W.heap.size A ls ∧ ls.length ≤ c ∧ (∀ x ∈ ls.flatten, (Lit.int .u8 x).wf = true) ∧ ls.flatten.length ≤ Rows.uptoBulk d := by
  obtain ⟨A, n, c, rfl⟩ := okWide_slice hu hv
  obtain ⟨fuel, hf⟩ := hd
  rcases DataW.trod_slice hu hf with ⟨h, _⟩ | ⟨a, len, cap, elems, rest, m, _, h, hx, _, hlc, _, hlen, hel, _⟩
  · injection h with h _
    injection h with h1 h2 h3
    subst h1 h2 h3
    exact ⟨none, 0, [], rfl, fun h => absurd h (by simp), Nat.le_refl _, fun x hx => by simp at hx, by simp⟩
  · injection h with h _
    injection h with h1 h2 h3
    subst h1 h2 h3
    have hd : d = .slice (elems.map (·.1)) (rest.map (·.1)) := congrArg Prod.fst hx
    have hEl : ∀ i (hi : i < elems.length), ∃ u, W.cell? (a.add i) = some u ∧ IsPart W W.heap.size u (numsOf elems[i].1) ∧ ∀ x ∈ numsOf elems[i].1, (Lit.int .u8 x).wf = true := fun i hi => by
      have h := hel i (by omega)
      rw [hce, Nat.mul_one, List.getElem?_eq_getElem hi, Option.bind_eq_some_iff] at h
      obtain ⟨cs', hcs, hy⟩ := h
      have hone : ∃ u, cs' = [u] := List.length_eq_one_iff.1 (World.cells?_some hcs).2.1
      obtain ⟨u, rfl⟩ := hone
      have hpo := part_of he hf8 hcf hy
      exact ⟨u, cell_of_cells?_one hcs, hpo.1, hpo.2⟩
    refine ⟨some a, c, elems.map fun y => numsOf y.1, by simp [hlen], fun h0 => ?_, by simp; omega, fun x hx => ?_, ?_⟩
    · have h0' : 0 < elems.length := by simpa using h0
      obtain ⟨u0, hc0, _⟩ := hEl 0 h0'
      have hb := World.block_lt_of_cell? W _ hc0
      rw [block_plus] at hb
      refine ⟨a, rfl, hb, fun i hi => ?_⟩
      have hi' : i < elems.length := by simpa using hi
      obtain ⟨u, h1, h2, _⟩ := hEl i hi'
      refine ⟨u, h1, ?_⟩
      have : gl (elems.map fun y => numsOf y.1) i = numsOf elems[i].1 := by simp [gl, List.getD_eq_getElem?_getD, hi']
      rw [this]; exact h2
    · rw [List.mem_flatten] at hx
      obtain ⟨l, hl, hxl⟩ := hx
      rw [List.mem_map] at hl
      obtain ⟨y, hy, rfl⟩ := hl
      obtain ⟨i, hi, rfl⟩ := List.getElem_of_mem hy
      obtain ⟨_, _, _, hw⟩ := hEl i hi
      exact hw x hxl
    · have h1 := flat_bulk (elems.map (·.1))
      rw [List.map_map] at h1
      rw [hd, Rows.uptoBulk]
      have h2 : (elems.map fun y => numsOf y.1).flatten.length = (elems.map (numsOf ∘ fun x => x.1)).flatten.length := rfl
      omega
end

end Go.Proofs.YtabpbnkipdjnlaaDoor
