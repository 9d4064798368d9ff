/- Words for slices of numbers: a slice that reads as a list, a row of the call's own, what one append, one make, one store and one cut do to them. Conditions: none of the program. -/
import Derived.Test.YteidkdpfjponfaaDoorBase
import Derived.Laws.AppendOwn
import Derived.Laws.OwnMore
import Derived.Laws.MakeOwn
import Derived.Deep.AppendLies
import Derived.OwnWalk
import Derived.Maps.AppendAt
namespace Go.Proofs.YteidkdpfjponfaaDoor
open Go.RowKit
set_option linter.unusedVariables false

/-! ### Lists -/
theorem gt_drop (l : List Int) (i j : Nat) : gt (l.drop i) j = gt l (i + j) := by
  simp [gt, List.getD_eq_getElem?_getD, List.getElem?_drop]
theorem gt_take (l : List Int) (i j : Nat) (h : j < i) : gt (l.take i) j = gt l j := by
  simp [gt, List.getD_eq_getElem?_getD, h]
theorem gt_rep (n : Nat) (x : Int) (i : Nat) (h : i < n) : gt (List.replicate n x) i = x := by
  simp [gt, h]

/-! ### Bytes -/
def B8 (x : Int) : Prop := 0 ≤ x ∧ x < 256
theorem B8.zero : B8 0 := ⟨by decide, by decide⟩
theorem B8.mod (x : Int) : B8 (x % 256) := ⟨by omega, by omega⟩
theorem B8.bits (op : BinOp) (a b : Int) : B8 (bits op .u8 a b) := by
  have : ∀ z : Int, B8 (IntKind.u8.wrap z) := fun z => by rw [IntKind.wrap_u8]; exact B8.mod z
  exact this _
def Bys (l : List Int) : Prop := ∀ x ∈ l, B8 x
theorem Bys.gt {l : List Int} (h : Bys l) (i : Nat) : B8 (gt l i) := by
  unfold Proofs.YteidkdpfjponfaaDoor.gt
  rcases Nat.lt_or_ge i l.length with hi | hi
  · rw [List.getD_eq_getElem?_getD, List.getElem?_eq_getElem hi]; exact h _ (List.getElem_mem hi)
  · rw [List.getD_eq_getElem?_getD, List.getElem?_eq_none hi]; exact B8.zero
theorem Bys.nil : Bys [] := fun x hx => by simp at hx
theorem Bys.one {x : Int} (h : B8 x) : Bys [x] := fun y hy => by
  rw [List.mem_singleton.1 hy]; exact h
theorem Bys.append {l m : List Int} (h : Bys l) (h' : Bys m) : Bys (l ++ m) := fun x hx => by
  rcases List.mem_append.1 hx with hx | hx
  · exact h x hx
  · exact h' x hx
theorem Bys.take {l : List Int} (h : Bys l) (n : Nat) : Bys (l.take n) := fun x hx => h x (List.mem_of_mem_take hx)
theorem Bys.drop {l : List Int} (h : Bys l) (n : Nat) : Bys (l.drop n) := fun x hx => h x (List.mem_of_mem_drop hx)
theorem Bys.rep (n : Nat) {x : Int} (h : B8 x) : Bys (List.replicate n x) := fun y hy => by rw [List.eq_of_mem_replicate hy]; exact h
theorem Bys.st {l : List Int} (h : Bys l) (i : Nat) {x : Int} (hx : B8 x) : Bys (st l i x) := fun y hy => by
  rcases List.mem_or_eq_of_mem_set hy with hy | hy
  · exact h y hy
  · rw [hy]; exact hx

/-! ### A slice that reads as the numbers l, below block B; nil and empty let in -/
theorem block_plus (a : Addr) (n : Nat) : (a.add n).block = a.block := by unfold Addr.add; split <;> rfl
theorem plus_plus (a : Addr) (i j : Nat) : (a.add i).add j = a.add (i + j) := by
  unfold Addr.add
  by_cases hi : i = 0 <;> by_cases hj : j = 0 <;> simp [hi, hj, Nat.add_assoc]
theorem plus_head (g j : Nat) : (⟨g, 0, none⟩ : Addr).add j = ⟨g, j, none⟩ := by unfold Addr.add; split <;> simp_all

def Rd (w : World) (B : Nat) (k : IntKind) (A : Option Addr) (l : List Int) : Prop :=
  0 < l.length → ∃ ad, A = some ad ∧ ad.block < B ∧ ∀ i, i < l.length → w.cell? (ad.add i) = some (.int k (gt l i))
section
variable {w w' : World} {B B' : Nat} {k : IntKind} {A : Option Addr} {l : List Int} {S : Nat → Prop}
theorem Rd.nil : Rd w B k A [] := fun h => absurd h (by simp)
theorem Rd.at_ (h : Rd w B k A l) {i : Nat} (hi : i < l.length) : ∃ ad, A = some ad ∧ ad.block < B ∧ w.cell? (ad.add i) = some (.int k (gt l i)) := by
  obtain ⟨ad, e, hb, hc⟩ := h (by omega)
  exact ⟨ad, e, hb, hc i hi⟩
theorem Rd.keep (h : Rd w B k A l) (hk : ∀ p : Addr, p.block < B → w'.cell? p = w.cell? p) : Rd w' B k A l := fun hn => by
  obtain ⟨ad, e, hb, hc⟩ := h hn
  exact ⟨ad, e, hb, fun i hi => (hk _ (by rw [block_plus]; exact hb)).trans (hc i hi)⟩
theorem Rd.more (h : Rd w B k A l) (hB : B ≤ B') : Rd w B' k A l := fun hn => by
  obtain ⟨ad, e, hb, hc⟩ := h hn
  exact ⟨ad, e, by omega, hc⟩
theorem Rd.kept (h : Rd w B k A l) (hk : Kept B' S w w') (hB : B ≤ B') (hs : ∀ g, g < B → ¬ S g) : Rd w' B k A l :=
  h.keep fun p hp => World.cell?_of_block (hk.block p.block (by omega) (hs _ hp))
theorem Rd.below (h : Rd w B k A l) (hk : Below B w w') : Rd w' B k A l := h.keep fun p hp => World.cell?_of_block (hk.block p.block hp)
theorem Rd.drew (h : Rd w B k A l) : Rd w.drew B k A l := h
theorem Rd.drewN (h : Rd w B k A l) (n : Nat) : Rd (w.drewN n) B k A l := h
theorem Rd.alloc (h : Rd w B k A l) (hB : B ≤ w.heap.size) (o : Obj) : Rd (w.alloc o) B k A l := h.keep fun p hp => World.cell?_of_block (Below.heap_alloc w o p.block (by omega))
theorem Rd.cut (h : Rd w B k A l) (i j c : Nat) (hj : j ≤ l.length) (hc : j ≤ c) : Rd w B k (if c = i then A else A.map (·.add i)) ((l.take j).drop i) := by
  intro hn
  simp only [List.length_drop, List.length_take] at hn
  obtain ⟨ad, rfl, hb, hcell⟩ := h (by omega)
  rw [if_neg (by omega)]
  refine ⟨ad.add i, rfl, by rw [block_plus]; exact hb, fun m hm => ?_⟩
  simp only [List.length_drop, List.length_take] at hm
  rw [plus_plus, gt_drop, gt_take _ _ _ (by omega)]
  exact hcell _ (by omega)
theorem Rd.take_ (h : Rd w B k A l) (j : Nat) : Rd w B k A (l.take j) := by
  intro hn
  simp only [List.length_take] at hn
  obtain ⟨ad, rfl, hb, hcell⟩ := h (by omega)
  refine ⟨ad, rfl, hb, fun m hm => ?_⟩
  simp only [List.length_take] at hm
  rw [gt_take _ _ _ (by omega)]
  exact hcell _ (by omega)
theorem Rd.of_arr {b T : Nat} (h : Arr w b T k l) (hb : b < B) : Rd w B k (some ⟨b, 0, none⟩) l := fun _ =>
  ⟨_, rfl, hb, fun i hi => by rw [plus_head]; exact h.cell i hi⟩
end

/-! ### A row of the call's own -/
def nums (k : IntKind) (l : List Int) : List Value := l.map (Value.int k)
theorem nums_len (k : IntKind) (l : List Int) : (nums k l).length = l.length := by simp [nums]
theorem nums_get (k : IntKind) (l : List Int) (i : Nat) (h : i < l.length) : (nums k l)[i]? = some (.int k (gt l i)) := by simp [nums, gt, h]
theorem nums_one (k : IntKind) (l : List Int) : ∀ u ∈ nums k l, u.oneCell' = true := ints_oneCell k l
def Own (w : World) (b e : Nat) (k : IntKind) (v : Value) (l : List Int) : Prop := w.ownsRow b e 1 v l.length (nums k l)
section
variable {w w' : World} {b b' B e n : Nat} {k : IntKind} {v : Value} {A : Option Addr} {l : List Int} {S : Nat → Prop}
theorem Own.nil (w : World) (b e : Nat) (k : IntKind) : Own w b e k (.slice none 0 0) [] := World.ownsRow_nil w b e 1
theorem Own.lt (h : Own w b e k v l) : ∀ g, v.ownBlock = some g → b ≤ g ∧ g < w.heap.size := World.ownsRow.lt h
/-- Its form: a slice; where it is not nil, from the head of a block on. -/
theorem Own.form (h : Own w b e k v l) : ∃ A c, v = .slice A l.length c ∧ l.length ≤ c ∧ c ≤ maxLen ∧ Rd w w.heap.size k A l ∧ (A = none ∨ ∃ g, A = some ⟨g, 0, none⟩ ∧ b ≤ g ∧ g < w.heap.size) := by
  rcases h.2 with ⟨rfl, hn⟩ | ⟨g, cap, cur, rfl, hb, hg, hnc, hcm, hcs, htake⟩
  · have : l = [] := List.eq_nil_of_length_eq_zero hn
    subst this
    exact ⟨none, 0, rfl, Nat.le_refl _, Nat.zero_le _, Rd.nil, .inl rfl⟩
  · have hlt := (Array.getElem?_eq_some_iff.1 hg).1
    refine ⟨some ⟨g, 0, none⟩, cap, rfl, hnc, hcm, fun _ => ⟨_, rfl, hlt, fun i hi => ?_⟩, .inr ⟨g, rfl, hb, hlt⟩⟩
    exact World.ownsRow.cells h (g := g) rfl i _ (nums_get k l i hi)
theorem Own.rd {c : Nat} (h : Own w b e k (.slice A n c) l) : Rd w w.heap.size k A l := by
  obtain ⟨A', c', hv, _, _, hr, _⟩ := h.form
  injection hv with h1
  exact h1 ▸ hr
theorem Own.len {c : Nat} (h : Own w b e k (.slice A n c) l) : n = l.length ∧ l.length ≤ c := by
  obtain ⟨A', c', hv, hc, _⟩ := h.form
  injection hv with h1 h2 h3
  exact ⟨h2, h3 ▸ hc⟩
theorem Own.keep (h : Own w b e k v l) (hg : ∀ g, v.ownBlock = some g → w'.heap[g]? = w.heap[g]?) : Own w' b e k v l := by
  refine ⟨h.1, ?_⟩
  rcases h.2 with hn | ⟨g, cap, cur, rfl, hb, hgg, rest⟩
  · exact .inl hn
  · exact .inr ⟨g, cap, cur, rfl, hb, by rw [hg g rfl]; exact hgg, rest⟩
theorem Own.kept (h : Own w b e k v l) (hk : Kept B S w w') (hB : w.heap.size ≤ B) (hs : ∀ g, v.ownBlock = some g → ¬ S g) : Own w' b e k v l :=
  h.keep fun g hg => hk.block g (by have := (h.lt g hg).2; omega) (hs g hg)
theorem Own.below (h : Own w b e k v l) (hk : Below B w w') (hB : w.heap.size ≤ B) : Own w' b e k v l :=
  h.keep fun g hg => hk.block g (by have := (h.lt g hg).2; omega)
theorem Own.grown {row : Option Nat} (h : Own w b e k v l) (hg : w.grownBy w' row) (hne : ∀ g, v.ownBlock = some g → row ≠ some g) : Own w' b e k v l :=
  h.keep fun g hgg => hg.block g (h.lt g hgg).2 (fun e => hne g hgg e.symm)
theorem Own.drew (h : Own w b e k v l) : Own w.drew b e k v l := h
theorem Own.drewN (h : Own w b e k v l) (m : Nat) : Own (w.drewN m) b e k v l := h
theorem Own.alloc (h : Own w b e k v l) (o : Obj) : Own (w.alloc o) b e k v l := World.ownsRow.alloc h o
theorem Own.other (h : Own w b e k v l) (c i : Nat) (u : Value) (hne : ∀ g, v.ownBlock = some g → g ≠ c) : Own (w.setCell ⟨c, i, none⟩ u) b e k v l :=
  h.keep fun g hg => heap_setCell_other w _ g u (hne g hg)
theorem Own.low (h : Own w b e k v l) (hb : b' ≤ b) : Own w b' e k v l := by
  refine ⟨h.1, ?_⟩
  rcases h.2 with hn | ⟨g, cap, cur, rfl, hbg, rest⟩
  · exact .inl hn
  · exact .inr ⟨g, cap, cur, rfl, by omega, rest⟩
theorem Own.cell {g c : Nat} (h : Own w b e k (.slice (some ⟨g, 0, none⟩) n c) l) (i : Nat) (hi : i < l.length) : w.cell? ⟨g, i, none⟩ = some (.int k (gt l i)) := by
  have := World.ownsRow.cells h (g := g) rfl i _ (nums_get k l i hi)
  rwa [plus_head] at this
theorem Own.free {g c : Nat} (h : Own w b e k (.slice (some ⟨g, 0, none⟩) n c) l) (i : Nat) : w.frozen? ⟨g, i, none⟩ = false := by
  have hn := h.len.1
  subst hn
  exact World.ownsRow.frozenAt h i
theorem Own.stored {g c : Nat} (h : Own w b e k (.slice (some ⟨g, 0, none⟩) n c) l) (i : Nat) (x : Int) : Own (w.setCell ⟨g, i, none⟩ (.int k x)) b e k (.slice (some ⟨g, 0, none⟩) n c) (st l i x) := by
  have hn := h.len.1
  subst hn
  have := (World.ownsRow.stored h i (.int k x)).1
  unfold Own
  rw [st_len]
  have e : nums k (st l i x) = (nums k l).set i (.int k x) := by simp [nums, st, List.map_set]
  rw [e]
  exact this
/-- What came out of 'make', all of it zeros. -/
theorem Own.made (w : World) (n : Nat) (hb : b ≤ w.heap.size) (hm : n ≤ maxLen) : Own (w.alloc (.cells (U k (List.replicate n 0)) e)) b e k (.slice (some ⟨w.heap.size, 0, none⟩) n n) (List.replicate n 0) := by
  have h := World.ownsRow_lit (e := e) (size := 1) w (U k (List.replicate n 0)) n hb hm (by simp [U_size])
  unfold Own
  simpa [U, nums] using h
theorem Own.lit (w : World) (l : List Int) (hb : b ≤ w.heap.size) (hm : l.length ≤ maxLen) : Own (w.alloc (.cells (U k l) e)) b e k (.slice (some ⟨w.heap.size, 0, none⟩) l.length l.length) l := by
  have h := World.ownsRow_lit (e := e) (size := 1) w (U k l) l.length hb hm (by simp [U_size])
  unfold Own
  simpa [U, nums] using h
theorem Own.of_arr {w : World} {g b e : Nat} {k : IntKind} {l : List Int} (h : Arr w g e k l) (hb : b ≤ g) (hm : l.length ≤ maxLen) : Own w b e k (.slice (some ⟨g, 0, none⟩) l.length l.length) l :=
  ⟨by simp [nums_len], .inr ⟨g, l.length, U k l, rfl, hb, h, Nat.le_refl _, hm, by simp [U_size], by simp only [Nat.mul_one]; exact List.take_of_length_le (by simp [U])⟩⟩
theorem Own.room (w : World) (cur : Array Value) (cap : Nat) (hb : b ≤ w.heap.size) (hm : cap ≤ maxLen) (hs : cur.size = cap) :
    Own (w.alloc (.cells cur e)) b e k (.slice (some ⟨w.heap.size, 0, none⟩) 0 cap) [] := World.ownsRow_made w cur cap hb hm (by omega)
end
theorem Kept.grown {B : Nat} {S : Nat → Prop} {w w' w'' : World} {row : Option Nat} (h : Kept B S w w') (hg : w'.grownBy w'' row) (hB : B ≤ w'.heap.size) (hr : ∀ g, row = some g → B ≤ g ∨ S g) : Kept B S w w'' :=
  ⟨hg.os.trans h.os, hg.tape.trans h.tape, hg.output.trans h.output, Nat.le_trans h.size hg.size, fun k hk hs => by
    rw [hg.block k (by omega) (fun e => by rcases hr k e.symm with h | h; exact absurd hk (by omega); exact hs h)]; exact h.block k hk hs⟩


/-! ### Append: onto a row of the call's own, from whatever reads -/
section
variable {P : Program}
theorem run_append_empty (w : World) (t ty e : TypeId) (i : TypeInfo) (ht : P.underlying t = some (.slice e)) (hi : P.info? e = some i)
    {b : Nat} {v : Value} {n : Nat} {xs : List Value} (hown : w.ownsRow b e i.size v n xs) (A : Option Addr) (c : Nat) :
    (Builtin.append_ #[t, t] ty #[v, .slice A 0 c]).run P w = .ok v w := by
  cases A with
  | none =>
    rcases hown.2 with ⟨rfl, rfl⟩ | ⟨g, cap, cur, rfl, _, _, hnc, _⟩
    · simp [Builtin.append_, run_underlying ht, sizeOf, typeInfo, hi, Builtin.lenOf, Builtin.firstCells]
    · simp [Builtin.append_, run_underlying ht, sizeOf, typeInfo, hi, Builtin.lenOf, Builtin.firstCells, hnc, storeCells]
  | some ad =>
    rcases hown.2 with ⟨rfl, rfl⟩ | ⟨g, cap, cur, rfl, _, hg, hnc, _, hcs, _⟩
    · simp [Builtin.append_, run_underlying ht, sizeOf, typeInfo, hi, Builtin.lenOf, Builtin.firstCells, loadCells, loadCellsFrom]
    · simp [Builtin.append_, run_underlying ht, sizeOf, typeInfo, hi, Builtin.lenOf, Builtin.firstCells, loadCells, loadCellsFrom, hnc, storeCells]

theorem run_append_nums (w : World) (t ty e : TypeId) (k : IntKind) (bytes : Nat) (ht : P.underlying t = some (.slice e)) (hinfo : (P.info? e).map (fun i => (i.zero, i.size, i.bytes)) = some (some (.int k 0), 1, bytes))
    {b B : Nat} {v : Value} {l m : List Int} {A : Option Addr} {n c : Nat} (hown : Own w b e k v l) (hr : Rd w B k A m) (hn : m.length = n) (hlim : (l.length + m.length) * bytes ≤ 140737488355328) (hmax : l.length + m.length ≤ maxLen) (hb : b ≤ w.heap.size) :
    ∃ A' c' w', (Builtin.append_ #[t, t] ty #[v, .slice A n c]).run P w = .ok (.slice A' (l.length + m.length) c') w' ∧ Own w' b e k (.slice A' (l.length + m.length) c') (l ++ m) ∧ w.grownBy w' v.ownBlock ∧
      ((Value.slice A' (l.length + m.length) c').ownBlock = v.ownBlock ∨ (Value.slice A' (l.length + m.length) c').ownBlock = some w.heap.size) := by
  obtain ⟨i, hi, hz0, hz1, hz2⟩ := info_parts hinfo
  subst hn
  rcases Nat.eq_zero_or_pos m.length with h0 | h0
  · have hm0 : m = [] := List.eq_nil_of_length_eq_zero h0
    subst hm0
    obtain ⟨A', c', rfl, _⟩ := hown.form
    refine ⟨A', c', w, ?_, by simpa using hown, World.grownBy.refl w _, .inl rfl⟩
    exact run_append_empty w t ty e i ht hi (b := b) (xs := nums k l) (by rw [hz1]; exact hown) A c
  · obtain ⟨ad, rfl, _, hc⟩ := hr h0
    obtain ⟨v', w', hrun, h2, h3, _, h5⟩ := run_append_own_at (P := P) w b t ty e i (.int k 0) 1 bytes ht hi hz0 hz1 hz2 rfl (by decide) v l.length (nums k l) hown ad m.length c (nums k m) (by simp [nums_len])
      (fun j u hu => by
        have hj : j < m.length := by have := (List.getElem?_eq_some_iff.1 hu).1; rwa [nums_len] at this
        rw [nums_get k m j hj] at hu
        injection hu with hu
        rw [hc j hj, hu]) (nums_one k m) hmax hlim hb
    have h2' : Own w' b e k v' (l ++ m) := by
      unfold Own
      simpa [nums] using h2
    obtain ⟨A', c', rfl, _⟩ := h2'.form
    rw [List.length_append] at hrun h2' h5
    exact ⟨A', c', w', hrun, h2', h3, h5⟩

theorem wpList_append_nums {w : World} {ops : Array Oper} {rest : List Oper} {o : Oper} {a : Act} {Q : Exit → Act → World → Prop} (hgd : o.guard = none) (s x : Operand) (t e : TypeId) (k : IntKind) (bytes : Nat)
    (ho : o.op = .call { callee := .builtin .append, args := #[s, x], argTypes := #[t, t] })
    (ht : P.underlying t = some (.slice e)) (hinfo : (P.info? e).map (fun i => (i.zero, i.size, i.bytes)) = some (some (.int k 0), 1, bytes))
    {b B : Nat} {v : Value} {l m : List Int} {A : Option Addr} {n c : Nat} (hown : Own w b e k v l) (hr : Rd w B k A m) (hs : a.eval s = v) (hx : a.eval x = .slice A n c) (hn : m.length = n) (hlim : (l.length + m.length) * bytes ≤ 140737488355328) (hmax : l.length + m.length ≤ maxLen) (hb : b ≤ w.heap.size)
    (h : ∀ A' c' w', Own w' b e k (.slice A' (l.length + m.length) c') (l ++ m) → w.grownBy w' v.ownBlock → ((Value.slice A' (l.length + m.length) c').ownBlock = v.ownBlock ∨ (Value.slice A' (l.length + m.length) c').ownBlock = some w.heap.size) →
      wpList P ops Q rest (a.put o.dst (.slice A' (l.length + m.length) c')) w') : wpList P ops Q (o :: rest) a w := by
  refine wpList_plain hgd fun K hK => ?_
  obtain ⟨A', c', w', hrun, h2, h3, h4⟩ := run_append_nums (P := P) w t o.type e k bytes ht hinfo hown hr hn hlim hmax hb (c := c)
  unfold Oper.wp execOp
  simp only [ho, resolve, invoke, builtin, Sem.run_bind, Sem.run_pure, Result.andThen_ok, List.map_toArray, List.map_cons, List.map_nil, hs, hx, hrun]
  exact hK _ _ (h A' c' w' h2 h3 h4)
theorem made_nums (k : IntKind) (n : Nat) : madeCells (Value.cells (.int k 0)) n = U k (List.replicate n 0) := by
  have h := toList_madeCells_one (.int k 0) n
  apply Array.toList_inj.1
  rw [show Value.cells (.int k 0) = #[Value.int k 0] from rfl, h]
  simp [U]
theorem run_make_nums (w : World) (t e : TypeId) (k : IntKind) (bytes : Nat) (ht : P.underlying t = some (.slice e)) (hinfo : (P.info? e).map (fun i => (i.zero, i.size, i.bytes)) = some (some (.int k 0), 1, bytes))
    (kl kc : IntKind) (n m : Nat) (hnm : n ≤ m) (hbytes : bytes * m ≤ 281474976710656) (h63 : m ≤ 9223372036854775807) :
    (Instr.makeSlice t (.int kl n) (.int kc m)).run P w = .ok (.slice (some ⟨w.heap.size, 0, none⟩) n m) (w.alloc (.cells (U k (List.replicate m 0)) e)) := by
  obtain ⟨i, hi, hz0, hz1, hz2⟩ := info_parts hinfo
  have hb : (i.bytes : Int) * (m : Int) ≤ 281474976710656 := by
    have h : ((i.bytes * m : Nat) : Int) ≤ 281474976710656 := by rw [hz2]; omega
    rwa [Int.natCast_mul] at h
  have hr := run_make (P := P) w t e i (.int k 0) ht hi hz0 kl kc n m (by omega) (by omega) hb (by omega)
  rw [hr, hz1]
  simp only [Int.toNat_natCast, Nat.mul_one, made_nums]
theorem wpList_make_nums {w : World} {ops : Array Oper} {rest : List Oper} {o : Oper} {a : Act} {Q : Exit → Act → World → Prop} (hgd : o.guard = none) (l c : Operand) (t : TypeId) (ho : o.op = Op.makeSlice t l c)
    (e : TypeId) (k : IntKind) (bytes : Nat) (ht : P.underlying t = some (.slice e)) (hinfo : (P.info? e).map (fun i => (i.zero, i.size, i.bytes)) = some (some (.int k 0), 1, bytes))
    (kl kc : IntKind) (L C : Int) (n m : Nat) (hl : a.eval l = .int kl L) (hc : a.eval c = .int kc C) (hL : L = n) (hC : C = m) (hnm : n ≤ m) (hbytes : bytes * m ≤ 281474976710656) (h63 : m ≤ 9223372036854775807)
    (h : ∀ w', RowKit.Hid (w' = w.alloc (.cells (U k (List.replicate m 0)) e)) → wpList P ops Q rest (a.put o.dst (.slice (some ⟨w.heap.size, 0, none⟩) n m)) w') : wpList P ops Q (o :: rest) a w := by
  refine wpList_plain hgd fun K hK => ?_
  have hrun := run_make_nums (P := P) w t e k bytes ht hinfo kl kc n m hnm hbytes h63
  subst hL
  subst hC
  unfold Oper.wp
  simp [execOp, ho, hl, hc, hrun, Result.andThen]
  exact hK _ _ (h _ (Lib.hid rfl))
end

theorem Kept.grew {B : Nat} {S : Nat → Prop} {w w' w'' : World} {b e : Nat} {k : IntKind} {v : Value} {l : List Int} (h : Kept B S w w') (hO : Own w' b e k v l) (hg : w'.grownBy w'' v.ownBlock) (hb : B ≤ b) (hB : B ≤ w'.heap.size) : Kept B S w w'' :=
  h.grown hg hB fun g hgg => .inl (by have := (hO.lt g hgg).1; omega)

end Go.Proofs.YteidkdpfjponfaaDoor
