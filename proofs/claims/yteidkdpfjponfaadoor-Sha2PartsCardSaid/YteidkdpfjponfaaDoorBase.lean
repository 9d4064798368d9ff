import Derived.WalkKit
import Derived.WalkLawsBesides
import Derived.WalkSpells
import Derived.Deep.QuietTactic
import Derived.BigQuiet
import Derived.StillTailTactics
import Derived.Lib.Hide
namespace Go.Proofs.YteidkdpfjponfaaDoor
open Go.RowKit

/-! ### Lists of numbers -/
def gt (l : List Int) (i : Nat) : Int := l.getD i 0
def st (l : List Int) (i : Nat) (x : Int) : List Int := l.set i x
theorem st_len (l : List Int) (i : Nat) (x : Int) : (st l i x).length = l.length := by simp [st]
theorem gt_st (l : List Int) (i j : Nat) (x : Int) (h : i < l.length) : gt (st l i x) j = if j = i then x else gt l j := by
  simp only [gt, st, List.getD_eq_getElem?_getD, List.getElem?_set]
  by_cases e : i = j
  · subst e; simp [h]
  · rw [if_neg e, if_neg (fun h => e h.symm)]
theorem gt_mem (l : List Int) (i : Nat) (h : i < l.length) : gt l i ∈ l := by
  simp [gt, h]
theorem gt_append_left (l m : List Int) (i : Nat) (h : i < l.length) : gt (l ++ m) i = gt l i := by
  simp only [gt, List.getD_eq_getElem?_getD, List.getElem?_append_left h]
theorem gt_append_right (l m : List Int) (i : Nat) (h : l.length ≤ i) : gt (l ++ m) i = gt m (i - l.length) := by
  simp only [gt, List.getD_eq_getElem?_getD, List.getElem?_append_right h]
theorem ext_gt (l m : List Int) (hl : l.length = m.length) (h : ∀ i, i < l.length → gt l i = gt m i) : l = m := by
  apply List.ext_getElem hl
  intro i h1 h2
  have := h i h1
  simpa [gt, h1, h2] using this

/-! ### A block that holds a row of numbers -/
def U (k : IntKind) (l : List Int) : Array Value := (l.map (Value.int k)).toArray
theorem U_size (k : IntKind) (l : List Int) : (U k l).size = l.length := by simp [U]
theorem U_get (k : IntKind) (l : List Int) (i : Nat) (h : i < l.length) : (U k l)[i]? = some (.int k (gt l i)) := by
  simp [U, gt, h]
theorem U_set (k : IntKind) (l : List Int) (i : Nat) (x : Int) : (U k l).setIfInBounds i (.int k x) = U k (st l i x) := by
  simp [U, st]
def Arr (w : World) (b T : Nat) (k : IntKind) (l : List Int) : Prop := w.heap[b]? = some (.cells (U k l) T (0, 0))
section
variable {w : World} {b T : Nat} {k : IntKind} {l : List Int}
theorem Arr.cell (h : Arr w b T k l) (i : Nat) (hi : i < l.length) : w.cell? ⟨b, i, none⟩ = some (.int k (gt l i)) := by
  rw [cell_of_row w b i _ _ _ h, U_get k l i hi]
theorem Arr.free (h : Arr w b T k l) (i : Nat) : w.frozen? ⟨b, i, none⟩ = false := frozen_of_row w b i _ _ h
theorem Arr.drewN (h : Arr w b T k l) (n : Nat) : Arr (w.drewN n) b T k l := h
theorem Arr.drew (h : Arr w b T k l) : Arr w.drew b T k l := h
theorem Arr.set (h : Arr w b T k l) (i : Nat) (x : Int) : Arr (w.setCell ⟨b, i, none⟩ (.int k x)) b T k (st l i x) := by
  unfold Arr at *
  rw [heap_setCell_same w b i _ _ _ h, U_set]
theorem Arr.other (h : Arr w b T k l) (c i : Nat) (v : Value) (hne : b ≠ c) : Arr (w.setCell ⟨c, i, none⟩ v) b T k l := by
  unfold Arr at *
  rw [heap_setCell_other w _ b v hne]; exact h
theorem Arr.lt (h : Arr w b T k l) : b < w.heap.size := (Array.getElem?_eq_some_iff.1 h).1
theorem Arr.alloc (h : Arr w b T k l) (o : Obj) : Arr (w.alloc o) b T k l := by
  have := h.lt
  unfold Arr at *
  rw [Below.heap_alloc w o b this]; exact h
theorem Arr.new (w : World) (T : Nat) (k : IntKind) (l : List Int) : Arr (w.alloc (.cells (U k l) T)) w.heap.size T k l := heap_alloc_new w _
end

/-! ### What may have turned: rows of S, and nothing else below B -/
structure Kept (B : Nat) (S : Nat → Prop) (w w' : World) : Prop where
  os : w'.os = w.os
  tape : w'.tape = w.tape
  output : w'.output = w.output
  size : w.heap.size ≤ w'.heap.size
  block : ∀ k, k < B → ¬ S k → w'.heap[k]? = w.heap[k]?
section
variable {B B' : Nat} {S S' : Nat → Prop} {w w' w'' : World}
theorem Kept.refl (B : Nat) (S : Nat → Prop) (w : World) : Kept B S w w := ⟨rfl, rfl, rfl, Nat.le_refl _, fun _ _ _ => rfl⟩
theorem Kept.drewN (h : Kept B S w w') (n : Nat) : Kept B S w (w'.drewN n) := ⟨h.os, h.tape, h.output, h.size, h.block⟩
theorem Kept.drew (h : Kept B S w w') : Kept B S w w'.drew := ⟨h.os, h.tape, h.output, h.size, h.block⟩
theorem Kept.alloc (h : Kept B S w w') (o : Obj) (hB : B ≤ w'.heap.size) : Kept B S w (w'.alloc o) :=
  ⟨h.os, h.tape, h.output, by have := h.size; simp; omega, fun k hk hs => by rw [Below.heap_alloc w' o k (by omega)]; exact h.block k hk hs⟩
theorem Kept.set (h : Kept B S w w') (c i : Nat) (v : Value) (hc : B ≤ c ∨ S c) : Kept B S w (w'.setCell ⟨c, i, none⟩ v) :=
  ⟨h.os, h.tape, h.output, by have := h.size; simpa [World.setCell] using this, fun k hk hs => by
    rw [heap_setCell_other w' _ k v (by rintro rfl; rcases hc with h | h; exact absurd hk (by simpa using h); exact hs h)]; exact h.block k hk hs⟩
theorem Kept.trans (h : Kept B S w w') (h' : Kept B' S' w' w'') (hB : B ≤ B') (hS : ∀ k, k < B → S' k → S k) : Kept B S w w'' :=
  ⟨h'.os.trans h.os, h'.tape.trans h.tape, h'.output.trans h.output, Nat.le_trans h.size h'.size, fun k hk hs => by
    rw [h'.block k (by omega) (fun hh => hs (hS k hk hh))]; exact h.block k hk hs⟩
theorem Kept.below (h : Kept B (fun _ => False) w w') : Below B w w' := ⟨h.os, h.tape, h.output, h.size, fun k hk => h.block k hk (fun x => x)⟩
theorem Kept.of_below (h : Below B w w') : Kept B S w w' := ⟨h.os, h.tape, h.output, h.size, fun k hk _ => h.block k hk⟩
theorem Kept.mono (h : Kept B S w w') (hB : B' ≤ B) (hS : ∀ k, k < B' → S k → S' k) : Kept B' S' w w' :=
  ⟨h.os, h.tape, h.output, h.size, fun k hk hs => h.block k (by omega) (fun x => hs (hS k hk x))⟩
theorem Kept.cell (h : Kept B S w w') {a : Addr} {v : Value} (hc : w.cell? a = some v) (hb : a.block < B) (hs : ¬ S a.block) : w'.cell? a = some v := by
  rw [World.cell?_of_block (h.block a.block hb hs)]; exact hc
theorem Arr.kept {b T : Nat} {k : IntKind} {l : List Int} (h : Arr w b T k l) (hk : Kept B S w w') (hb : b < B) (hs : ¬ S b) : Arr w' b T k l := by
  unfold Arr at *; rw [hk.block b hb hs]; exact h
theorem Arr.below {b T : Nat} {k : IntKind} {l : List Int} (h : Arr w b T k l) (hk : Below B w w') (hb : b < B) : Arr w' b T k l := by
  unfold Arr at *; rw [hk.block b hb]; exact h
end

/-! ### A table: a package-level variable -/
def Tab (w : World) (g : Nat) (k : IntKind) (zs : List Int) : Prop := ∀ i, i < zs.length → w.cell? ⟨g, i, none⟩ = some (.int k (gt zs i))
theorem Tab.kept {w w' : World} {g : Nat} {k : IntKind} {zs : List Int} {B : Nat} {S : Nat → Prop} (h : Tab w g k zs) (hk : Kept B S w w') (hb : g < B) (hs : ¬ S g) : Tab w' g k zs :=
  fun i hi => hk.cell (h i hi) hb hs

/-! ### Whole rows read, and indexed -/
theorem wpList_load_arr {P : Program} {ops : Array Oper} {rest : List Oper} {o : Oper} {a : Act} {w : World} {Q : Exit → Act → World → Prop} {b T : Nat} {k : IntKind} {l : List Int} {d : TypeDesc}
    (hgd : o.guard = none) (ty : TypeId) (x : Operand) (ho : o.op = .load ty x) (hx : a.eval x = .pointer (some ⟨b, 0, none⟩)) (h : Arr w b T k l)
    (hu : P.underlying ty = some d) (hd : (match d with | .struct _ | .array _ _ => true | _ => false) = true) (n : Nat) (hi : (P.info? ty).map (·.size) = some n) (hn : l.length = n)
    (hk : wpList P ops Q rest (a.put o.dst (.agg (U k l))) w) : wpList P ops Q (o :: rest) a w :=
  wpList_load_row hgd ty x ho b hx T (U k l) (0, 0) d h hu hd (by rw [U_size, hn]; exact hi) hk
theorem wpStill_load_arr {P : Program} {ops : Array Oper} {rest : List Oper} {o : Oper} {a : Act} {w : World} {Q : Act → Prop} {b T : Nat} {k : IntKind} {l : List Int} {d : TypeDesc}
    (hgd : o.guard = none) (ty : TypeId) (x : Operand) (ho : o.op = .load ty x) (hx : a.eval x = .pointer (some ⟨b, 0, none⟩)) (h : Arr w b T k l)
    (hu : P.underlying ty = some d) (hd : (match d with | .struct _ | .array _ _ => true | _ => false) = true) (n : Nat) (hi : (P.info? ty).map (·.size) = some n) (hn : l.length = n)
    (hk : wpStill P ops w Q rest (a.put o.dst (.agg (U k l)))) : wpStill P ops w Q (o :: rest) a := by
  refine wpStill_step (fun K hK => ?_)
  rw [if_pos (by simp [Region.wanted, hgd])]
  unfold Oper.still execOp
  simp only [ho, hx, Instr.loadAt, Instr.sureAddr, Sem.run_bind, Sem.run_pure, Result.andThen_ok, run_loadVar_row w b T ty (U k l) (0, 0) d h hu hd (by rw [U_size, hn]; exact hi)]
  exact ⟨rfl, hK _ hk⟩
theorem results_arr {P : Program} {fn : Func} {p : Tmp} {ty : TypeId} (hr : fn.results = #[.cell p ty]) (tmps : Array Value) {w : World} {b T : Nat} {k : IntKind} {l : List Int} {d : TypeDesc}
    (hp : tmps.getD p undef = .pointer (some ⟨b, 0, none⟩)) (h : Arr w b T k l)
    (hu : P.underlying ty = some d) (hd : (match d with | .struct _ | .array _ _ => true | _ => false) = true) (n : Nat) (hi : (P.info? ty).map (·.size) = some n) (hn : l.length = n) :
    (results fn tmps).run P w = .ok (.agg (U k l)) w :=
  results_cell_row hr tmps w b T (U k l) (0, 0) d hp h hu hd (by rw [U_size, hn]; exact hi)
theorem bodyPost_arr {P : Program} {fn : Func} {R : Ending → World → Prop} {a : Act} {w : World} {b T : Nat} {k : IntKind} {l : List Int} {d : TypeDesc} (p : Tmp) (ty : TypeId) (n : Nat)
    (hu : P.underlying ty = some d) (hd : (match d with | .struct _ | .array _ _ => true | _ => false) = true) (hi : (P.info? ty).map (·.size) = some n)
    (hr : fn.results = #[.cell p ty]) (hp : a.tmps.getD p undef = .pointer (some ⟨b, 0, none⟩)) (hdf : a.defers = [])
    (h : Arr w b T k l) (hn : l.length = n) (hR : R (.returned (.agg (U k l))) w) : bodyPost P fn R .ret a w :=
  bodyPost_ret (results_arr hr _ hp h hu hd n hi hn) hdf hR
theorem run_index_arr {P : Program} {ty e : TypeId} {n : Nat} {k : IntKind} {l : List Int} (hu : P.underlying ty = some (.array n e)) (he : P.underlying e = some (.int k)) (hs : (P.info? e).map (·.size) = some 1) (hn : l.length = n) (i : Nat) (hi : i < n) (w : World) :
    (Instr.index ty (.agg (U k l)) (.int .i64 (i : Int))).run P w = .ok (.int k (gt l i)) w := by
  cases hq : P.info? e with
  | none => simp [hq] at hs
  | some f =>
    have hs : f.size = 1 := by simpa [hq] using hs
    have hc : (0 : Int) ≤ (i : Int) ∧ (i : Int) < (n : Int) := by omega
    have hg := U_get k l i (by omega)
    simp [Instr.index, run_underlying hu, asIntOf, hc, go_sem, sizeOf, typeInfo, hq, hs, part, run_underlying he, isAgg, hg]
    intro h; omega

/-! ### Two rows compared -/
theorem run_part_U {P : Program} {e : TypeId} {k : IntKind} {l : List Int} (he : P.underlying e = some (.int k)) (i : Nat) (hi : i < l.length) (w : World) :
    (part e (U k l) i).run P w = .ok (.int k (gt l i)) w := by
  have hg := U_get k l i hi
  simp [part, isAgg, run_underlying he, hg]
theorem drop_eq_iff (l m : List Int) (i : Nat) (hl : i < l.length) (hm : i < m.length) : l.drop i = m.drop i ↔ gt l i = gt m i ∧ l.drop (i + 1) = m.drop (i + 1) := by
  rw [List.drop_eq_getElem_cons hl, List.drop_eq_getElem_cons hm, List.cons.injEq]
  simp only [gt, List.getD_eq_getElem?_getD, List.getElem?_eq_getElem hl, List.getElem?_eq_getElem hm, Option.getD_some]
theorem run_eq_loop {P : Program} {e : TypeId} {k : IntKind} {l m : List Int} (he : P.underlying e = some (.int k)) (hlm : l.length = m.length) (d : Nat) :
    ∀ (r i : Nat) (w : World), i + r = l.length →
      (forIn (List.range' i r) ((none, ()) : Option Bool × Unit) fun i (__s : Option Bool × Unit) => do
              let x ← part e (U k l) (i * 1)
              let y ← part e (U k m) (i * 1)
              let b ← Op.equalIn (d + 1) e x y
              if (!b) = true then pure (ForInStep.done (some false, ())) else pure (ForInStep.yield (none, ()))).run P w =
        .ok (if l.drop i = m.drop i then none else some false, ()) w
  | 0, i, w, h => by
    rw [if_pos (by rw [List.drop_of_length_le (by omega), List.drop_of_length_le (by omega)])]
    simp
  | r + 1, i, w, h => by
    have ih := run_eq_loop he hlm d r (i + 1) w (by omega)
    have hd := drop_eq_iff l m i (by omega) (by omega)
    rw [List.range'_succ, List.forIn_cons]
    simp only [Nat.mul_one] at ih
    simp only [Sem.run_bind, Nat.mul_one, run_part_U he i (by omega : i < l.length), run_part_U he i (by omega : i < m.length), Result.andThen_ok, run_equalIn_int w d e k k _ _ he]
    by_cases hq : gt l i = gt m i
    · rw [if_neg (by simp [hq])]
      simp only [Sem.run_pure, Result.andThen_ok]
      rw [ih]
      simp only [hd, hq, true_and]
    · rw [if_pos (by simp [hq])]
      simp only [Sem.run_pure, Result.andThen_ok]
      rw [if_neg (fun h => hq (hd.1 h).1)]
theorem run_equalIn_arr {P : Program} {t e : TypeId} {n : Nat} {k : IntKind} {l m : List Int} (hu : P.underlying t = some (.array n e)) (he : P.underlying e = some (.int k)) (hs : (P.info? e).map (·.size) = some 1) (hl : l.length = n) (hm : m.length = n) (w : World) :
    (Op.equalIn 10000 t (.agg (U k l)) (.agg (U k m))).run P w = .ok (decide (l = m)) w := by
  cases hq : P.info? e with
  | none => simp [hq] at hs
  | some f =>
    have hs : f.size = 1 := by simpa [hq] using hs
    have hz : (sizeOf e).run P w = .ok 1 w := by simp [sizeOf, typeInfo, hq, hs]
    have hlo := run_eq_loop (P := P) (l := l) (m := m) he (by omega) 9998 n 0 w (by omega)
    rw [Op.equalIn]
    simp only [Sem.run_bind, run_underlying hu, Result.andThen_ok, hz]
    have hr : (forIn [:n] ((none, ()) : Option Bool × Unit) fun i (__s : Option Bool × Unit) => do
              let x ← part e (U k l) (i * 1)
              let y ← part e (U k m) (i * 1)
              let b ← Op.equalIn (9998 + 1) e x y
              if (!b) = true then pure (ForInStep.done (some false, ())) else pure (ForInStep.yield (none, ()))) = (forIn (List.range' 0 n) ((none, ()) : Option Bool × Unit) fun i (__s : Option Bool × Unit) => do
              let x ← part e (U k l) (i * 1)
              let y ← part e (U k m) (i * 1)
              let b ← Op.equalIn (9998 + 1) e x y
              if (!b) = true then pure (ForInStep.done (some false, ())) else pure (ForInStep.yield (none, ()))) := by
      simp only [Std.Legacy.Range.forIn_eq_forIn_range']
      simp
    rw [← hr] at hlo
    rw [hlo]
    simp only [Result.andThen_ok, List.drop_zero]
    by_cases h : l = m
    · simp [h]
    · simp [h]

/-! ### A whole row written -/
theorem U_one (k : IntKind) (l : List Int) : (U k l).all (·.oneCell') = true := by
  rw [Array.all_eq_true_iff_forall_mem]
  intro v hv
  simp only [U, List.mem_toArray, List.mem_map] at hv
  obtain ⟨x, _, rfl⟩ := hv
  rfl
theorem Arr.setRow {w : World} {b T : Nat} {k : IntKind} {l : List Int} (h : Arr w b T k l) (m : List Int) : Arr (w.setRow b (U k m)) b T k m := setRow_heap w b _ _ T _ h
theorem Arr.otherRow {w : World} {b T : Nat} {k : IntKind} {l : List Int} (h : Arr w b T k l) (c : Nat) (cs : Array Value) (hne : b ≠ c) : Arr (w.setRow c cs) b T k l := by
  unfold Arr at *; rw [setRow_other w c b cs hne]; exact h
theorem Kept.setRow {B : Nat} {S : Nat → Prop} {w w' : World} (h : Kept B S w w') (c : Nat) (cs : Array Value) (hc : B ≤ c ∨ S c) : Kept B S w (w'.setRow c cs) :=
  ⟨h.os, h.tape, h.output, by have := h.size; simpa using this, fun k hk hs => by
    rw [setRow_other w' c k cs (by rintro rfl; rcases hc with h | h; exact absurd hk (by simpa using h); exact hs h)]; exact h.block k hk hs⟩
theorem wpList_store_arr {P : Program} {ops : Array Oper} {rest : List Oper} {o : Oper} {a : Act} {w : World} {Q : Exit → Act → World → Prop} {b T : Nat} {k : IntKind} {l m : List Int}
    (hgd : o.guard = none) (ty : TypeId) (x y : Operand) (ho : o.op = .store ty x y) (hx : a.eval x = .pointer (some ⟨b, 0, none⟩)) (hy : a.eval y = .agg (U k m)) (h : Arr w b T k l)
    (n : Nat) (hi : (P.info? ty).map (·.size) = some n) (hm : m.length = n) (hl : l.length = n)
    (hk : wpList P ops Q rest (a.put o.dst undef) (w.setRow b (U k m))) : wpList P ops Q (o :: rest) a w :=
  wpList_store_row hgd ty x y ho b (U k m) hx hy T (U k l) h (by rw [U_size, hm]; exact hi) (by rw [U_size, U_size, hl, hm]) (U_one k m) hk

/-! ### An index that is reckoned -/
theorem wtmod (x : Int) (d m : Nat) (h0 : 0 ≤ x) (h1 : x ≤ 1000000000) (hd : x % (d : Int) = m) : (IntKind.i64.wrap x).tmod (d : Int) = (m : Int) := by
  rw [IntWalk.i64_in x (by omega), Int.tmod_eq_emod_of_nonneg h0, hd]

end Go.Proofs.YteidkdpfjponfaaDoor
