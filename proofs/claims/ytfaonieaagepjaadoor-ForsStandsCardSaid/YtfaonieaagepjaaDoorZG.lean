/- Texts joined into one: Lx2, Wk, Ls, Lp, Yes. -/
import Derived.Test.YtfaonieaagepjaaDoorZA

/- More of XLx: a choice among two or three operations. -/
namespace Go.Proofs.YtfaonieaagepjaaDoor
open Go.RowKit
set_option linter.unusedVariables false
set_option linter.unusedSimpArgs false
section
variable {P : Program} {ops : Array Oper} {md : Region.Mode} {Q : Exit → Act → World → Prop} {S : World → Prop}
/-- One operation of those that may come up. -/
structure LxOp (P : Program) (md : Region.Mode) (ops : Array Oper) (S : World → Prop) (Q : Exit → Act → World → Prop) (fuel : Nat) (listed : Array Bool) (i : Nat) (a : Act) (w : World) : Prop where
  out : S w → wpOp P ops Q i (fun a' w' => S w' ∧ wpAnyS P md ops S Q fuel (listed.setIfInBounds i true) a' w') a w
theorem LxOp.mk' {fuel : Nat} {listed : Array Bool} {a : Act} {w : World} (i : Nat) {oi : Oper} (hi : ops[i]? = some oi) (hg : Region.wanted oi (yielded ops a.tmps) = true)
    (h : S w → ∀ K : Act → World → Prop, (∀ a w, S w → Lx P md ops S Q fuel (listed.setIfInBounds i true) a w → K a w) → Oper.wp P oi a w K Q) : LxOp P md ops S Q fuel listed i a w := by
  refine ⟨fun hS => ?_⟩
  unfold Go.wpOp
  simp only [hi, hg, if_true]
  exact .inl (h hS _ fun a w hs hl => ⟨hs, hl.out hs⟩)
theorem Lx.two {fuel : Nat} {listed : Array Bool} {a : Act} {w : World} (i j : Nat) (hr : Region.ready md ops listed = [i, j])
    (h1 : LxOp P md ops S Q fuel listed i a w) (h2 : LxOp P md ops S Q fuel listed j a w) : Lx P md ops S Q (fuel + 1) listed a w := by
  refine ⟨fun hS => ⟨fun h0 => (by rw [hr] at h0; cases h0), fun k hk => ?_⟩⟩
  rw [hr] at hk
  rcases List.mem_cons.1 hk with rfl | hk
  · exact h1.out hS
  · rcases List.mem_cons.1 hk with rfl | hk
    · exact h2.out hS
    · cases hk
theorem Lx.three {fuel : Nat} {listed : Array Bool} {a : Act} {w : World} (i j k : Nat) (hr : Region.ready md ops listed = [i, j, k])
    (h1 : LxOp P md ops S Q fuel listed i a w) (h2 : LxOp P md ops S Q fuel listed j a w) (h3 : LxOp P md ops S Q fuel listed k a w) : Lx P md ops S Q (fuel + 1) listed a w := by
  refine ⟨fun hS => ⟨fun h0 => (by rw [hr] at h0; cases h0), fun m hk => ?_⟩⟩
  rw [hr] at hk
  rcases List.mem_cons.1 hk with rfl | hk
  · exact h1.out hS
  · rcases List.mem_cons.1 hk with rfl | hk
    · exact h2.out hS
    · rcases List.mem_cons.1 hk with rfl | hk
      · exact h3.out hS
      · cases hk
theorem LxOp.call {fuel : Nat} {listed : Array Bool} {a : Act} {w : World} (i : Nat) {oi : Oper} {f : FuncId} {args : Array Value} (hi : ops[i]? = some oi)
    (hg : Region.wanted oi (yielded ops a.tmps) = true) (hop : (execOp a.eval oi).run P w = .ok (.enter f args) w)
    (hc : S w → Calls P f args w fun e w' => ∃ v, e = .returned v ∧ S w' ∧ Lx P md ops S Q fuel (listed.setIfInBounds i true) (a.put oi.dst v) w') : LxOp P md ops S Q fuel listed i a w := by
  refine LxOp.mk' i hi hg fun hS K hK => ?_
  unfold Oper.wp
  rw [hop, Oper.upon_enter]
  refine (hc hS).mono ?_
  rintro e w' ⟨v, rfl, hs, hl⟩
  exact hK _ _ hs hl
theorem LxOp.made {fuel : Nat} {listed : Array Bool} {a : Act} {w w' : World} (i : Nat) {oi : Oper} (v : Value) (hi : ops[i]? = some oi)
    (hg : Region.wanted oi (yielded ops a.tmps) = true) (hop : (execOp a.eval oi).run P w = .ok (.value v) w') (hS' : S w → S w')
    (h : Lx P md ops S Q fuel (listed.setIfInBounds i true) (a.put oi.dst v) w') : LxOp P md ops S Q fuel listed i a w := by
  refine LxOp.mk' i hi hg fun hS K hK => ?_
  unfold Oper.wp
  rw [hop, Oper.upon_value]
  exact hK _ _ (hS' hS) h
end
end Go.Proofs.YtfaonieaagepjaaDoor

/- Words for walks that are chains of calls which make memory. Conditions: none. -/
namespace Go.Proofs.YtfaonieaagepjaaDoor
open Go.RowKit
set_option linter.unusedVariables false
set_option linter.unusedSimpArgs false
def OutP (w : World) (L : List Int) (n : Nat) (e : Ending) (w' : World) : Prop :=
  ∃ A c, e = .returned (.slice A n c) ∧ Frs w' w.heap.size A c L ∧ Below w.heap.size w w'
def NilP (w : World) (e : Ending) (w' : World) : Prop := e = .returned (.slice none 0 0) ∧ Below w.heap.size w w'
theorem Rd.bel {w w' : World} {k : IntKind} {A : Option Addr} {l : List Int} (h : Rd w w.heap.size k A l) (hb : Below w.heap.size w w') : Rd w' w'.heap.size k A l := (h.below hb).more hb.size
theorem Rd.al {w : World} {k : IntKind} {A : Option Addr} {l : List Int} (h : Rd w w.heap.size k A l) (x : Obj) : Rd (w.alloc x) (w.alloc x).heap.size k A l := (h.alloc (Nat.le_refl _) x).more (by simp)
theorem bnx {B : Nat} {w w1 w2 : World} (h : Below B w w1) (hb : Below w1.heap.size w1 w2) (hB : B ≤ w1.heap.size) : Below B w w2 := h.trans (hb.mono hB)
theorem bal {B : Nat} {w w1 : World} (h : Below B w w1) (hB : B ≤ w1.heap.size) (x : Obj) : Below B w (w1.alloc x) := h.alloc hB x
theorem bdr {B : Nat} {w w' : World} (h : Below B w w') (n : Nat) : Below B w (w'.drewN n) := ⟨h.os, h.tape, h.output, h.size, h.block⟩
theorem bdw {B : Nat} {w w' : World} (h : Below B w w') : Below B w w'.drew := ⟨h.os, h.tape, h.output, h.size, h.block⟩
theorem cell_bel {w w' : World} {b i : Nat} {v : Option Value} (h : w.cell? ⟨b, i, none⟩ = v) (hb : Below w.heap.size w w') (hlt : b < w.heap.size) : w'.cell? ⟨b, i, none⟩ = v := (World.cell?_of_block (hb.block b hlt)).trans h
theorem cell_al {w : World} {b i : Nat} {v : Option Value} (h : w.cell? ⟨b, i, none⟩ = v) (hlt : b < w.heap.size) (x : Obj) : (w.alloc x).cell? ⟨b, i, none⟩ = v := (World.cell?_of_block (Below.heap_alloc w x b hlt)).trans h
theorem cdr {w : World} {a : Addr} {v : Option Value} (h : w.cell? a = v) (n : Nat) : (w.drewN n).cell? a = v := h
theorem cdw {w : World} {a : Addr} {v : Option Value} (h : w.cell? a = v) : w.drew.cell? a = v := h
theorem al_le (w : World) (x : Obj) : w.heap.size ≤ (w.alloc x).heap.size := by simp
theorem ldr {w : World} {b : Nat} (h : b < w.heap.size) (n : Nat) : b < (w.drewN n).heap.size := h
theorem kbl {w w' w2 : World} {B : Nat} (h : Kept B (fun _ => False) w w') (hB : B ≤ w'.heap.size) (h2 : Below w'.heap.size w' w2) : Kept B (fun _ => False) w w2 := h.trans (S' := fun _ => False) (Kept.of_below h2) hB (fun _ _ h => h)
theorem Rd.marked6 (w : World) (T : Nat) (k : IntKind) (l : List Int) (fr : Nat × Nat) : Rd (w.alloc (.cells (U k l) T fr)) (w.heap.size + 1) k (some ⟨w.heap.size, 0, none⟩) l := fun hn =>
  ⟨_, rfl, Nat.lt_succ_self _, fun i hi => by rw [plus_head, World.cell?_alloc_mark w (U k l) T fr i, U_get k l i hi]⟩
theorem same_is (w : World) (A A' : Option Addr) (l : List Int) (n c c' B B' : Nat) (hA : Rd w B .u8 A l) (hB : Rd w B' .u8 A' l) (hn : l.length = n) (hm : n ≤ 9223372036854775807) :
    Calls Tryd.prog 13 #[.slice A n c, .slice A' n c'] w fun e w' => e = .returned (.bool true) ∧ ∃ q, w' = w.drewN q := by
  subst hn
  have h := same_any w A A' l l c c' B B' hA hB hm
  rwa [decide_eq_true rfl] at h
theorem Frs.take {w : World} {b c : Nat} {A : Option Addr} {l : List Int} (h : Frs w b A c l) (m : Nat) : Frs w b A c (l.take m) := by
  refine ⟨Nat.le_trans (by simp; omega) h.cap, h.max, h.nil, fun hn => ?_⟩
  obtain ⟨g, e, h1, h2, h3⟩ := h.at_ (by simp at hn; omega)
  refine ⟨g, e, h1, h2, fun i hi => ?_⟩
  rw [List.length_take] at hi
  rw [gt_take _ _ _ (by omega)]
  exact h3 i (by omega)
theorem b6 (l : List Int) (h : (l.all fun x => decide (0 ≤ x ∧ x < 256)) = true) : Bys l := fun x hx => by
  have := List.all_eq_true.1 h x hx
  simpa [B8] using this
/-- Rows in a row of rows that is made at once. -/
theorem Rd.pt {w : World} {B c n : Nat} {A : Option Addr} {l : List Int} (h : Rd w B .u8 A l) (hn : l.length = n) (hc : n ≤ c) : IsPart w B (.slice A n c) l := ⟨A, c, by rw [hn], h, by rw [hn]; exact hc⟩
theorem parts_of {w : World} {T : Nat} (vs : List Value) (ls : List (List Int)) (hl : vs.length = ls.length) (h : ∀ i, i < ls.length → IsPart w w.heap.size (vs.getD i undef) (gl ls i)) :
    Parts (w.alloc (.cells vs.toArray T)) (w.heap.size + 1) (some ⟨w.heap.size, 0, none⟩) ls := Parts.lit vs ls (Nat.le_refl _) hl h
end Go.Proofs.YtfaonieaagepjaaDoor

/- A region whose order is open, gone through by a plan that is checked once: what yields the same in every world that meets S is taken at once, the rest stands alone when its turn comes. -/
namespace Go.Proofs.YtfaonieaagepjaaDoor
open Go.RowKit
set_option linter.unusedVariables false
set_option linter.unusedSimpArgs false
section
variable {P : Program} {ops : Array Oper} {md : Region.Mode} {Q : Exit → Act → World → Prop} {S : World → Prop}
/-- The i-th of a list, as the unifier reads it at once. -/
def nth {α : Type} : List α → Nat → Option α
  | [], _ => none
  | x :: _, 0 => some x
  | _ :: l, n + 1 => nth l n
theorem nth_eq {α : Type} : ∀ (l : List α) (i : Nat), nth l i = l[i]?
  | [], i => by simp [nth]
  | x :: l, 0 => rfl
  | x :: l, n + 1 => by simp only [nth, nth_eq l n, List.getElem?_cons_succ]
theorem nth_ops {ops : Array Oper} {i : Nat} {oi : Oper} (h : nth ops.toList i = some oi) : ops[i]? = some oi := by rw [nth_eq, Array.getElem?_toList] at h; exact h
def Region.plan (md : Region.Mode) (ops : Array Oper) : Array Bool → List (Nat × Bool) → Bool
  | listed, [] => (Region.ready md ops listed).isEmpty
  | listed, (i, fl) :: rest => (if fl then Region.free md ops listed i && (Region.ready md ops listed).contains i else Region.ready md ops listed == [i]) && Region.plan md ops (listed.setIfInBounds i true) rest
/-- The rest of the region, by the rest of the plan, from a world that meets S. -/
structure Ls (P : Program) (md : Region.Mode) (ops : Array Oper) (S : World → Prop) (Q : Exit → Act → World → Prop) (sch : List (Nat × Bool)) (a : Act) (w : World) : Prop where
  out : ∀ listed, Region.plan md ops listed sch = true → Region.noSelect ops = true → S w → wpAnyS P md ops S Q sch.length listed a w
theorem Ls.enter {id : Nat} {a : Act} {w : World} (S : World → Prop) (sch : List (Nat × Bool)) (hn : ops.size = sch.length) (hp : Region.plan .any ops (Array.replicate sch.length false) sch = true) (hs : Region.noSelect ops = true)
    (hm : P.follows .mixedOrders = true) (hS : S w.drew) (h : Ls P .any ops S Q sch a w.drew) : (Code.region id ops true).wp P Q a w := by
  refine wp_region_any hm (wpAny_of_S (S := S) _ _ _ _ ?_)
  rw [hn]
  exact h.out _ hp hs hS
theorem Ls.val {sch : List (Nat × Bool)} {a : Act} {w : World} {i : Nat} {oi : Oper} (v : Value) (hi : nth ops.toList i = some oi)
    (hQ : ∀ c a w, Q (.panic c) (a.put oi.dst v) w → Q (.panic c) a w) (hg : Region.wanted oi (yielded ops a.tmps) = true) (hv : ∀ w, S w → (execOp a.eval oi).run P w = .ok (.value v) w)
    (h : Ls P md ops S Q sch (a.put oi.dst v) w) : Ls P md ops S Q ((i, true) :: sch) a w := by
  refine ⟨fun listed hp hs hS => ?_⟩
  simp only [Region.plan, if_true, Bool.and_eq_true] at hp
  exact (Lx.val (md := md) i v (nth_ops hi) hs hp.1.1 hp.1.2 hQ hg hv ⟨fun hS' => h.out _ hp.2 hs hS'⟩).out hS
theorem Ls.no {sch : List (Nat × Bool)} {a : Act} {w : World} {i : Nat} {oi : Oper} (hi : nth ops.toList i = some oi)
    (hQ : ∀ c a w, Q (.panic c) (a.put oi.dst undef) w → Q (.panic c) a w) (hg : Region.wanted oi (yielded ops a.tmps) = false)
    (h : Ls P md ops S Q sch (a.put oi.dst undef) w) : Ls P md ops S Q ((i, true) :: sch) a w := by
  refine ⟨fun listed hp hs hS => ?_⟩
  simp only [Region.plan, if_true, Bool.and_eq_true] at hp
  exact (Lx.no (md := md) i (nth_ops hi) hs hp.1.1 hp.1.2 hQ hg ⟨fun hS' => h.out _ hp.2 hs hS'⟩).out hS
theorem Ls.one {sch : List (Nat × Bool)} {a : Act} {w : World} {i : Nat} {oi : Oper} (hi : nth ops.toList i = some oi) (hg : Region.wanted oi (yielded ops a.tmps) = true)
    (h : S w → ∀ K : Act → World → Prop, (∀ a w, S w → Ls P md ops S Q sch a w → K a w) → Oper.wp P oi a w K Q) : Ls P md ops S Q ((i, false) :: sch) a w := by
  refine ⟨fun listed hp hs hS => ?_⟩
  simp only [Region.plan, Bool.false_eq_true, if_false, Bool.and_eq_true, beq_iff_eq] at hp
  exact (Lx.one (md := md) (Q := Q) i (nth_ops hi) hp.1 hg fun hS K hK => h hS K fun a w hs' hl => hK a w hs' ⟨fun hS' => hl.out _ hp.2 hs hS'⟩).out hS
theorem Ls.call {sch : List (Nat × Bool)} {a : Act} {w : World} {i : Nat} {oi : Oper} {f : FuncId} {args : Array Value} (hi : nth ops.toList i = some oi)
    (hg : Region.wanted oi (yielded ops a.tmps) = true) (hop : (execOp a.eval oi).run P w = .ok (.enter f args) w)
    (hc : S w → Calls P f args w fun e w' => ∃ v, e = .returned v ∧ S w' ∧ Ls P md ops S Q sch (a.put oi.dst v) w') : Ls P md ops S Q ((i, false) :: sch) a w := by
  refine Ls.one hi hg fun hS K hK => ?_
  unfold Oper.wp
  rw [hop, Oper.upon_enter]
  refine (hc hS).mono ?_
  rintro e w' ⟨v, rfl, hs, hl⟩
  exact hK _ _ hs hl
theorem Ls.made {sch : List (Nat × Bool)} {a : Act} {w w' : World} {i : Nat} {oi : Oper} (v : Value) (hi : nth ops.toList i = some oi)
    (hg : Region.wanted oi (yielded ops a.tmps) = true) (hop : (execOp a.eval oi).run P w = .ok (.value v) w') (hS' : S w → S w')
    (h : Ls P md ops S Q sch (a.put oi.dst v) w') : Ls P md ops S Q ((i, false) :: sch) a w := by
  refine Ls.one hi hg fun hS K hK => ?_
  unfold Oper.wp
  rw [hop, Oper.upon_value]
  exact hK _ _ (hS' hS) h
theorem Ls.app {sch : List (Nat × Bool)} {a : Act} {w : World} {i : Nat} {oi : Oper} (hi : nth ops.toList i = some oi)
    (hgd : oi.guard = none) (s x : Operand) (t e : TypeId) (k : IntKind) (bytes : Nat)
    (ho : oi.op = .call { callee := .builtin .append, args := #[s, x], argTypes := #[t, t] })
    (ht : P.underlying t = some (.slice e)) (hinfo : (P.info? e).map (fun i => (i.zero, i.size, i.bytes)) = some (some (.int k 0), 1, bytes))
    {b B : Nat} {v : Value} {l m : List Int} {A : Option Addr} {n c : Nat} (hown : Own w b e k v l) (hrd : Rd w B k A m) (hs : a.eval s = v) (hx : a.eval x = .slice A n c) (hn : m.length = n) (lm : List Int) (hlm : l ++ m = lm) (N : Nat) (hN : lm.length = N)
    (hlim : N * bytes ≤ 140737488355328) (hmax : N ≤ maxLen) (hb : b ≤ w.heap.size)
    (h : S w → ∀ A' c' w', Own w' b e k (.slice A' N c') lm → w.grownBy w' v.ownBlock → ((Value.slice A' N c').ownBlock = v.ownBlock ∨ (Value.slice A' N c').ownBlock = some w.heap.size) →
      S w' ∧ Ls P md ops S Q sch (a.put oi.dst (.slice A' N c')) w') : Ls P md ops S Q ((i, false) :: sch) a w := by
  refine Ls.one hi (by simp [Region.wanted, hgd]) fun hS K hK => ?_
  subst hN hlm
  have e1 : (l ++ m).length = l.length + m.length := List.length_append
  rw [e1] at hlim hmax h
  have := step_append_nums (P := P) (ops := ops) (Q := Q) (E := True) (K := K) hgd s x t e k bytes ho ht hinfo hown hrd hs hx hn hlim hmax hb (fun A' c' w' h1 h2 h3 => (h hS A' c' w' h1 h2 h3).elim fun hs hl => hK _ _ hs hl)
  rwa [if_pos (by simp [Region.wanted, hgd])] at this
theorem Ls.done {a : Act} {w : World} (h : S w → Q .normal a w) : Ls P md ops S Q [] a w :=
  ⟨fun listed hp _ hS => by
    simp only [Region.plan, List.isEmpty_iff] at hp
    exact ⟨hp, h hS⟩⟩
end
end Go.Proofs.YtfaonieaagepjaaDoor

/- A plan for a region whose order is open, checked by masks: quick for great regions. -/
namespace Go.Proofs.YtfaonieaagepjaaDoor
open Go.RowKit
set_option linter.unusedVariables false
set_option linter.unusedSimpArgs false
def mask (l : List Nat) : Nat := l.foldr (fun d m => m ||| 2 ^ d) 0
theorem mask_bit (l : List Nat) (d : Nat) : (mask l).testBit d = l.contains d := by
  induction l with
  | nil => simp [mask]
  | cons x l ih =>
    have : mask (x :: l) = mask l ||| 2 ^ x := rfl
    rw [this, Nat.testBit_or, ih, Nat.testBit_two_pow, List.contains_cons]
    by_cases h : x = d
    · simp [h]
    · simp [h, Ne.symm h]
theorem mask_apart {a b : List Nat} (h : mask a &&& mask b = 0) {d : Nat} (ha : d ∈ a) : d ∉ b := fun hb => by
  have h1 : (mask a &&& mask b).testBit d = true := by
    rw [Nat.testBit_and, mask_bit, mask_bit]; simp [ha, hb]
  rw [h] at h1; simp at h1
def opRow (md : Region.Mode) (ops : Array Oper) (o : Oper) : Nat × Nat × Nat :=
  (mask ((o.after.toList.filter (Region.binds md)).map (·.on)), mask (o.looksAt ops), mask o.dst.toList)
def opRows (md : Region.Mode) (ops : Array Oper) : List (Nat × Nat × Nat) := ops.toList.map (opRow md ops)
def freeM (i li di L : Nat) : Nat → List (Nat × Nat × Nat) → Bool
  | _, [] => true
  | j, (aj, lj, dj) :: rest => (j == i || L.testBit j || aj.testBit i || (di &&& lj == 0 && (di &&& dj == 0 && dj &&& li == 0))) && freeM i li di L (j + 1) rest
def aloneM (i L : Nat) : Nat → List (Nat × Nat × Nat) → Bool
  | _, [] => true
  | j, (aj, _, _) :: rest => (j == i || L.testBit j || aj &&& L != aj) && aloneM i L (j + 1) rest
def planM (rows : List (Nat × Nat × Nat)) (n : Nat) : Nat → List (Nat × Bool) → Bool
  | L, [] => L == 2 ^ n - 1
  | L, (i, fl) :: rest =>
    (match rows[i]? with
     | none => false
     | some (ai, li, di) => (!L.testBit i && ai &&& L == ai && (if fl then freeM i li di L 0 rows else aloneM i L 0 rows))) && planM rows n (L ||| 2 ^ i) rest
section
variable {md : Region.Mode} {ops : Array Oper}
/-- How a mask stands for what is listed. -/
structure Lm (n : Nat) (listed : Array Bool) (L : Nat) : Prop where
  size : listed.size = n
  bit : ∀ k, k < n → listed[k]? = some (L.testBit k)
  out : ∀ k, n ≤ k → L.testBit k = false
theorem Lm.getF {n : Nat} {listed : Array Bool} {L : Nat} (h : Lm n listed L) (k : Nat) : listed.getD k false = L.testBit k := by
  rcases Nat.lt_or_ge k n with hk | hk
  · have := h.bit k hk; simp [Array.getD_eq_getD_getElem?, this]
  · rw [h.out k hk]; simp [Array.getD_eq_getD_getElem?, Array.getElem?_eq_none (by rw [h.size]; exact hk)]
theorem Lm.getT {n : Nat} {listed : Array Bool} {L : Nat} (h : Lm n listed L) (k : Nat) (hk : k < n) : listed.getD k true = L.testBit k := by
  have := h.bit k hk; simp [Array.getD_eq_getD_getElem?, this]
theorem Lm.set {n : Nat} {listed : Array Bool} {L : Nat} (h : Lm n listed L) (i : Nat) (hi : i < n) : Lm n (listed.setIfInBounds i true) (L ||| 2 ^ i) := by
  refine ⟨by simp [h.size], fun k hk => ?_, fun k hk => ?_⟩
  · rw [Nat.testBit_or, Nat.testBit_two_pow]
    by_cases e : i = k
    · subst e; simp [h.size, hi]
    · rw [Array.getElem?_setIfInBounds_ne e, h.bit k hk]; simp [e]
  · rw [Nat.testBit_or, Nat.testBit_two_pow, h.out k hk]; simp; omega
theorem Lm.start (n : Nat) : Lm n (Array.replicate n false) 0 := ⟨by simp, fun k hk => by simp [hk], fun k _ => by simp⟩
theorem after_mask {o : Oper} {n : Nat} {listed : Array Bool} {L : Nat} (h : Lm n listed L) (he : (opRow md ops o).1 &&& L = (opRow md ops o).1) : (o.after.all fun e => !Region.binds md e || listed.getD e.on false) = true := by
  rw [Array.all_eq_true_iff_forall_mem]
  intro e hm
  by_cases hb : Region.binds md e = true
  · have hin : ((o.after.toList.filter (Region.binds md)).map (·.on)).contains e.on = true := by
      simp only [List.contains_iff_mem, List.mem_map, List.mem_filter]
      exact ⟨e, ⟨by simpa using hm, hb⟩, rfl⟩
    have hbit : (opRow md ops o).1.testBit e.on = true := by unfold opRow; rw [mask_bit]; exact hin
    rw [← he, Nat.testBit_and, Bool.and_eq_true] at hbit
    rw [h.getF, hbit.2]; simp
  · simp [hb]
theorem after_mask_no {o : Oper} {n : Nat} {listed : Array Bool} {L : Nat} (h : Lm n listed L) (he : (o.after.all fun e => !Region.binds md e || listed.getD e.on false) = true) : (opRow md ops o).1 &&& L = (opRow md ops o).1 := by
  refine Nat.eq_of_testBit_eq fun k => ?_
  rw [Nat.testBit_and]
  by_cases hk : (opRow md ops o).1.testBit k = true
  · have hk2 := hk
    unfold opRow at hk2
    rw [mask_bit] at hk2
    simp only [List.contains_iff_mem, List.mem_map, List.mem_filter] at hk2
    obtain ⟨e, ⟨hm, hb⟩, rfl⟩ := hk2
    have := Array.all_eq_true_iff_forall_mem.1 he e (by simpa using hm)
    rw [h.getF, hb] at this
    simp at this
    rw [hk, this]; rfl
  · simp at hk; rw [hk]; rfl
theorem rows_get {j : Nat} {o : Oper} (h : ops[j]? = some o) : (opRows md ops)[j]? = some (opRow md ops o) := by
  unfold opRows
  rw [List.getElem?_map, Array.getElem?_toList, h]; rfl
theorem rows_len : (opRows md ops).length = ops.size := by simp [opRows]
theorem freeM_spec {i li di L : Nat} : ∀ (rows : List (Nat × Nat × Nat)) (s : Nat), freeM i li di L s rows = true → ∀ j aj lj dj, rows[j]? = some (aj, lj, dj) → (s + j = i ∨ L.testBit (s + j) = true ∨ aj.testBit i = true ∨ (di &&& lj = 0 ∧ di &&& dj = 0 ∧ dj &&& li = 0))
  | [], _, _, j, _, _, _, h => by simp at h
  | (a, l, d) :: rows, s, hf, j, aj, lj, dj, h => by
    simp only [freeM, Bool.and_eq_true, Bool.or_eq_true, beq_iff_eq] at hf
    match j with
    | 0 =>
      simp at h
      obtain ⟨rfl, rfl, rfl⟩ := h
      rcases hf.1 with ((h1 | h1) | h1) | h1
      · exact .inl h1
      · exact .inr (.inl h1)
      · exact .inr (.inr (.inl h1))
      · exact .inr (.inr (.inr h1))
    | j + 1 =>
      have := freeM_spec rows (s + 1) hf.2 j aj lj dj (by simpa using h)
      rwa [show s + (j + 1) = s + 1 + j by omega]
theorem aloneM_spec {i L : Nat} : ∀ (rows : List (Nat × Nat × Nat)) (s : Nat), aloneM i L s rows = true → ∀ j aj lj dj, rows[j]? = some (aj, lj, dj) → (s + j = i ∨ L.testBit (s + j) = true ∨ aj &&& L ≠ aj)
  | [], _, _, j, _, _, _, h => by simp at h
  | (a, l, d) :: rows, s, hf, j, aj, lj, dj, h => by
    simp only [aloneM, Bool.and_eq_true, Bool.or_eq_true, beq_iff_eq, bne_iff_ne] at hf
    match j with
    | 0 =>
      simp at h
      obtain ⟨rfl, rfl, rfl⟩ := h
      rcases hf.1 with (h1 | h1) | h1
      · exact .inl h1
      · exact .inr (.inl h1)
      · exact .inr (.inr h1)
    | j + 1 =>
      have := aloneM_spec rows (s + 1) hf.2 j aj lj dj (by simpa using h)
      rwa [show s + (j + 1) = s + 1 + j by omega]
theorem apart_mask {x y : Oper} (h1 : mask x.dst.toList &&& mask (y.looksAt ops) = 0) (h2 : mask x.dst.toList &&& mask y.dst.toList = 0) (h3 : mask y.dst.toList &&& mask (x.looksAt ops) = 0) : x.apart ops y = true := by
  unfold Oper.apart
  rw [Bool.and_eq_true]
  constructor
  · cases hx : x.dst with
    | none => rfl
    | some d =>
      have e1 := mask_apart h1 (d := d) (by simp [hx])
      have e2 := mask_apart h2 (d := d) (by simp [hx])
      simp only [Bool.and_eq_true, Bool.not_eq_true', bne_iff_ne]
      refine ⟨by simpa using e1, fun hy => e2 (by simp [hy])⟩
  · cases hy : y.dst with
    | none => rfl
    | some d =>
      have e1 := mask_apart h3 (d := d) (by simp [hy])
      simpa using e1
theorem ready_mem {listed : Array Bool} {L n : Nat} (hL : Lm n listed L) (hn : ops.size = n) {i : Nat} {o : Oper} (hi : ops[i]? = some o) (hb : L.testBit i = false) (ha : (opRow md ops o).1 &&& L = (opRow md ops o).1) : i ∈ Region.ready md ops listed := by
  have hlt : i < ops.size := (Array.getElem?_eq_some_iff.1 hi).1
  unfold Region.ready
  rw [List.mem_filter, List.mem_range]
  refine ⟨hlt, ?_⟩
  rw [hL.getT i (by omega), hb, hi]
  simp only [Option.map_some, Option.getD_some, Bool.not_false, Bool.true_and]
  exact after_mask hL ha
theorem filter_one {p : Nat → Bool} {i : Nat} : ∀ (n : Nat), i < n → p i = true → (∀ j, j < n → p j = true → j = i) → (List.range n).filter p = [i]
  | 0, h, _, _ => absurd h (by omega)
  | n + 1, h, hp, hu => by
    rw [List.range_succ, List.filter_append]
    rcases Nat.lt_or_ge i n with hin | hin
    · rw [filter_one n hin hp fun j hj hpj => hu j (by omega) hpj]
      have : p n = false := by
        cases hpn : p n with
        | false => rfl
        | true => have := hu n (by omega) hpn; omega
      simp [this]
    · obtain rfl : i = n := by omega
      have : (List.range i).filter p = [] := by
        rw [List.filter_eq_nil_iff]
        intro j hj hpj
        rw [List.mem_range] at hj
        have := hu j (by omega) hpj; omega
      simp [this, hp]
theorem plan_of_mask {n : Nat} (hn : ops.size = n) : ∀ (sch : List (Nat × Bool)) (listed : Array Bool) (L : Nat), Lm n listed L → planM (opRows md ops) n L sch = true → Region.plan md ops listed sch = true
  | [], listed, L, hL, hp => by
    simp only [planM, beq_iff_eq] at hp
    subst hp
    simp only [Region.plan, List.isEmpty_iff]
    unfold Region.ready
    rw [List.filter_eq_nil_iff]
    intro j hj
    rw [List.mem_range] at hj
    rw [hL.getT j (by omega), Nat.testBit_two_pow_sub_one]
    simp; omega
  | (i, fl) :: rest, listed, L, hL, hp => by
    simp only [planM, Bool.and_eq_true] at hp
    obtain ⟨h1, h2⟩ := hp
    cases ho : ops[i]? with
    | none =>
      have : (opRows md ops)[i]? = none := by
        rw [List.getElem?_eq_none_iff, rows_len]
        exact Array.getElem?_eq_none_iff.1 ho
      rw [this] at h1; cases h1
    | some oi =>
      have hlt : i < n := by have := (Array.getElem?_eq_some_iff.1 ho).1; omega
      rw [rows_get ho] at h1
      simp only [opRow, Bool.and_eq_true, Bool.not_eq_true', beq_iff_eq] at h1
      obtain ⟨⟨hb, ha⟩, h3⟩ := h1
      have hr := ready_mem (md := md) hL hn ho hb ha
      simp only [Region.plan, Bool.and_eq_true]
      refine ⟨?_, plan_of_mask hn rest _ _ (hL.set i hlt) h2⟩
      cases fl with
      | true =>
        simp only [if_true, Bool.and_eq_true] at h3 ⊢
        refine ⟨?_, by simpa using hr⟩
        unfold Region.free
        rw [ho]
        simp only [List.all_eq_true, List.mem_range, Bool.or_eq_true, beq_iff_eq]
        intro j hj
        cases hoj : ops[j]? with
        | none => exact .inr rfl
        | some oj =>
          have := freeM_spec _ 0 h3 j _ _ _ (rows_get hoj)
          rw [Nat.zero_add] at this
          rcases this with e | e | e | ⟨e1, e2, e3⟩
          · exact .inl (.inl e)
          · exact .inl (.inr (by rw [hL.getT j (by omega)]; exact e))
          · refine .inr ?_
            simp only [Bool.or_eq_true]
            refine .inl ?_
            rw [mask_bit] at e
            simp only [List.contains_iff_mem, List.mem_map, List.mem_filter] at e
            obtain ⟨x, ⟨hm, hbx⟩, hx⟩ := e
            rw [Array.any_eq_true']
            exact ⟨x, by simpa using hm, by simp [hbx, hx]⟩
          · refine .inr ?_
            simp only [Bool.or_eq_true]
            exact .inr (apart_mask e1 e2 e3)
      | false =>
        simp only [Bool.false_eq_true, if_false, beq_iff_eq] at h3 ⊢
        unfold Region.ready
        have hri := hr
        unfold Region.ready at hri
        rw [List.mem_filter] at hri
        refine filter_one _ (by omega) hri.2 fun j hj hpj => ?_
        cases hoj : ops[j]? with
        | none => rw [hoj] at hpj; simp at hpj
        | some oj =>
          rw [hoj, hL.getT j (by omega)] at hpj
          simp only [Option.map_some, Option.getD_some, Bool.and_eq_true, Bool.not_eq_true'] at hpj
          have := aloneM_spec _ 0 h3 j _ _ _ (rows_get hoj)
          rw [Nat.zero_add] at this
          rcases this with e | e | e
          · exact e
          · rw [hpj.1] at e; cases e
          · exact absurd (after_mask_no (md := md) (ops := ops) hL hpj.2) e
variable {P : Program} {Q : Exit → Act → World → Prop} {S : World → Prop}
theorem Ls.start {id : Nat} {a : Act} {w : World} (S : World → Prop) (sch : List (Nat × Bool)) (hn : ops.size = sch.length) (hp : planM (opRows .any ops) sch.length 0 sch = true) (hs : Region.noSelect ops = true)
    (hm : P.follows .mixedOrders = true) (hS : S w.drew) (h : Ls P .any ops S Q sch a w.drew) : (Code.region id ops true).wp P Q a w :=
  Ls.enter S sch hn (plan_of_mask hn sch _ 0 (Lm.start _) hp) hs hm hS h
end
end Go.Proofs.YtfaonieaagepjaaDoor

/- Operations of a region in the order given, with a guard that is met: what they yield is put. Conditions: none. -/
namespace Go.Proofs.YtfaonieaagepjaaDoor
open Go.RowKit
set_option linter.unusedVariables false
set_option linter.unusedSimpArgs false
section
variable {P : Program} {w : World} {ops : Array Oper} {rest : List Oper} {o : Oper} {a : Act} {Q : Exit → Act → World → Prop}
theorem wpList_val_yes (v : Value) (hgd : Region.wanted o (yielded ops a.tmps) = true) (hrun : (execOp a.eval o).run P w = .ok (.value v) w)
    (h : wpList P ops Q rest (a.put o.dst v) w) : wpList P ops Q (o :: rest) a w := by
  refine wpList_step fun K hK => ?_
  rw [if_pos hgd]
  unfold Oper.wp
  rw [hrun, Oper.upon_value]
  exact hK _ _ h
theorem wpList_cell_yes {t : TypeId} {x : Operand} {p : Addr} {v : Value} {d : TypeDesc} (hgd : Region.wanted o (yielded ops a.tmps) = true) (ho : o.op = .load t x) (hx : a.eval x = .pointer (some p))
    (hu : P.underlying t = some d) (hd : (match d with | .struct _ | .array _ _ => true | _ => false) = false) (hc : w.cell? p = some v)
    (h : wpList P ops Q rest (a.put o.dst v) w) : wpList P ops Q (o :: rest) a w := wpList_val_yes v hgd (exec_load_cell w ho hx hu hd hc) h
theorem wpList_blk_yes {t T : TypeId} {x : Operand} {g : Nat} {cs : Array Value} {d : TypeDesc} (hgd : Region.wanted o (yielded ops a.tmps) = true) (ho : o.op = .load t x) (hx : a.eval x = .pointer (some ⟨g, 0, none⟩))
    (hu : P.underlying t = some d) (hd : (match d with | .struct _ | .array _ _ => true | _ => false) = true) (hi : (P.info? t).map (·.size) = some cs.size) (hc : Blk w g T cs)
    (h : wpList P ops Q rest (a.put o.dst (.agg cs)) w) : wpList P ops Q (o :: rest) a w := wpList_val_yes (.agg cs) hgd (exec_load_row w ho hx hu hd hi hc) h
end
end Go.Proofs.YtfaonieaagepjaaDoor
