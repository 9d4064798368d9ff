/- A plan for a region whose order is open, checked by masks: quick for great regions. -/
import Derived.Test.YtfaonieaagepjaaDoorLs
namespace Go.Proofs.YtfaonieaagepjaaDoor
open Go.RowKit
set_option linter.unusedVariables false
set_option linter.unusedSimpArgs false
def mask (l : List Nat) : Nat := l.foldr (fun d m => m ||| 2 ^ d) 0
theorem mask_bit (l : List Nat) (d : Nat) : (mask l).testBit d = l.contains d := by
  induction l with
  | nil => simp [mask]
  | cons x l ih =>
    have : mask (x :: l) = mask l ||| 2 ^ x := rfl
    rw [this, Nat.testBit_or, ih, Nat.testBit_two_pow, List.contains_cons]
    by_cases h : x = d
    · simp [h]
    · simp [h, Ne.symm h]
theorem mask_apart {a b : List Nat} (h : mask a &&& mask b = 0) {d : Nat} (ha : d ∈ a) : d ∉ b := fun hb => by
  have h1 : (mask a &&& mask b).testBit d = true := by
    rw [Nat.testBit_and, mask_bit, mask_bit]; simp [ha, hb]
  rw [h] at h1; simp at h1
def opRow (md : Region.Mode) (ops : Array Oper) (o : Oper) : Nat × Nat × Nat :=
  (mask ((o.after.toList.filter (Region.binds md)).map (·.on)), mask (o.looksAt ops), mask o.dst.toList)
def opRows (md : Region.Mode) (ops : Array Oper) : List (Nat × Nat × Nat) := ops.toList.map (opRow md ops)
def freeM (i li di L : Nat) : Nat → List (Nat × Nat × Nat) → Bool
  | _, [] => true
  | j, (aj, lj, dj) :: rest => (j == i || L.testBit j || aj.testBit i || (di &&& lj == 0 && (di &&& dj == 0 && dj &&& li == 0))) && freeM i li di L (j + 1) rest
def aloneM (i L : Nat) : Nat → List (Nat × Nat × Nat) → Bool
  | _, [] => true
  | j, (aj, _, _) :: rest => (j == i || L.testBit j || aj &&& L != aj) && aloneM i L (j + 1) rest
def planM (rows : List (Nat × Nat × Nat)) (n : Nat) : Nat → List (Nat × Bool) → Bool
  | L, [] => L == 2 ^ n - 1
  | L, (i, fl) :: rest =>
    (match rows[i]? with
     | none => false
     | some (ai, li, di) => (!L.testBit i && ai &&& L == ai && (if fl then freeM i li di L 0 rows else aloneM i L 0 rows))) && planM rows n (L ||| 2 ^ i) rest
section
variable {md : Region.Mode} {ops : Array Oper}
/-- How a mask stands for what is listed. -/
structure Lm (n : Nat) (listed : Array Bool) (L : Nat) : Prop where
  size : listed.size = n
  bit : ∀ k, k < n → listed[k]? = some (L.testBit k)
  out : ∀ k, n ≤ k → L.testBit k = false
theorem Lm.getF {n : Nat} {listed : Array Bool} {L : Nat} (h : Lm n listed L) (k : Nat) : listed.getD k false = L.testBit k := by
  rcases Nat.lt_or_ge k n with hk | hk
  · have := h.bit k hk; simp [Array.getD_eq_getD_getElem?, this]
  · rw [h.out k hk]; simp [Array.getD_eq_getD_getElem?, Array.getElem?_eq_none (by rw [h.size]; exact hk)]
theorem Lm.getT {n : Nat} {listed : Array Bool} {L : Nat} (h : Lm n listed L) (k : Nat) (hk : k < n) : listed.getD k true = L.testBit k := by
  have := h.bit k hk; simp [Array.getD_eq_getD_getElem?, this]
theorem Lm.set {n : Nat} {listed : Array Bool} {L : Nat} (h : Lm n listed L) (i : Nat) (hi : i < n) : Lm n (listed.setIfInBounds i true) (L ||| 2 ^ i) := by
  refine ⟨by simp [h.size], fun k hk => ?_, fun k hk => ?_⟩
  · rw [Nat.testBit_or, Nat.testBit_two_pow]
    by_cases e : i = k
    · subst e; simp [h.size, hi]
    · rw [Array.getElem?_setIfInBounds_ne e, h.bit k hk]; simp [e]
  · rw [Nat.testBit_or, Nat.testBit_two_pow, h.out k hk]; simp; omega
theorem Lm.start (n : Nat) : Lm n (Array.replicate n false) 0 := ⟨by simp, fun k hk => by simp [hk], fun k _ => by simp⟩
theorem after_mask {o : Oper} {n : Nat} {listed : Array Bool} {L : Nat} (h : Lm n listed L) (he : (opRow md ops o).1 &&& L = (opRow md ops o).1) : (o.after.all fun e => !Region.binds md e || listed.getD e.on false) = true := by
  rw [Array.all_eq_true_iff_forall_mem]
  intro e hm
  by_cases hb : Region.binds md e = true
  · have hin : ((o.after.toList.filter (Region.binds md)).map (·.on)).contains e.on = true := by
      simp only [List.contains_iff_mem, List.mem_map, List.mem_filter]
      exact ⟨e, ⟨by simpa using hm, hb⟩, rfl⟩
    have hbit : (opRow md ops o).1.testBit e.on = true := by unfold opRow; rw [mask_bit]; exact hin
    rw [← he, Nat.testBit_and, Bool.and_eq_true] at hbit
    rw [h.getF, hbit.2]; simp
  · simp [hb]
theorem after_mask_no {o : Oper} {n : Nat} {listed : Array Bool} {L : Nat} (h : Lm n listed L) (he : (o.after.all fun e => !Region.binds md e || listed.getD e.on false) = true) : (opRow md ops o).1 &&& L = (opRow md ops o).1 := by
  refine Nat.eq_of_testBit_eq fun k => ?_
  rw [Nat.testBit_and]
  by_cases hk : (opRow md ops o).1.testBit k = true
  · have hk2 := hk
    unfold opRow at hk2
    rw [mask_bit] at hk2
    simp only [List.contains_iff_mem, List.mem_map, List.mem_filter] at hk2
    obtain ⟨e, ⟨hm, hb⟩, rfl⟩ := hk2
    have := Array.all_eq_true_iff_forall_mem.1 he e (by simpa using hm)
    rw [h.getF, hb] at this
    simp at this
    rw [hk, this]; rfl
  · simp at hk; rw [hk]; rfl
theorem rows_get {j : Nat} {o : Oper} (h : ops[j]? = some o) : (opRows md ops)[j]? = some (opRow md ops o) := by
  unfold opRows
  rw [List.getElem?_map, Array.getElem?_toList, h]; rfl
theorem rows_len : (opRows md ops).length = ops.size := by simp [opRows]
theorem freeM_spec {i li di L : Nat} : ∀ (rows : List (Nat × Nat × Nat)) (s : Nat), freeM i li di L s rows = true → ∀ j aj lj dj, rows[j]? = some (aj, lj, dj) → (s + j = i ∨ L.testBit (s + j) = true ∨ aj.testBit i = true ∨ (di &&& lj = 0 ∧ di &&& dj = 0 ∧ dj &&& li = 0))
  | [], _, _, j, _, _, _, h => by simp at h
  | (a, l, d) :: rows, s, hf, j, aj, lj, dj, h => by
    simp only [freeM, Bool.and_eq_true, Bool.or_eq_true, beq_iff_eq] at hf
    match j with
    | 0 =>
      simp at h
      obtain ⟨rfl, rfl, rfl⟩ := h
      rcases hf.1 with ((h1 | h1) | h1) | h1
      · exact .inl h1
      · exact .inr (.inl h1)
      · exact .inr (.inr (.inl h1))
      · exact .inr (.inr (.inr h1))
    | j + 1 =>
      have := freeM_spec rows (s + 1) hf.2 j aj lj dj (by simpa using h)
      rwa [show s + (j + 1) = s + 1 + j by omega]
theorem aloneM_spec {i L : Nat} : ∀ (rows : List (Nat × Nat × Nat)) (s : Nat), aloneM i L s rows = true → ∀ j aj lj dj, rows[j]? = some (aj, lj, dj) → (s + j = i ∨ L.testBit (s + j) = true ∨ aj &&& L ≠ aj)
  | [], _, _, j, _, _, _, h => by simp at h
  | (a, l, d) :: rows, s, hf, j, aj, lj, dj, h => by
    simp only [aloneM, Bool.and_eq_true, Bool.or_eq_true, beq_iff_eq, bne_iff_ne] at hf
    match j with
    | 0 =>
      simp at h
      obtain ⟨rfl, rfl, rfl⟩ := h
      rcases hf.1 with (h1 | h1) | h1
      · exact .inl h1
      · exact .inr (.inl h1)
      · exact .inr (.inr h1)
    | j + 1 =>
      have := aloneM_spec rows (s + 1) hf.2 j aj lj dj (by simpa using h)
      rwa [show s + (j + 1) = s + 1 + j by omega]
theorem apart_mask {x y : Oper} (h1 : mask x.dst.toList &&& mask (y.looksAt ops) = 0) (h2 : mask x.dst.toList &&& mask y.dst.toList = 0) (h3 : mask y.dst.toList &&& mask (x.looksAt ops) = 0) : x.apart ops y = true := by
  unfold Oper.apart
  rw [Bool.and_eq_true]
  constructor
  · cases hx : x.dst with
    | none => rfl
    | some d =>
      have e1 := mask_apart h1 (d := d) (by simp [hx])
      have e2 := mask_apart h2 (d := d) (by simp [hx])
      simp only [Bool.and_eq_true, Bool.not_eq_true', bne_iff_ne]
      refine ⟨by simpa using e1, fun hy => e2 (by simp [hy])⟩
  · cases hy : y.dst with
    | none => rfl
    | some d =>
      have e1 := mask_apart h3 (d := d) (by simp [hy])
      simpa using e1
theorem ready_mem {listed : Array Bool} {L n : Nat} (hL : Lm n listed L) (hn : ops.size = n) {i : Nat} {o : Oper} (hi : ops[i]? = some o) (hb : L.testBit i = false) (ha : (opRow md ops o).1 &&& L = (opRow md ops o).1) : i ∈ Region.ready md ops listed := by
  have hlt : i < ops.size := (Array.getElem?_eq_some_iff.1 hi).1
  unfold Region.ready
  rw [List.mem_filter, List.mem_range]
  refine ⟨hlt, ?_⟩
  rw [hL.getT i (by omega), hb, hi]
  simp only [Option.map_some, Option.getD_some, Bool.not_false, Bool.true_and]
  exact after_mask hL ha
theorem filter_one {p : Nat → Bool} {i : Nat} : ∀ (n : Nat), i < n → p i = true → (∀ j, j < n → p j = true → j = i) → (List.range n).filter p = [i]
  | 0, h, _, _ => absurd h (by omega)
  | n + 1, h, hp, hu => by
    rw [List.range_succ, List.filter_append]
    rcases Nat.lt_or_ge i n with hin | hin
    · rw [filter_one n hin hp fun j hj hpj => hu j (by omega) hpj]
      have : p n = false := by
        cases hpn : p n with
        | false => rfl
        | true => have := hu n (by omega) hpn; omega
      simp [this]
    · obtain rfl : i = n := by omega
      have : (List.range i).filter p = [] := by
        rw [List.filter_eq_nil_iff]
        intro j hj hpj
        rw [List.mem_range] at hj
        have := hu j (by omega) hpj; omega
      simp [this, hp]
theorem plan_of_mask {n : Nat} (hn : ops.size = n) : ∀ (sch : List (Nat × Bool)) (listed : Array Bool) (L : Nat), Lm n listed L → planM (opRows md ops) n L sch = true → Region.plan md ops listed sch = true
  | [], listed, L, hL, hp => by
    simp only [planM, beq_iff_eq] at hp
    subst hp
    simp only [Region.plan, List.isEmpty_iff]
    unfold Region.ready
    rw [List.filter_eq_nil_iff]
    intro j hj
    rw [List.mem_range] at hj
    rw [hL.getT j (by omega), Nat.testBit_two_pow_sub_one]
    simp; omega
  | (i, fl) :: rest, listed, L, hL, hp => by
    simp only [planM, Bool.and_eq_true] at hp
    obtain ⟨h1, h2⟩ := hp
    cases ho : ops[i]? with
    | none =>
      have : (opRows md ops)[i]? = none := by
        rw [List.getElem?_eq_none_iff, rows_len]
        exact Array.getElem?_eq_none_iff.1 ho
      rw [this] at h1; cases h1
    | some oi =>
      have hlt : i < n := by have := (Array.getElem?_eq_some_iff.1 ho).1; omega
      rw [rows_get ho] at h1
      simp only [opRow, Bool.and_eq_true, Bool.not_eq_true', beq_iff_eq] at h1
      obtain ⟨⟨hb, ha⟩, h3⟩ := h1
      have hr := ready_mem (md := md) hL hn ho hb ha
      simp only [Region.plan, Bool.and_eq_true]
      refine ⟨?_, plan_of_mask hn rest _ _ (hL.set i hlt) h2⟩
      cases fl with
      | true =>
        simp only [if_true, Bool.and_eq_true] at h3 ⊢
        refine ⟨?_, by simpa using hr⟩
        unfold Region.free
        rw [ho]
        simp only [List.all_eq_true, List.mem_range, Bool.or_eq_true, beq_iff_eq]
        intro j hj
        cases hoj : ops[j]? with
        | none => exact .inr rfl
        | some oj =>
          have := freeM_spec _ 0 h3 j _ _ _ (rows_get hoj)
          rw [Nat.zero_add] at this
          rcases this with e | e | e | ⟨e1, e2, e3⟩
          · exact .inl (.inl e)
          · exact .inl (.inr (by rw [hL.getT j (by omega)]; exact e))
          · refine .inr ?_
            simp only [Bool.or_eq_true]
            refine .inl ?_
            rw [mask_bit] at e
            simp only [List.contains_iff_mem, List.mem_map, List.mem_filter] at e
            obtain ⟨x, ⟨hm, hbx⟩, hx⟩ := e
            rw [Array.any_eq_true']
            exact ⟨x, by simpa using hm, by simp [hbx, hx]⟩
          · refine .inr ?_
            simp only [Bool.or_eq_true]
            exact .inr (apart_mask e1 e2 e3)
      | false =>
        simp only [Bool.false_eq_true, if_false, beq_iff_eq] at h3 ⊢
        unfold Region.ready
        have hri := hr
        unfold Region.ready at hri
        rw [List.mem_filter] at hri
        refine filter_one _ (by omega) hri.2 fun j hj hpj => ?_
        cases hoj : ops[j]? with
        | none => rw [hoj] at hpj; simp at hpj
        | some oj =>
          rw [hoj, hL.getT j (by omega)] at hpj
          simp only [Option.map_some, Option.getD_some, Bool.and_eq_true, Bool.not_eq_true'] at hpj
          have := aloneM_spec _ 0 h3 j _ _ _ (rows_get hoj)
          rw [Nat.zero_add] at this
          rcases this with e | e | e
          · exact e
          · rw [hpj.1] at e; cases e
          · exact absurd (after_mask_no (md := md) (ops := ops) hL hpj.2) e
variable {P : Program} {Q : Exit → Act → World → Prop} {S : World → Prop}
theorem Ls.start {id : Nat} {a : Act} {w : World} (S : World → Prop) (sch : List (Nat × Bool)) (hn : ops.size = sch.length) (hp : planM (opRows .any ops) sch.length 0 sch = true) (hs : Region.noSelect ops = true)
    (hm : P.follows .mixedOrders = true) (hS : S w.drew) (h : Ls P .any ops S Q sch a w.drew) : (Code.region id ops true).wp P Q a w :=
  Ls.enter S sch hn (plan_of_mask hn sch _ 0 (Lm.start _) hp) hs hm hS h
end
end Go.Proofs.YtfaonieaagepjaaDoor
