/- ShakeBegins, walked. Conditions: the text reads as bytes; the tables. -/
import Derived.Test.YtabpbnkipdjnlaaDoorShJ
namespace Go.Proofs.YtabpbnkipdjnlaaDoor
open Go.RowKit
set_option linter.unusedVariables false
set_option linter.unusedSimpArgs false

section
variable {P : Program}
theorem wpList_max_int {w : World} {ops : Array Oper} {rest : List Oper} {o : Oper} {a : Act} {Q : Exit → Act → World → Prop} (hgd : o.guard = none) (x y : Operand) (ts : Array TypeId)
    (ho : o.op = .call { callee := .builtin .max, args := #[x, y], argTypes := ts }) (p q m : Int) (hx : a.eval x = .int .i64 p) (hy : a.eval y = .int .i64 q) (hm : (if q > p then q else p) = m)
    (h : wpList P ops Q rest (a.put o.dst (.int .i64 m)) w) : wpList P ops Q (o :: rest) a w := by
  refine wpList_plain hgd fun K hK => ?_
  unfold Oper.wp execOp
  simp only [ho, resolve, invoke, builtin, Sem.run_bind, Sem.run_pure, Result.andThen_ok, List.map_toArray, List.map_cons, List.map_nil, hx, hy, run_max_int2, hm]
  exact hK _ _ h
theorem wpList_min_int {w : World} {ops : Array Oper} {rest : List Oper} {o : Oper} {a : Act} {Q : Exit → Act → World → Prop} (hgd : o.guard = none) (x y : Operand) (ts : Array TypeId)
    (ho : o.op = .call { callee := .builtin .min, args := #[x, y], argTypes := ts }) (p q m : Int) (hx : a.eval x = .int .i64 p) (hy : a.eval y = .int .i64 q) (hm : (if q < p then q else p) = m)
    (h : wpList P ops Q rest (a.put o.dst (.int .i64 m)) w) : wpList P ops Q (o :: rest) a w := by
  refine wpList_plain hgd fun K hK => ?_
  unfold Oper.wp execOp
  simp only [ho, resolve, invoke, builtin, Sem.run_bind, Sem.run_pure, Result.andThen_ok, List.map_toArray, List.map_cons, List.map_nil, hx, hy, run_min_int2, hm]
  exact hK _ _ h
theorem wpList_wanted {w : World} {ops : Array Oper} {rest : List Oper} {o : Oper} {a : Act} {Q : Exit → Act → World → Prop} (hg : Region.wanted o (yielded ops a.tmps) = true)
    (h : ∀ K : Act → World → Prop, (∀ a w, wpList P ops Q rest a w → K a w) → o.wp P a w K Q) : wpList P ops Q (o :: rest) a w :=
  wpList_step fun K hK => by simp only [hg, if_true]; exact h K hK
theorem wpList_min_yes {w : World} {ops : Array Oper} {rest : List Oper} {o : Oper} {a : Act} {Q : Exit → Act → World → Prop} (x y : Operand) (ts : Array TypeId)
    (ho : o.op = .call { callee := .builtin .min, args := #[x, y], argTypes := ts }) (hgd : Region.wanted o (yielded ops a.tmps) = true) (p q m : Int) (hx : a.eval x = .int .i64 p) (hy : a.eval y = .int .i64 q) (hm : (if q < p then q else p) = m)
    (h : wpList P ops Q rest (a.put o.dst (.int .i64 m)) w) : wpList P ops Q (o :: rest) a w := by
  refine wpList_wanted hgd fun K hK => ?_
  unfold Oper.wp execOp
  simp only [ho, resolve, invoke, builtin, Sem.run_bind, Sem.run_pure, Result.andThen_ok, List.map_toArray, List.map_cons, List.map_nil, hx, hy, run_min_int2, hm]
  exact hK _ _ h
end

set_option maxRecDepth 100000 in
set_option maxHeartbeats 1000000 in
theorem begins_walk (l : List Int) (A : Option Addr) (c n m : Nat) (w : World) (hr : Rd w w.heap.size .u8 A l) (hlc : l.length ≤ c) (hc : c ≤ 9223372036854775807) (hA : A = none → c = 0) (hby : Bys l) (ht : KTab w) (hn : n < 65536) (hm : m < 65536) :
    Calls Tryd.prog 9 #[.slice A l.length c, .int .u16 n, .int .u16 m] w fun e w' => e = .returned (.bool true) ∧ Below w.heap.size w w' := by
  have hz := World.block_lt_of_cell? w _ (ht.2 0 (by decide))
  have hz0 := World.block_lt_of_cell? w _ (ht.1 0 (by decide))
  have hz2 : 1 < w.heap.size := hz
  have hz3 : 0 < w.heap.size := hz0
  obtain ⟨k, hk⟩ : ∃ k : Nat, (n : Int) % 1000 = (k : Int) := ⟨n % 1000, by omega⟩
  obtain ⟨j, hj⟩ : ∃ j : Nat, (m : Int) % 1000 = (j : Int) := ⟨m % 1000, by omega⟩
  have hk1 : k < 1000 := by omega
  have hj1 : j < 1000 := by omega
  obtain ⟨M, hM⟩ : ∃ M, max k j = M := ⟨_, rfl⟩
  obtain ⟨Mi, hMi⟩ : ∃ M, min k j = M := ⟨_, rfl⟩
  have hM1 : M < 1000 := by omega
  have hMi1 : Mi ≤ M := by omega
  have hkM : k ≤ M := by omega
  have hjM : j ≤ M := by omega
  have HMx : ∀ x y : Int, x = (k : Int) → y = (j : Int) → (if y > x then y else x) = (M : Int) := fun x y hx hy => by split <;> omega
  have HMn : ∀ x y : Int, x = (k : Int) → y = (j : Int) → (if y < x then y else x) = (Mi : Int) := fun x y hx hy => by split <;> omega
  clear hM hMi
  go_enter Tryd.func9, Tryd.ntmps9
  go_wp2_with fail
  (with_reducible refine (awake5_any w ht).mono ?_)
  rintro e w1 ⟨rfl, hb1⟩
  have hr1 := hr.below hb1
  have ht1 := ht.below hb1 hz3 hz2
  have hs1 := hb1.size
  by_cases h3 : 1000 < l.length
  · have h3I : (1000 : Int) < l.length := by omega
    go_wp2_with fail
    go_ret
    exact ⟨rfl, hb1⟩
  · have h3I : ¬ (1000 : Int) < l.length := by omega
    go_wp2_with (refine wpList_max_int (o := ⟨some 29, _, _, _, _, _⟩) rfl _ _ _ rfl _ _ M rfl rfl (HMx _ _ hk hj) ?_)
    (with_reducible refine (sum_n l A l.length c w.heap.size M w1 hr1 hs1 (by omega) hA ht1 hby (by omega) rfl M rfl).mono ?_)
    rintro e w2 ⟨Ax, cx, rfl, hOx, hb2⟩
    have hr2 := hr1.below (hb2.mono hs1)
    have hs2 := hb2.size
    have ht2 := ht1.below hb2 (by omega) (by omega)
    go_wp2_with (refine wpList_min_int (o := ⟨some 34, _, _, _, _, _⟩) rfl _ _ _ rfl _ _ Mi rfl rfl (HMn _ _ rfl rfl) ?_)
    (with_reducible refine (sum_n l A l.length c w.heap.size Mi w2 hr2 (by omega) (by omega) hA ht2 hby (by omega) rfl Mi rfl).mono ?_)
    rintro e w3 ⟨Ay, cy, rfl, hOy, hb3⟩
    have hr3 := hr2.below (hb3.mono (by omega))
    have hs3 := hb3.size
    have ht3 := ht2.below hb3 (by omega) (by omega)
    have hOx3 := hOx.below hb3 (Nat.le_refl _)
    go_wp2_with fail
    (with_reducible refine (new_n l A l.length c w.heap.size w3 hr3 (by omega) (by omega) hA ht3 hby rfl).mono ?_)
    rintro e w4 ⟨g4, rb4, A4, c4, rfl, hg4, hrb4, hR4, hb4⟩
    have hr4 := hr3.below (hb4.mono (by omega))
    have hs4 := hb4.size
    have ht4 := ht3.below hb4 (by omega) (by omega)
    have hOx4 := hOx3.below hb4 (Nat.le_refl _)
    have hOy4 := hOy.below hb4 (Nat.le_refl _)
    go_wp2_with fail
    (with_reducible refine (new_n l A l.length c w.heap.size w4 hr4 (by omega) (by omega) hA ht4 hby rfl).mono ?_)
    rintro e w5 ⟨g5, rb5, A5, c5, rfl, hg5, hrb5, hR5, hb5⟩
    have hs5 := hb5.size
    have ht5 := ht4.below hb5 (by omega) (by omega)
    have hOx5 := hOx4.below hb5 (Nat.le_refl _)
    have hOy5 := hOy4.below hb5 (Nat.le_refl _)
    have hR45 := hR4.below hb5
    have hlt4 := hR4.two.lt
    have hlt5 := hR5.two.lt
    have hrb4' := hR4.lt
    have hgx : ∀ q, (Value.slice Ax M cx).ownBlock = some q → q < w3.heap.size := fun q hq => by have := (hOx.lt q hq).2; omega
    have hgy : ∀ q, (Value.slice Ay Mi cy).ownBlock = some q → q < w3.heap.size := fun q hq => (hOy.lt q hq).2
    clear hr1 hr2 hr3 hr4 hR4 hOx hOx3 hOx4 hOy hOy4
    go_wp2_with fail
    (with_reducible refine (read_n k k g4 rb4 0 (newS l) (newS l) (giveL (newS l)) A4 c4 w5 (newS_len _) (newS_W _) (by omega) (At.start _) hR45 ht5 (by omega) (by omega) rfl).mono ?_)
    rintro e w6 ⟨A6, c6, s6, rest6, Ar6, cr6, rb6, rfl, hO6, hat6, hR6, hrb6, hK6⟩
    have hs6 := hK6.size
    have ht6 := ht5.keptS hK6 (by omega) (by omega) (by omega) (by omega)
    have hOx6 : Own w6 w1.heap.size 5 .u8 (.slice Ax M cx) (seg (newS l) 0 M) := hOx5.keep fun q hq => hK6.block q (by have := (hOx5.lt q hq).2; omega) (fun e => by have := hgx q hq; omega)
    have hOy6 : Own w6 w2.heap.size 5 .u8 (.slice Ay Mi cy) (seg (newS l) 0 Mi) := hOy5.keep fun q hq => hK6.block q (by have := (hOy5.lt q hq).2; omega) (fun e => by have := hgy q hq; omega)
    have hR56 := hR5.kept hK6 (Nat.le_refl _) (fun e => by omega) (fun e => by omega)
    clear hOx5 hOy5 hR5 hR45 hR6
    go_wp2_with fail
    (with_reducible refine (read_n j j g5 rb5 0 (newS l) (newS l) (giveL (newS l)) A5 c5 w6 (newS_len _) (newS_W _) (by omega) (At.start _) hR56 ht6 (by omega) (by omega) rfl).mono ?_)
    rintro e w7 ⟨A7, c7, s7, rest7, Ar7, cr7, rb7, rfl, hO7, hat7, hR7, hrb7, hK7⟩
    have hs7 := hK7.size
    have hOx7 : Own w7 w1.heap.size 5 .u8 (.slice Ax M cx) (seg (newS l) 0 M) := hOx6.keep fun q hq => hK7.block q (by have := (hOx6.lt q hq).2; omega) (fun e => by have := hgx q hq; omega)
    have hOy7 : Own w7 w2.heap.size 5 .u8 (.slice Ay Mi cy) (seg (newS l) 0 Mi) := hOy6.keep fun q hq => hK7.block q (by have := (hOy6.lt q hq).2; omega) (fun e => by have := hgy q hq; omega)
    have hO67 : Own w7 w5.heap.size 5 .u8 (.slice A6 k c6) (seg (newS l) 0 k) := hO6.keep fun q hq => hK7.block q (by have := (hO6.lt q hq).2; omega) (fun e => by have := (hO6.lt q hq).1; omega)
    have hX7 : Below w.heap.size w w7 := by
      have k1 := Kept.of_below (S := fun _ => False) hb1
      have k2 := k1.trans (S' := fun _ => False) (Kept.of_below hb2) (by omega) (fun _ _ h => h)
      have k3 := k2.trans (S' := fun _ => False) (Kept.of_below hb3) (by omega) (fun _ _ h => h)
      have k4 := k3.trans (S' := fun _ => False) (Kept.of_below hb4) (by omega) (fun _ _ h => h)
      have k5 := k4.trans (S' := fun _ => False) (Kept.of_below hb5) (by omega) (fun _ _ h => h)
      have k6 := k5.trans (S := fun _ => False) hK6 (by omega) (fun k hk e => by omega)
      exact (k6.trans (S := fun _ => False) hK7 (by omega) (fun k hk e => by omega)).below
    have hMc : (M : Int) ≤ (cx : Int) := by have := hOx7.len; rw [seg_len] at this; omega
    have hMiI : (Mi : Int) ≤ (M : Int) := by omega
    have hkI : (k : Int) ≤ (M : Int) := by omega
    have hjI : (j : Int) ≤ (M : Int) := by omega
    have e1 : (seg (newS l) 0 M).take Mi = seg (newS l) 0 Mi := by have h := seg_sub (newS l) 0 M 0 Mi (by omega); simpa using h
    have e2 : (seg (newS l) 0 M).take k = seg (newS l) 0 k := by have h := seg_sub (newS l) 0 M 0 k (by omega); simpa using h
    have e3 : (seg (newS l) 0 M).take j = seg (newS l) 0 j := by have h := seg_sub (newS l) 0 M 0 j (by omega); simpa using h
    have hx1 := hOx7.rd.take_ Mi
    have hx2 := hOx7.rd.take_ k
    have hx3 := hOx7.rd.take_ j
    rw [e1] at hx1
    rw [e2] at hx2
    rw [e3] at hx3
    clear e1 e2 e3 hOx6 hOy6 hR56 hgx hgy hb1 hb2 hb3 hb4 hb5 hK6 hK7
    go_wp2_with (first | (refine wpList_max_int (o := ⟨some 50, _, _, _, _, _⟩) rfl _ _ _ rfl _ _ M rfl rfl (HMx _ _ rfl rfl) ?_) | (refine wpList_min_yes (o := ⟨some 57, _, _, _, _, _⟩) _ _ _ rfl (by rfl) _ _ Mi (by rfl) (by rfl) (HMn _ _ rfl rfl) ?_))
    (with_reducible refine (same_true w7 Ax Ay (seg (newS l) 0 Mi) Mi cx cy _ _ hx1 hOy7.rd (seg_len _ _ _) (by omega)).mono ?_)
    rintro e w8 ⟨rfl, q8, rfl⟩
    go_wp2_with fail
    (with_reducible refine (same_true _ A6 Ax (seg (newS l) 0 k) k c6 cx _ _ (hO67.rd.drewN q8) (hx2.drewN q8) (seg_len _ _ _) (by omega)).mono ?_)
    rintro e w9 ⟨rfl, q9, rfl⟩
    go_wp2_with fail
    (with_reducible refine (same_true _ A7 Ax (seg (newS l) 0 j) j c7 cx _ _ (hO7.rd.drewN _) (hx3.drewN _) (seg_len _ _ _) (by omega)).mono ?_)
    rintro e wa ⟨rfl, qa, rfl⟩
    go_wp2_with fail
    go_ret
    exact ⟨rfl, (((Kept.of_below (S := fun _ => False) hX7).drewN _)).below⟩

end Go.Proofs.YtabpbnkipdjnlaaDoor
