/- append(s, make([]T, m)...), onto nil or a row of the call's own. Conditions: small lengths. -/
import Derived.Test.YteidkdpfjponfaaDoorZA
namespace Go.Proofs.YteidkdpfjponfaaDoor
open Go.RowKit
set_option linter.unusedVariables false
set_option linter.unusedSimpArgs false
section
variable {P : Program}
theorem zeroCells_one (v : Value) (hv : v.cells = #[v]) (m : Nat) : Builtin.zeroCells v.cells m = (List.replicate m v).toArray := by
  rw [hv]
  simp only [Builtin.zeroCells]
  apply Array.ext
  · simp
  · intro i h1 h2
    have : i % 1 = 0 := Nat.mod_one i
    simp [this]
theorem run_append_zeros (w : World) (t u ty e : TypeId) (k ku : IntKind) (bytes : Nat) (ht : P.underlying t = some (.slice e)) (hu : P.underlying u = some (.int ku))
    (hinfo : (P.info? e).map (fun i => (i.zero, i.size, i.bytes)) = some (some (.int k 0), 1, bytes))
    {b : Nat} {v : Value} {l : List Int} (m : Nat) (hown : Own w b e k v l) (hm : m ≤ 1000000) (hlim : (l.length + m) * bytes ≤ 140737488355328) (hb8 : bytes ≤ 1000) (hmax : l.length + m ≤ maxLen) (hb : b ≤ w.heap.size) :
    ∃ A' c' w', (Builtin.append_ #[t, u] ty #[v, .int .i64 (m : Int)]).run P w = .ok (.slice A' (l.length + m) c') w' ∧ Own w' b e k (.slice A' (l.length + m) c') (l ++ List.replicate m 0) ∧ w.grownBy w' v.ownBlock ∧
      ((Value.slice A' (l.length + m) c').ownBlock = v.ownBlock ∨ (Value.slice A' (l.length + m) c').ownBlock = some w.heap.size) := by
  cases hi : P.info? e with
  | none => rw [hi] at hinfo; cases hinfo
  | some i =>
    rw [hi] at hinfo
    simp only [Option.map_some, Option.some.injEq, Prod.mk.injEq] at hinfo
    obtain ⟨hz, hs, hby⟩ := hinfo
    have hw : IntKind.i64.wrap (m : Int) = (m : Int) := IntWalk.i64_in _ (by omega)
    have h0 : ¬ ((m : Int) < 0) := by omega
    have h48 : ¬ ((m : Int) * (i.bytes : Int) > 281474976710656) := by
      rw [hby]
      have : m * bytes ≤ 1000000 * 1000 := Nat.mul_le_mul hm hb8
      omega
    have hzc := zeroCells_one (Value.int k 0) rfl
    have hsmall : l.length + m ≤ 9223372036854775807 := by simp only [maxLen] at hmax; omega
    obtain ⟨A, c, rfl, hlc, hcm, hrd, hA⟩ := hown.form
    by_cases hm0 : m = 0
    · subst hm0
      refine ⟨A, c, w, ?_, by simpa using hown, World.grownBy.refl w _, .inl rfl⟩
      have hw0 : IntKind.i64.wrap 0 = 0 := by decide
      cases A with
      | none => simp [Builtin.append_, run_underlying ht, run_underlying hu, sizeOf, typeInfo, hi, hs, asInt, asIntOf, hw0, hlc]
      | some ad => simp [Builtin.append_, run_underlying ht, run_underlying hu, sizeOf, typeInfo, hi, hs, asInt, asIntOf, hw0, hlc, storeCells]
    · have hmp : ¬ ((m : Int) ≤ 0) := by omega
      have hnews : (List.replicate m (Value.int k 0)).length = m * i.size := by simp [hs]
      have h1 : ∀ u ∈ List.replicate m (Value.int k 0), u.oneCell' = true := fun u hu => by rw [List.eq_of_mem_replicate hu]; rfl
      have e1 : (l ++ List.replicate m 0).length = l.length + m := by simp
      have e2 : nums k (l ++ List.replicate m 0) = nums k l ++ List.replicate m (Value.int k 0) := by simp [nums]
      by_cases hroom : l.length + m ≤ c
      · rcases hown.2 with ⟨h, _⟩ | ⟨g, cap, cur, hv, hbg, hg, hnc, hcm', hcs, htake⟩
        · injection h with h1' h2' h3'
          omega
        · injection hv with e1 e2 e3
          subst e1 e3
          have hfit : l.length * i.size + m ≤ cur.size := by rw [hs, Nat.mul_one, hcs, Nat.mul_one]; exact hroom
          have hst := run_storeCells_at P g (l.length * i.size) e (List.replicate m (Value.int k 0)) 0 cur w hg (by simpa using hfit) h1
          simp only [Nat.add_zero, hs, Nat.mul_one, List.length_replicate] at hst
          refine ⟨some ⟨g, 0, none⟩, c, w.setRow g (cur.toList.take l.length ++ List.replicate m (Value.int k 0) ++ cur.toList.drop (l.length + m)).toArray, ?_, ?_, ?_, .inl rfl⟩
          rotate_left 1
          · unfold Own
            rw [e1, e2]
            refine ⟨by simp [nums], .inr ⟨g, c, _, rfl, hbg, setRow_heap w g cur (cur.toList.take l.length ++ List.replicate m (Value.int k 0) ++ cur.toList.drop (l.length + m)).toArray e _ hg, hroom, hcm, ?_, ?_⟩⟩
            · have : cur.toList.length = c := by rw [Array.length_toList, hcs, Nat.mul_one]
              simp only [List.size_toArray, List.length_append, List.length_take, List.length_drop, List.length_replicate, this]
              omega
            · have ht1 : cur.toList.take l.length = nums k l := by simpa using htake
              have hnl : (nums k l).length = l.length := nums_len k l
              simp only [Nat.mul_one]
              rw [ht1, List.take_append_of_le_length (by simp [hnl]), List.take_of_length_le (by simp [hnl])]
              simp [nums]
          · exact ⟨rfl, rfl, rfl, by simp, fun q _ hq => setRow_other w g q _ (fun e => hq (by simp [Value.ownBlock, e]))⟩
          · simp [Builtin.append_, run_underlying ht, run_underlying hu, sizeOf, typeInfo, zeroValue, hi, hs, hz, asInt, asIntOf, hw, h0, h48, hm0, hroom, hzc, Addr.add_lit, hst]
      · have hn : ¬ (l.length + m ≤ c) := hroom
        have h63' : ¬ (9223372036854775807 < ((l.length : Int) + (m : Int))) := by omega
        have h48' : ¬ (281474976710656 < Builtin.nextslicecap (l.length + m) c * i.bytes) := by
          have := growslice_fits (need := l.length + m) (old := c) (bytes := bytes) (by omega) hlim
          rw [hby]; omega
        have hge := grownCap_ge w (l.length + m) c e
        have hcm2 : grownCap w (l.length + m) c e ≤ maxLen := grownCap_le_maxLen w (l.length + m) c e hmax
        have hfo : (Builtin.firstCells 1 l.length (.slice A l.length c)).run P w.drew = .ok (nums k l).toArray w.drew := by
          cases A with
          | none =>
            rcases hown.2 with ⟨h, hl0⟩ | ⟨g, cap, cur, hv, _⟩
            · have : l = [] := List.eq_nil_of_length_eq_zero hl0
              subst this
              simp [Builtin.firstCells, nums]
            · cases hv
          | some ad =>
            refine run_firstCells_some (P := P) w.drew 1 l.length ad l.length c (nums k l) (by simp [nums_len]) (fun j u hu => ?_)
            have hj : j < l.length := by have := (List.getElem?_eq_some_iff.1 hu).1; rwa [nums_len] at this
            obtain ⟨ad', h1', _, h3'⟩ := hrd.at_ hj
            cases h1'
            rw [nums_get k l j hj] at hu
            injection hu with hu
            rw [← hu]; exact h3'
        refine ⟨some ⟨w.heap.size, 0, none⟩, grownCap w (l.length + m) c e, w.drew.alloc (.cells ((nums k l).toArray ++ (List.replicate m (Value.int k 0)).toArray ++ (List.replicate (grownCap w (l.length + m) c e - (l.length + m)) (Value.int k 0)).toArray) e), ?_, ?_, ?_, .inr rfl⟩
        rotate_left 1
        · unfold Own
          rw [e1, e2]
          refine ⟨by simp [nums], .inr ⟨w.heap.size, _, _, rfl, hb, heap_alloc_new w.drew _, hge, hcm2, ?_, ?_⟩⟩
          · simp [nums_len]; omega
          · have hnl : (nums k l).length = l.length := nums_len k l
            simp only [Array.toList_append, Nat.mul_one]
            rw [List.take_append_of_le_length (by simp [hnl]), List.take_of_length_le (by simp [hnl])]
        · exact ⟨rfl, rfl, rfl, by simp, fun q hq _ => heap_alloc_old _ _ hq⟩
        · simp [Builtin.append_, run_underlying ht, run_underlying hu, sizeOf, typeInfo, zeroValue, hi, hs, hz, asInt, asIntOf, hw, h0, h48, hm0, hn, h63', h48', hzc, Question.forced, hfo, newRow, grownCap]
/-- At a step of a region. -/
theorem wpList_app_zeros {w : World} {ops : Array Oper} {rest : List Oper} {o : Oper} {a : Act} {Q : Exit → Act → World → Prop} (hgd : o.guard = none) (s x : Operand) (t u e : TypeId) (k ku : IntKind) (bytes : Nat)
    (ho : o.op = .call { callee := .builtin .append, args := #[s, x], argTypes := #[t, u] })
    (ht : P.underlying t = some (.slice e)) (hu : P.underlying u = some (.int ku)) (hinfo : (P.info? e).map (fun i => (i.zero, i.size, i.bytes)) = some (some (.int k 0), 1, bytes))
    {b : Nat} {v : Value} {l : List Int} (m : Nat) (hown : Own w b e k v l) (hs : a.eval s = v) (hx : a.eval x = .int .i64 (m : Int)) (lm : List Int) (hlm : l ++ List.replicate m 0 = lm) (N : Nat) (hN : lm.length = N)
    (hm : m ≤ 1000000) (hlim : N * bytes ≤ 140737488355328) (hb8 : bytes ≤ 1000) (hmax : N ≤ maxLen) (hb : b ≤ w.heap.size)
    (h : ∀ A' c' w', Own w' b e k (.slice A' N c') lm → w.grownBy w' v.ownBlock → ((Value.slice A' N c').ownBlock = v.ownBlock ∨ (Value.slice A' N c').ownBlock = some w.heap.size) →
      wpList P ops Q rest (a.put o.dst (.slice A' N c')) w') : wpList P ops Q (o :: rest) a w := by
  subst hN hlm
  have e1 : (l ++ List.replicate m (0 : Int)).length = l.length + m := by simp
  rw [e1] at hlim hmax h
  refine wpList_plain hgd fun K hK => ?_
  obtain ⟨A', c', w', hrun, h2, h3, h4⟩ := run_append_zeros (P := P) w t u o.type e k ku bytes ht hu hinfo m hown hm hlim hb8 hmax hb
  unfold Oper.wp execOp
  simp only [ho, resolve, invoke, builtin, Sem.run_bind, Sem.run_pure, Result.andThen_ok, List.map_toArray, List.map_cons, List.map_nil, hs, hx, hrun]
  exact hK _ _ (h A' c' w' h2 h3 h4)
end
end Go.Proofs.YteidkdpfjponfaaDoor
