/- bytes.Repeat of one byte, octet.Fill. Conditions: at most 65536 bytes. -/
import Derived.Test.YtigedohalangbaaCat
import Derived.Test.YtigedohalangbaaBits
import Derived.Deep.RegionLaw
namespace Go.Proofs.Ytigedohalangbaa
open Go.RowKit
set_option linter.unusedVariables false
set_option linter.unusedSimpArgs false

theorem mul64_one (n : Nat) (w : World) (hn : n ≤ 65536) :
    Calls Try.prog 54 #[.int .u64 1, .int .u64 (n : Int)] w fun e w' => e = .returned (.tuple #[.int .u64 0, .int .u64 (n : Int)]) ∧ w = w' := by
  have a1 : bits .and .u64 (n : Int) 4294967295 = (n : Int) := by
    have := u64_and_nat n 4294967295 (by omega) (by decide)
    rw [show ((4294967295 : Nat) : Int) = 4294967295 from rfl] at this
    rw [this, show (4294967295 : Nat) = 2 ^ 32 - 1 from rfl, Nat.and_two_pow_sub_one_eq_mod]
    omega
  have a2 : bits .and .u64 1 4294967295 = 1 := by decide
  have a3 : bits .and .u64 0 4294967295 = 0 := by decide
  have a4 : (n : Int) ≤ 65536 := by omega
  have a5 : (n : Int) / 4294967296 = 0 := by omega
  go_enter Try.func54, Try.ntmps54
  go_wp2_with fail
  go_ret2
  exact ⟨rfl, rfl⟩
theorem mul_one (n : Nat) (w : World) (hn : n ≤ 65536) :
    Calls Try.prog 52 #[.int .u64 1, .int .u64 (n : Int)] w fun e w' => e = .returned (.tuple #[.int .u64 0, .int .u64 (n : Int)]) ∧ w = w' := by
  have hM := mul64_one n w hn
  go_enter Try.func52, Try.ntmps52
  go_wp2_with (with_reducible refine hM.mono ?_; rintro e w' ⟨rfl, rfl⟩)
  go_ret2
  exact ⟨rfl, rfl⟩

section
variable {P : Program}
theorem copy_buf (w : World) (h e N c m : Nat) (acc part : List Int) (ad : Addr) (t ty : TypeId) (hu : P.underlying t = some (.slice e)) (hs : (P.info? e).map (·.size) = some 1)
    (hb : BufI w h e N acc) (hc : ∀ i, i < part.length → w.cell? (ad.add i) = some (.int .u8 (gt part i))) (hm : part.length = min (N - acc.length) m) (h0 : 0 < part.length) :
    ∃ w', (Builtin.copy_ #[t, t] ty #[Lib.tailV h N acc.length, .slice (some ad) m c]).run P w = .ok (.int .i64 (part.length : Int)) w' ∧ BufI w' h e N (acc ++ part) ∧ Kept h (fun _ => False) w w' := by
  obtain ⟨rest, h1, h2, h3⟩ := hb
  have hne : ¬ N = acc.length := by omega
  have hdl : part.length ≤ rest.length := by omega
  have hcell : ∀ j, j < part.length → w.cell? ⟨h, acc.length + j, none⟩ = rest[j]? := fun j hj => by
    rw [cell_of_row w h _ _ e (0, 0) h1]
    simp [nums_len, List.getElem?_append_right]
  have hrun := run_copy_cells (P := P) w t t ty e h acc.length (N - acc.length) (N - acc.length) ad m c (nums .u8 part) hu hs (by rw [nums_len, hm, Nat.min_comm])
    (fun j u hj => by
      have hjl : j < part.length := by have := (List.getElem?_eq_some_iff.1 hj).1; rwa [nums_len] at this
      rw [nums_get .u8 part j hjl] at hj
      injection hj with hj
      rw [hc j hjl, hj])
    (fun j hj => by
      rw [nums_len] at hj
      rw [hcell j hj, List.getElem?_eq_getElem (by omega)]; rfl)
    (fun j hj => frozen_of_row w h _ _ e h1) (nums_one _ _)
  rw [nums_len] at hrun
  refine ⟨_, by unfold Lib.tailV; rw [if_neg hne]; exact hrun, ⟨rest.drop part.length, ?_, by simp; omega, by simp; omega⟩, (Kept.refl h (fun _ => False) w).setCells h _ _ (.inl (Nat.le_refl _))⟩
  have hsplit : rest = rest.take part.length ++ rest.drop part.length := (List.take_append_drop _ _).symm
  rw [hsplit] at h1
  have := setCells_row (g := h) (e := e) (nums .u8 part) acc.length w (nums .u8 acc) (rest.take part.length) (rest.drop part.length) (by simp [nums_len]; omega) (nums_len _ _) h1
  simpa [nums, List.map_append] using this
theorem BufI.cell {w : World} {h e N : Nat} {acc : List Int} (hb : BufI w h e N acc) (i : Nat) (hi : i < acc.length) : w.cell? ⟨h, i, none⟩ = some (.int .u8 (gt acc i)) := by
  obtain ⟨rest, h1, _⟩ := hb
  rw [cell_of_row w h _ _ e (0, 0) h1]
  simp only [List.getElem?_toArray]
  rw [List.getElem?_append_left (by rw [nums_len]; exact hi), nums_get _ _ _ hi]
/-- copy, its run at hand, AT A STEP OF A REGION THAT DRAWS. -/
theorem step_copy_run {w w' : World} {v : Value} {ops : Array Oper} {o : Oper} {a : Act} {K : Act → World → Prop} {Q : Exit → Act → World → Prop} {E : Prop} (hgd : o.guard = none) (s x : Operand) (t t' : TypeId)
    (ho : o.op = .call { callee := .builtin .copy, args := #[s, x], argTypes := #[t, t'] }) (vs vx : Value) (hs : a.eval s = vs) (hx : a.eval x = vx) (hrun : (Builtin.copy_ #[t, t'] o.type #[vs, vx]).run P w = .ok v w')
    (h : K (a.put o.dst v) w') :
    if Region.wanted o (yielded ops a.tmps) = true then Oper.wp P o a w K Q else E := by
  have hw : Region.wanted o (yielded ops a.tmps) = true := by simp [Region.wanted, hgd]
  rw [if_pos hw]
  unfold Oper.wp execOp
  simp only [ho, resolve, invoke, builtin, Sem.run_bind, Sem.run_pure, Result.andThen_ok, List.map_toArray, List.map_cons, List.map_nil, hs, hx, hrun]
  exact h
end

set_option maxRecDepth 100000 in
set_option maxHeartbeats 1000000 in
theorem repeat_one (x : Int) (A : Option Addr) (n B c : Nat) (w : World) (hr : Rd w B .u8 A [x]) (hB : B ≤ w.heap.size) (hn : n ≤ 65536) :
    Calls Try.prog 44 #[.slice A 1 c, .int .i64 (n : Int)] w (CatPost w (List.replicate n x)) := by
  obtain ⟨ad, rfl, hadB, hcx⟩ := hr (by simp)
  have hc0 : w.cell? ad = some (.int .u8 x) := by
    have := hcx 0 (by simp)
    rwa [show ad.add 0 = ad by unfold Addr.add; simp] at this
  unfold CatPost
  rw [List.length_replicate]
  by_cases h0 : n = 0
  · subst h0
    go_enter Try.func44, Try.ntmps44
    go_wp2_with fail
    go_ret
    exact ⟨some ⟨w.heap.size, 0, none⟩, 0, rfl, (Own.lit (e := 5) w [] (Nat.le_refl _) (Nat.zero_le _)).frs, ((Kept.refl w.heap.size (fun _ => False) w).alloc _ (Nat.le_refl _)).below⟩
  · have h0B : ((n : Int) == 0) = false := by simpa using h0
    have hnI : (n : Int) ≤ 65536 := by omega
    have hn0 : ¬ (n : Int) < 0 := by omega
    have hM := mul_one n w hn
    have hsz : (Try.prog.info? 5).map (·.size) = some 1 := by kernel_rfl
    have HSZ := Lib.hid hsz
    have hz1 : ∀ w, (sizeOf 5).run Try.prog w = .ok 1 w := fun w => by kernel_rfl
    have HZ1 := Lib.hid hz1
    obtain ⟨cs, hrunM, hle, _⟩ := Lib.run_makeNoZero (P := Try.prog) w #[3] 22 5 Try.underlying22 n (by omega)
    have hcall : (callFunc 51 #[.int .i64 (n : Int)]).run Try.prog w = .ok (.value (.slice (some ⟨w.heap.size, 0, none⟩) n cs.size)) ((w.alloc (.cells cs 5)).drewN 2) := by
      rw [run_callFunc_extern Try.func51 (by kernel_rfl) (by kernel_rfl) (by kernel_rfl) (e := Extern.BytealgMakeNoZero.makeNoZero #[3] #[22]) (by kernel_rfl), hrunM]
      rfl
    have hsl : ∀ wx, (Instr.slice 22 (.slice (some ⟨w.heap.size, 0, none⟩) n cs.size) none (some (.int .i64 (n : Int))) (some (.int .i64 (n : Int)))).run Try.prog wx = .ok (.slice (some ⟨w.heap.size, 0, none⟩) n n) wx := fun wx =>
      run_slice_0vv 22 5 Try.underlying22 (by kernel_rfl) _ n cs.size n (by omega) (by omega) .i64 .i64 wx
    have B0 : BufI ((w.alloc (.cells cs 5)).drewN 2) w.heap.size 5 n [] := ⟨cs.toList, by
      have h := heap_alloc_new w (.cells cs 5)
      simpa [nums] using h, by simpa using hle, Nat.zero_le _⟩
    have K0 : Kept w.heap.size (fun _ => False) w ((w.alloc (.cells cs 5)).drewN 2) := ((Kept.refl _ _ w).alloc _ (Nat.le_refl _)).drewN 2
    have hr0 : Rd ((w.alloc (.cells cs 5)).drewN 2) B .u8 (some ad) [x] := hr.kept K0 hB (fun _ _ h => h)
    obtain ⟨w1, hr1, B1, K1⟩ := copy_nums (P := Try.prog) _ w.heap.size 5 n B c [] [x] (some ad) 22 3 Try.underlying22 hsz B0 hr0 hB (by simp; omega)
    rw [List.length_nil, Lib.tailV_zero] at hr1
    rw [List.nil_append] at B1
    rw [show [x].length = 1 from rfl] at hr1
    have hml : (65536 : Nat) ≤ maxLen := by decide
    have K01 := K0.trans (S' := fun _ => False) K1 (Nat.le_refl _) (fun _ _ h => h)
    have hc0' : ((w.alloc (.cells cs 5)).drewN 2).cell? ad = some (.int .u8 x) := K0.cell hc0 (by omega) (fun h => h)
    clear B0 K0 K1 hr0 hcx hsz hz1 hr hc0'
    go_enter Try.func44, Try.ntmps44
    by_cases hbig : 8192 < n
    · have hbI : (n : Int) > 8192 := by omega
      go_wp2_with (first | (with_reducible refine hM.mono ?_; rintro e w' ⟨rfl, rfl⟩) | (at_builtin; refine Lib.wpList_copy_run _ rfl _ _ 22 22 rfl _ _ rfl rfl hr1 ?_))
      clear hM hcall hsl hr1 hrunM
      obtain ⟨h, hh⟩ : ∃ h, w.heap.size = h := ⟨_, rfl⟩
      rw [hh] at B1 K01 hB ⊢
      have HH := Lib.hid hh
      clear hh hc0
      go_loopg [10, 11] (n - 1) (fun g s10 s11 wr => ∃ j : Nat, s10 = .int .i64 j ∧ g = n - j ∧ 1 ≤ j ∧ j ≤ n ∧ BufI wr h 5 n (List.replicate j x) ∧ Kept h (fun _ => False) w wr)
      case atStart => exact ⟨1, rfl, rfl, Nat.le_refl _, by omega, B1, K01⟩
      case round =>
        clear B1 K01
        obtain ⟨j, rfl, hg, hj1, hjn, hBf, hK⟩ := hrel
        have HG := Lib.hid hg
        clear hg
        by_cases hlt : j < n
        · have hltI : (j : Int) < (n : Int) := by omega
          obtain ⟨m, hm⟩ : ∃ m, min j 8192 = m := ⟨_, rfl⟩
          obtain ⟨k, hk⟩ : ∃ k, min (n - j) m = k := ⟨_, rfl⟩
          have hk0 : 0 < k := by omega
          have hkj : k ≤ j := by omega
          have hmn : m ≤ n := by omega
          have hs1 : ∀ W, (Instr.slice 22 (.slice (some ⟨h, 0, none⟩) n n) (some (.int .i64 (j : Int))) none none).run Try.prog W = .ok (Lib.tailV h n j) W := fun W => Lib.run_slice_tailV W 22 5 Try.underlying22 HZ1.out _ n j hjn
          have hs2 : ∀ W, (Instr.slice 22 (.slice (some ⟨h, 0, none⟩) n n) none (some (.int .i64 (m : Int))) none).run Try.prog W = .ok (.slice (some ⟨h, 0, none⟩) m n) W := fun W => run_slice_0v 22 5 Try.underlying22 (by kernel_rfl) _ n n m hmn .i64 W
          have hBd : BufI wr.drew h 5 n (List.replicate j x) := hBf
          obtain ⟨w3, hr3, B3, K3⟩ := copy_buf (P := Try.prog) wr.drew h 5 n n m (List.replicate j x) (List.replicate k x) ⟨h, 0, none⟩ 22 3 Try.underlying22 HSZ.out hBd
            (fun i hi => by
              rw [List.length_replicate] at hi
              rw [plus_head, gt_rep _ _ _ hi]
              have := hBd.cell i (by rw [List.length_replicate]; omega)
              rwa [gt_rep _ _ _ (by omega)] at this) (by rw [List.length_replicate, List.length_replicate]; exact hk.symm) (by rw [List.length_replicate]; exact hk0)
          rw [List.length_replicate, List.length_replicate] at hr3
          rw [List.replicate_append_replicate] at B3
          have K13 := (hK.drew).trans (S' := fun _ => False) K3 (Nat.le_refl _) (fun _ _ h => h)
          have hjk : j + k ≤ n := by omega
          have hwj : IntKind.i64.wrap ((j : Int) + (k : Int)) = (j : Int) + (k : Int) := IntWalk.i64_in _ (by omega)
          have htv : Lib.tailV h n j = .slice (some ⟨h, j, none⟩) (n - j) (n - j) := by unfold Lib.tailV; rw [if_neg (by omega)]
          rw [htv] at hr3
          have hs1' := fun W => (hs1 W).trans (by rw [htv])
          have HM := Lib.hid hm
          have HK := Lib.hid hk
          clear htv hs1
          clear hBf hBd hK K3 hm hk
          go_wp2_with (refine wpList_min_nat (o := ⟨some 66, _, _, _, _, _⟩) rfl _ _ _ rfl j 8192 m rfl rfl HM.out ?_)
          go_region_law (refine step_copy_run (by rfl) _ _ 22 22 (by rfl) (.slice (some ⟨h, j, none⟩) (n - j) (n - j)) (.slice (some ⟨h, 0, none⟩) m n) (by simp [Act.eval, Act.put]) (by simp [Act.eval, Act.put]) hr3 ?_)
          clear hs1' hs2 hr3
          go_wp2_with fail
          go_roundg (n - (j + k))
          case measure => have := HG.out; omega
          case rel => exact ⟨j + k, by push_cast; rfl, rfl, by omega, hjk, B3, K13⟩
        · have hltI : ¬ (j : Int) < (n : Int) := by omega
          obtain rfl : j = n := by omega
          go_wp2_with fail
          go_ret
          refine ⟨some ⟨h, 0, none⟩, j, rfl, ?_, ?_⟩
          · rw [HH.out]; exact hBf.frs (by simp) (Nat.le_refl _) (by omega)
          · rw [HH.out]; exact hK.below
    · have hbI : ¬ (n : Int) > 8192 := by omega
      go_wp2_with (first | (with_reducible refine hM.mono ?_; rintro e w' ⟨rfl, rfl⟩) | (at_builtin; refine Lib.wpList_copy_run _ rfl _ _ 22 22 rfl _ _ rfl rfl hr1 ?_))
      clear hM hcall hsl hr1 hrunM
      obtain ⟨h, hh⟩ : ∃ h, w.heap.size = h := ⟨_, rfl⟩
      rw [hh] at B1 K01 hB ⊢
      have HH := Lib.hid hh
      clear hh hc0
      go_loopg [10, 11] (n - 1) (fun g s10 s11 wr => ∃ j : Nat, s10 = .int .i64 j ∧ g = n - j ∧ 1 ≤ j ∧ j ≤ n ∧ BufI wr h 5 n (List.replicate j x) ∧ Kept h (fun _ => False) w wr)
      case atStart => exact ⟨1, rfl, rfl, Nat.le_refl _, by omega, B1, K01⟩
      case round =>
        clear B1 K01
        obtain ⟨j, rfl, hg, hj1, hjn, hBf, hK⟩ := hrel
        have HG := Lib.hid hg
        clear hg
        by_cases hlt : j < n
        · have hltI : (j : Int) < (n : Int) := by omega
          obtain ⟨m, hm⟩ : ∃ m, min j n = m := ⟨_, rfl⟩
          obtain ⟨k, hk⟩ : ∃ k, min (n - j) m = k := ⟨_, rfl⟩
          have hk0 : 0 < k := by omega
          have hkj : k ≤ j := by omega
          have hmn : m ≤ n := by omega
          have hs1 : ∀ W, (Instr.slice 22 (.slice (some ⟨h, 0, none⟩) n n) (some (.int .i64 (j : Int))) none none).run Try.prog W = .ok (Lib.tailV h n j) W := fun W => Lib.run_slice_tailV W 22 5 Try.underlying22 HZ1.out _ n j hjn
          have hs2 : ∀ W, (Instr.slice 22 (.slice (some ⟨h, 0, none⟩) n n) none (some (.int .i64 (m : Int))) none).run Try.prog W = .ok (.slice (some ⟨h, 0, none⟩) m n) W := fun W => run_slice_0v 22 5 Try.underlying22 (by kernel_rfl) _ n n m hmn .i64 W
          have hBd : BufI wr.drew h 5 n (List.replicate j x) := hBf
          obtain ⟨w3, hr3, B3, K3⟩ := copy_buf (P := Try.prog) wr.drew h 5 n n m (List.replicate j x) (List.replicate k x) ⟨h, 0, none⟩ 22 3 Try.underlying22 HSZ.out hBd
            (fun i hi => by
              rw [List.length_replicate] at hi
              rw [plus_head, gt_rep _ _ _ hi]
              have := hBd.cell i (by rw [List.length_replicate]; omega)
              rwa [gt_rep _ _ _ (by omega)] at this) (by rw [List.length_replicate, List.length_replicate]; exact hk.symm) (by rw [List.length_replicate]; exact hk0)
          rw [List.length_replicate, List.length_replicate] at hr3
          rw [List.replicate_append_replicate] at B3
          have K13 := (hK.drew).trans (S' := fun _ => False) K3 (Nat.le_refl _) (fun _ _ h => h)
          have hjk : j + k ≤ n := by omega
          have hwj : IntKind.i64.wrap ((j : Int) + (k : Int)) = (j : Int) + (k : Int) := IntWalk.i64_in _ (by omega)
          have htv : Lib.tailV h n j = .slice (some ⟨h, j, none⟩) (n - j) (n - j) := by unfold Lib.tailV; rw [if_neg (by omega)]
          rw [htv] at hr3
          have hs1' := fun W => (hs1 W).trans (by rw [htv])
          have HM := Lib.hid hm
          have HK := Lib.hid hk
          clear htv hs1
          clear hBf hBd hK K3 hm hk
          go_wp2_with (refine wpList_min_nat (o := ⟨some 66, _, _, _, _, _⟩) rfl _ _ _ rfl j n m rfl rfl HM.out ?_)
          go_region_law (refine step_copy_run (by rfl) _ _ 22 22 (by rfl) (.slice (some ⟨h, j, none⟩) (n - j) (n - j)) (.slice (some ⟨h, 0, none⟩) m n) (by simp [Act.eval, Act.put]) (by simp [Act.eval, Act.put]) hr3 ?_)
          clear hs1' hs2 hr3
          go_wp2_with fail
          go_roundg (n - (j + k))
          case measure => have := HG.out; omega
          case rel => exact ⟨j + k, by push_cast; rfl, rfl, by omega, hjk, B3, K13⟩
        · have hltI : ¬ (j : Int) < (n : Int) := by omega
          obtain rfl : j = n := by omega
          go_wp2_with fail
          go_ret
          refine ⟨some ⟨h, 0, none⟩, j, rfl, ?_, ?_⟩
          · rw [HH.out]; exact hBf.frs (by simp) (Nat.le_refl _) (by omega)
          · rw [HH.out]; exact hK.below

theorem fill_any (x : Int) (n : Nat) (w : World) (hn : n ≤ 65536) :
    Calls Try.prog 33 #[.int .u8 x, .int .i64 (n : Int)] w (CatPost w (List.replicate n x)) := by
  have h1 : ¬ (n : Int) < 0 := by omega
  have h2 : ¬ (n : Int) > 65536 := by omega
  have hE : Arr (w.alloc (.cells #[.int .u8 x] 5)) w.heap.size 5 .u8 [x] := Arr.new w 5 .u8 [x]
  have hR := repeat_one x (some ⟨w.heap.size, 0, none⟩) n _ 1 _ (Rd.of_arr hE (by simp)) (Nat.le_refl _) hn
  unfold CatPost at hR ⊢
  rw [List.length_replicate] at hR ⊢
  have hb : Below w.heap.size w (w.alloc (.cells #[.int .u8 x] 5)) := (Below.refl _ _).alloc (Nat.le_refl _) _
  obtain ⟨Z, hZ⟩ : ∃ Z : List Int, List.replicate n x = Z := ⟨_, rfl⟩
  rw [hZ] at hR ⊢
  clear hE hZ
  go_enter Try.func33, Try.ntmps33
  go_wp2_with (with_reducible refine hR.mono ?_; rintro e w' ⟨A, c, rfl, hF, hb'⟩)
  go_ret
  exact ⟨A, c, rfl, hF.low (by simp), hb.trans (hb'.mono (by simp))⟩
theorem fill_none (x n : Int) (w : World) (hn : n < 0 ∨ 65536 < n) :
    Calls Try.prog 33 #[.int .u8 x, .int .i64 n] w fun e w' => e = .returned (.slice none 0 0) ∧ w = w' := by
  by_cases h1 : n < 0
  · have h1B : decide (n < 0) = true := by simpa using h1
    clear hn
    go_enter Try.func33, Try.ntmps33
    go_wp2_with fail
    go_ret
    exact ⟨rfl, rfl⟩
  · have h1B : decide (n < 0) = false := by simpa using h1
    have h2B : decide (n > 65536) = true := by simp; omega
    clear hn
    go_enter Try.func33, Try.ntmps33
    go_wp2_with fail
    go_ret
    exact ⟨rfl, rfl⟩

end Go.Proofs.Ytigedohalangbaa
