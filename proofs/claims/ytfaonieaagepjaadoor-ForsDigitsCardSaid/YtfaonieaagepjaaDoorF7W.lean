/- ForsDigits, walked. Conditions: what is read reads as bytes; the tables. -/
import Derived.Test.YtfaonieaagepjaaDoorF7T
namespace Go.Proofs.YtfaonieaagepjaaDoor
open Go.RowKit
set_option linter.unusedVariables false
set_option linter.unusedSimpArgs false
theorem dgN_bit (b : List Int) (s : Nat) : ∀ t j, j < t → dgN b s t / 2 ^ (t - 1 - j) % 2 = bitN b (s + j)
  | t + 1, j, h => by
    rw [dgN]
    have hb := bitN_bd b (s + t)
    rcases Nat.lt_or_ge j t with h1 | h1
    · have ih := dgN_bit b s t j h1
      obtain ⟨m, hm⟩ : ∃ m, t - 1 - j = m := ⟨_, rfl⟩
      rw [hm] at ih
      rw [show t + 1 - 1 - j = m + 1 by omega, Int.pow_succ, Int.mul_comm ((2 : Int) ^ m) 2, ← Int.ediv_ediv_of_nonneg (by decide), show (2 * dgN b s t + bitN b (s + t)) / 2 = dgN b s t by omega]
      exact ih
    · obtain rfl : j = t := by omega
      rw [show j + 1 - 1 - j = 0 by omega, Int.pow_zero, Int.ediv_one]
      omega
set_option maxRecDepth 100000 in
set_option maxHeartbeats 8000000 in
theorem forsDigits_walk (f : Fw) (bt : List Int) (Ab : Option Addr) (cb : Nat) (w : World) (hf : f.ok) (hb : Rd w w.heap.size .u8 Ab bt) (hcb : bt.length ≤ cb) (hmb : cb ≤ 9223372036854775807) (hbb : Bys bt) (hT : KTab w) :
    Calls Tryd.prog 4 #[.agg f.cs, .slice Ab bt.length cb] w fun e w' => e = .returned (.bool true) ∧ Below w.heap.size w w' := by
  obtain ⟨L, hnb⟩ : ∃ n, bt.length = n := ⟨_, rfl⟩
  rw [hnb] at hcb ⊢
  have hmx : (200000000 : Nat) ≤ maxLen := by decide
  have hXf := Blk.new w 23 f.cs
  have hKx := bal (Below.refl w.heap.size w) (Nat.le_refl _) (.cells f.cs 23)
  go_enter Tryd.func4, Tryd.ntmps4
  go_upto_region 1 with fail
  change Code.wp _ _ _ _ (w.alloc (.cells f.cs 23))
  generalize w.alloc (.cells f.cs 23) = w0 at hXf hKx ⊢
  have hlf := hXf.lt
  go_wp2_with fail
  (with_reducible refine (awake17_any w0 (hT.bel hKx)).mono ?_)
  rintro e v1 ⟨rfl, hb1⟩
  have hK1 := bnx hKx hb1 hKx.size
  have hcf_1 := hXf.below hb1 hlf
  have hlf_1 := Nat.lt_of_lt_of_le hlf hb1.size
  clear hKx hXf hlf hb1
  by_cases hgb : 300 < L
  · have hgbI : (300 : Int) < (L : Int) := by omega
    go_wp2_with fail
    go_ret
    exact ⟨rfl, hK1⟩
  have hgbI : ¬ (300 : Int) < (L : Int) := by omega
  by_cases hm : f.may
  rotate_left 1
  · go_wp2_with (refine wpList_blk_yes (t := 23) (T := 23) (by rfl) rfl rfl Tryd.underlying23 rfl (by kernel_rfl) hcf_1 ?_)
    (with_reducible refine (digits_may f Ab L cb v1 hf hm).mono ?_)
    rintro e v2 ⟨rfl, hb2⟩
    have hK2 := bnx hK1 hb2 hK1.size
    have hcf_2 := hcf_1.below hb2 hlf_1
    have hlf_2 := Nat.lt_of_lt_of_le hlf_1 hb2.size
    clear hK1 hcf_1 hlf_1 hb2
    go_wp2_with (refine wpList_blk_yes (t := 23) (T := 23) (by rfl) rfl rfl Tryd.underlying23 rfl (by kernel_rfl) hcf_2 ?_)
    (with_reducible refine (rmay_no f v2 hf hm).mono ?_)
    rintro e v3 ⟨rfl, hb3⟩
    have hK3 := bnx hK2 hb3 hK2.size
    have hcf_3 := hcf_2.below hb3 hlf_2
    have hlf_3 := Nat.lt_of_lt_of_le hlf_2 hb3.size
    clear hK2 hcf_2 hlf_2 hb3
    go_wp2_with fail
    go_ret
    exact ⟨rfl, hK3⟩
  obtain ⟨kn, hkn⟩ : ∃ n : Nat, f.k = n := ⟨_, hm.nk⟩
  obtain ⟨an, han⟩ : ∃ n : Nat, f.a = n := ⟨_, hm.na⟩
  have hk40 : kn ≤ 40 := by have := hm.k; omega
  have hk1 : 1 ≤ kn := by have := hm.k; omega
  have ha14 : an ≤ 14 := by have := hm.a; omega
  have ha1 : 1 ≤ an := by have := hm.a; omega
  obtain ⟨P, hP⟩ : ∃ P, kn * an = P := ⟨_, rfl⟩
  have hP560 : P ≤ 560 := by rw [← hP]; exact Nat.le_trans (Nat.mul_le_mul hk40 ha14) (by decide)
  by_cases hs8n : ¬ 8 * L < P
  rotate_left 1
  · have hs8 : 8 * L < P := by omega
    clear hs8n
    go_wp2_with (refine wpList_blk_yes (t := 23) (T := 23) (by rfl) rfl rfl Tryd.underlying23 rfl (by kernel_rfl) hcf_1 ?_)
    (with_reducible refine (digits_short f kn an hkn han Ab L cb v1 hf hm (by omega) (by rw [hP]; exact hs8)).mono ?_)
    rintro e v2 ⟨rfl, hb2⟩
    have hK2 := bnx hK1 hb2 hK1.size
    have hcf_2 := hcf_1.below hb2 hlf_1
    have hlf_2 := Nat.lt_of_lt_of_le hlf_1 hb2.size
    clear hK1 hcf_1 hlf_1 hb2
    go_wp2_with (refine wpList_blk_yes (t := 23) (T := 23) (by rfl) rfl rfl Tryd.underlying23 rfl (by kernel_rfl) hcf_2 ?_)
    (with_reducible refine (rmay_yes f v2 hf hm).mono ?_)
    rintro e v3 ⟨rfl, hb3⟩
    have hK3 := bnx hK2 hb3 hK2.size
    have hcf_3 := hcf_2.below hb3 hlf_2
    have hlf_3 := Nat.lt_of_lt_of_le hlf_2 hb3.size
    clear hK2 hcf_2 hlf_2 hb3
    have hk3 := hcf_3.cell 3 (.int .i64 f.k) rfl
    have hk4 := hcf_3.cell 4 (.int .i64 f.a) rfl
    rw [hkn] at hk3
    rw [han] at hk4
    have hlk3 := hlf_3
    have hlk4 := hlf_3
    have hl8 : (8 : Int) * (L : Int) < (P : Int) := by omega
    have hw := mulk kn an P hP (Nat.le_trans hP560 (by decide))
    clear hP hs8
    go_wp2_with fail
    go_ret
    exact ⟨rfl, hK3⟩
  have hs8 : ¬ 8 * L < kn * an := by rw [hP]; exact hs8n
  go_wp2_with (refine wpList_blk_yes (t := 23) (T := 23) (by rfl) rfl rfl Tryd.underlying23 rfl (by kernel_rfl) hcf_1 ?_)
  (with_reducible refine (digits_any f kn an hkn han bt Ab L cb v1 hf hm (hb.bel hK1) hnb hcb (by omega) hs8 hbb).mono ?_)
  rintro e v2 ⟨Ad, cdd, rfl, hF2, hhd, hb2⟩
  have hK2 := bnx hK1 hb2 hK1.size
  have hcf_2 := hcf_1.below hb2 hlf_1
  have hlf_2 := Nat.lt_of_lt_of_le hlf_1 hb2.size
  have hRD := hF2
  have hBD_2 := Below.refl v2.heap.size v2
  clear hK1 hcf_1 hlf_1 hb2 hF2
  go_wp2_with (refine wpList_blk_yes (t := 23) (T := 23) (by rfl) rfl rfl Tryd.underlying23 rfl (by kernel_rfl) hcf_2 ?_)
  (with_reducible refine (rmay_yes f v2 hf hm).mono ?_)
  rintro e v3 ⟨rfl, hb3⟩
  have hK3 := bnx hK2 hb3 hK2.size
  have hBD_3 := bnx hBD_2 hb3 hBD_2.size
  have hcf_3 := hcf_2.below hb3 hlf_2
  have hlf_3 := Nat.lt_of_lt_of_le hlf_2 hb3.size
  clear hK2 hBD_2 hcf_2 hlf_2 hb3
  have hk3 := hcf_3.cell 3 (.int .i64 f.k) rfl
  have hk4 := hcf_3.cell 4 (.int .i64 f.a) rfl
  rw [hkn] at hk3
  rw [han] at hk4
  have hlk3 := hlf_3
  have hlk4 := hlf_3
  have hl8 : (decide ((8 : Int) * (L : Int) < wrap64 ((kn : Int) * (an : Int)))) = false := by rw [mulk kn an P hP (Nat.le_trans hP560 (by decide))]; exact decide_eq_false (by omega)
  have HP := Lib.hid hP
  have H8 := Lib.hid hs8n
  clear hP hs8 hs8n
  go_upto_region 11 with fail
  clear hl8
  have hrb := hb.bel hK3
  have hrD := (hRD.bel hBD_3)
  have hwp := mulk kn an P HP.out (Nat.le_trans hP560 (by decide))
  have HWP := Lib.hid hwp
  have HA := Lib.hid (And.intro ha1 ha14)
  clear hwp
  go_loopg [6] P (fun gk x wr => ∃ (i q : Nat), x = .int .i64 i ∧ i ≤ P ∧ gk = P - i ∧ wr = v3.drewN q)
  case atStart => exact ⟨0, 0, rfl, Nat.zero_le _, rfl, rfl⟩
  case round =>
    obtain ⟨i, q, rfl, hi, hgk, hwr⟩ := hrel
    have HGK := Lib.hid hgk
    clear hgk
    obtain rfl := hwr
    by_cases hlt : i < P
    · have hltI : (decide ((i : Int) < wrap64 ((kn : Int) * (an : Int)))) = true := by rw [HWP.out]; exact decide_eq_true (by omega)
      have hiL : i / 8 < L := by have := H8.out; omega
      obtain ⟨ad, rfl, hab, hcell⟩ := hrb.at_ (i := i / 8) (by omega)
      obtain ⟨y, hy⟩ : ∃ y, gt bt (i / 8) = y := ⟨_, rfl⟩
      have hyb := hbb.gt (i / 8)
      rw [hy] at hcell hyb
      have hy0 := hyb.1
      have hy1 := hyb.2
      have hbit : y / 2 ^ (7 - i % 8) % 2 = bitN bt i := by unfold bitN; rw [hy]
      have hiLI : (i : Int) / 8 < (L : Int) := by omega
      obtain ⟨hk0, _, hsum, hmod⟩ := accL_now bt an kn i HA.out.1 (by rw [HP.out]; exact hlt)
      obtain ⟨k0, hk⟩ : ∃ k, i / an = k := ⟨_, rfl⟩
      obtain ⟨t0, ht⟩ : ∃ t, i % an = t := ⟨_, rfl⟩
      rw [hk] at hk0
      rw [ht] at hmod
      rw [hk, ht] at hsum
      obtain ⟨ad2, rfl, hab2, hcell2⟩ := hrD.at_ (i := k0) (by rw [digsL_len]; exact hk0)
      rw [digsL_gt bt an kn k0 hk0] at hcell2
      have hdb := dgN_bit bt (k0 * an) an t0 hmod
      rw [hsum] at hdb
      have hd1 := dgN_bd bt (k0 * an) an
      obtain ⟨d, hd⟩ : ∃ d, dgN bt (k0 * an) an = d := ⟨_, rfl⟩
      rw [hd] at hdb hd1 hcell2
      have hyd0 : 0 ≤ y / 2 ^ (7 - i % 8) := Int.ediv_nonneg hy0 (by exact_mod_cast Nat.zero_le _)
      have hyd1 : y / 2 ^ (7 - i % 8) ≤ y := Int.ediv_le_self _ hy0
      have hcv : y / 2 ^ (7 - i % 8) % 4294967296 = y / 2 ^ (7 - i % 8) := Int.emod_eq_of_lt hyd0 (by omega)
      have hne0 : ¬ (an : Int) = 0 := by omega
      have hk0I : (k0 : Int) < (kn : Int) := by omega
      have hdI : (i : Int) / (an : Int) = (k0 : Int) := by rw [← hk]; push_cast; rfl
      have hmI : (i : Int) % (an : Int) = (t0 : Int) := by rw [← ht]; push_cast; rfl
      obtain ⟨m, hm2⟩ : ∃ m, an - 1 - t0 = m := ⟨_, rfl⟩
      rw [hm2] at hdb
      have hmm : (an : Int) - 1 - (t0 : Int) = (m : Int) := by omega
      have HKT := Lib.hid (And.intro hk ht)
      clear hk ht hsum hy hd
      go_upto_region 14 with fail
      have hcu : IntKind.u64.wrap (m : Int) = (m : Int) := by unfold IntKind.wrap; simp [IntKind.bits, IntKind.signed]; omega
      have hdd0 : 0 ≤ d / 2 ^ m := Int.ediv_nonneg hd1.1 (by exact_mod_cast Nat.zero_le _)
      have hc4 : (v3.drewN q).cell? ⟨w.heap.size, 4, none⟩ = some (.int .i64 an) := hk4
      have hc5 : (v3.drewN q).cell? (ad2.add k0) = some (.int .u32 d) := hcell2
      refine wp_region_hold (fun w' => w'.cell? ⟨w.heap.size, 4, none⟩ = some (.int .i64 an) ∧ w'.cell? (ad2.add k0) = some (.int .u32 d) ∧ RowKit.Hid (w' = (v3.drewN q).drew)) (by kernel_rfl) (by kernel_rfl) ⟨hc4, hc5, Lib.hid rfl⟩ ?_
      (try simp only [List.take_succ_cons, List.take_zero, List.drop_succ_cons, List.drop_zero])
      ((first | (refine wpHold_step ?_ ?_ ?_ ?_; rotate_left 1; focus (with_reducible rfl)) | (refine wpHold_yes ?_ ?_ ?_ ?_; rotate_left 1; focus rfl)); (focus (intro w hw; unfold Gives; go_simp; refine ⟨?_, hw⟩; with_reducible rfl)); (try simp only [Act.put, List.setIfInBounds_toArray, List.set_cons_zero, List.set_cons_succ]))
      ((first | (refine wpHold_step ?_ ?_ ?_ ?_; rotate_left 1; focus (with_reducible rfl)) | (refine wpHold_yes ?_ ?_ ?_ ?_; rotate_left 1; focus rfl)); (focus (intro w hw; unfold Gives; go_simp; refine ⟨?_, hw⟩; with_reducible rfl)); (try simp only [Act.put, List.setIfInBounds_toArray, List.set_cons_zero, List.set_cons_succ]))
      ((first | (refine wpHold_step ?_ ?_ ?_ ?_; rotate_left 1; focus (with_reducible rfl)) | (refine wpHold_yes ?_ ?_ ?_ ?_; rotate_left 1; focus rfl)); (focus (intro w hw; unfold Gives; go_simp; refine ⟨?_, hw⟩; with_reducible rfl)); (try simp only [Act.put, List.setIfInBounds_toArray, List.set_cons_zero, List.set_cons_succ]))
      ((first | (refine wpHold_step ?_ ?_ ?_ ?_; rotate_left 1; focus (with_reducible rfl)) | (refine wpHold_yes ?_ ?_ ?_ ?_; rotate_left 1; focus rfl)); (focus (intro w hw; have hcell := hw.1; unfold Gives; go_simp; refine ⟨?_, hw⟩; with_reducible rfl)); (try simp only [Act.put, List.setIfInBounds_toArray, List.set_cons_zero, List.set_cons_succ]))
      refine Hd.val (.int .i64 (k0 : Int)) (by kernel_rfl) (fun w => by go_simp; all_goals first | done | rfl | (rw [if_neg (show ¬ an = 0 by omega), IntWalk.i64_in _ (by omega)]) | (trace_state; sorry)) ?_
      (try simp only [Act.put, List.setIfInBounds_toArray, List.set_cons_zero, List.set_cons_succ])
      ((first | (refine wpHold_step ?_ ?_ ?_ ?_; rotate_left 1; focus (with_reducible rfl)) | (refine wpHold_yes ?_ ?_ ?_ ?_; rotate_left 1; focus rfl)); (focus (intro w hw; unfold Gives; go_simp; refine ⟨?_, hw⟩; with_reducible rfl)); (try simp only [Act.put, List.setIfInBounds_toArray, List.set_cons_zero, List.set_cons_succ]))
      ((first | (refine wpHold_step ?_ ?_ ?_ ?_; rotate_left 1; focus (with_reducible rfl)) | (refine wpHold_yes ?_ ?_ ?_ ?_; rotate_left 1; focus rfl)); (focus (intro w hw; have hcell := hw.2.1; unfold Gives; go_simp; refine ⟨?_, hw⟩; with_reducible rfl)); (try simp only [Act.put, List.setIfInBounds_toArray, List.set_cons_zero, List.set_cons_succ]))
      ((first | (refine wpHold_step ?_ ?_ ?_ ?_; rotate_left 1; focus (with_reducible rfl)) | (refine wpHold_yes ?_ ?_ ?_ ?_; rotate_left 1; focus rfl)); (focus (intro w hw; unfold Gives; go_simp; refine ⟨?_, hw⟩; with_reducible rfl)); (try simp only [Act.put, List.setIfInBounds_toArray, List.set_cons_zero, List.set_cons_succ]))
      ((first | (refine wpHold_step ?_ ?_ ?_ ?_; rotate_left 1; focus (with_reducible rfl)) | (refine wpHold_yes ?_ ?_ ?_ ?_; rotate_left 1; focus rfl)); (focus (intro w hw; have hcell := hw.1; unfold Gives; go_simp; refine ⟨?_, hw⟩; with_reducible rfl)); (try simp only [Act.put, List.setIfInBounds_toArray, List.set_cons_zero, List.set_cons_succ]))
      refine Hd.val (.int .i64 ((an : Int) - 1)) (by kernel_rfl) (fun w => by go_simp; all_goals first | done | rfl | (rw [IntWalk.i64_in _ (by omega)]) | (trace_state; sorry)) ?_
      (try simp only [Act.put, List.setIfInBounds_toArray, List.set_cons_zero, List.set_cons_succ])
      ((first | (refine wpHold_step ?_ ?_ ?_ ?_; rotate_left 1; focus (with_reducible rfl)) | (refine wpHold_yes ?_ ?_ ?_ ?_; rotate_left 1; focus rfl)); (focus (intro w hw; unfold Gives; go_simp; refine ⟨?_, hw⟩; with_reducible rfl)); (try simp only [Act.put, List.setIfInBounds_toArray, List.set_cons_zero, List.set_cons_succ]))
      ((first | (refine wpHold_step ?_ ?_ ?_ ?_; rotate_left 1; focus (with_reducible rfl)) | (refine wpHold_yes ?_ ?_ ?_ ?_; rotate_left 1; focus rfl)); (focus (intro w hw; unfold Gives; go_simp; refine ⟨?_, hw⟩; with_reducible rfl)); (try simp only [Act.put, List.setIfInBounds_toArray, List.set_cons_zero, List.set_cons_succ]))
      ((first | (refine wpHold_step ?_ ?_ ?_ ?_; rotate_left 1; focus (with_reducible rfl)) | (refine wpHold_yes ?_ ?_ ?_ ?_; rotate_left 1; focus rfl)); (focus (intro w hw; have hcell := hw.1; unfold Gives; go_simp; refine ⟨?_, hw⟩; with_reducible rfl)); (try simp only [Act.put, List.setIfInBounds_toArray, List.set_cons_zero, List.set_cons_succ]))
      refine Hd.val (.int .i64 (t0 : Int)) (by kernel_rfl) (fun w => by go_simp; all_goals first | done | rfl | (rw [if_neg (show ¬ an = 0 by omega), Int.tmod_eq_emod_of_nonneg (by omega), hmI]) | (trace_state; sorry)) ?_
      (try simp only [Act.put, List.setIfInBounds_toArray, List.set_cons_zero, List.set_cons_succ])
      refine Hd.val (.int .i64 (m : Int)) (by kernel_rfl) (fun w => by go_simp; all_goals first | done | rfl | (exact IntWalk.i64_in _ (by omega)) | (trace_state; sorry)) ?_
      (try simp only [Act.put, List.setIfInBounds_toArray, List.set_cons_zero, List.set_cons_succ])
      refine Hd.val (.int .u64 (m : Int)) (by kernel_rfl) (fun w => by go_simp; all_goals first | done | rfl | (rw [hcu]) | (trace_state; sorry)) ?_
      (try simp only [Act.put, List.setIfInBounds_toArray, List.set_cons_zero, List.set_cons_succ])
      refine Hd.val (.int .u32 (d / 2 ^ m)) (by kernel_rfl) (fun w => by go_simp; all_goals first | done | rfl | (rfl) | (trace_state; sorry)) ?_
      (try simp only [Act.put, List.setIfInBounds_toArray, List.set_cons_zero, List.set_cons_succ])
      refine Hd.val (.int .u32 (bitN bt i)) (by kernel_rfl) (fun w => by go_simp; all_goals first | done | rfl | (exact hdb) | (rw [Int.tmod_eq_emod_of_nonneg hdd0]; exact hdb) | (trace_state; sorry)) ?_
      (try simp only [Act.put, List.setIfInBounds_toArray, List.set_cons_zero, List.set_cons_succ])
      ((first | (refine wpHold_step ?_ ?_ ?_ ?_; rotate_left 1; focus (with_reducible rfl)) | (refine wpHold_yes ?_ ?_ ?_ ?_; rotate_left 1; focus rfl)); (focus (intro w hw; unfold Gives; go_simp; refine ⟨?_, hw⟩; with_reducible rfl)); (try simp only [Act.put, List.setIfInBounds_toArray, List.set_cons_zero, List.set_cons_succ]))
      refine wpHold_nil ?_
      rintro w' ⟨_, _, hw'⟩
      obtain rfl := hw'.out
      clear hw'
      rw [hbit]
      clear hcv hdb
      have hpw : ((2 ^ an : Nat) : Int) ≤ 16384 := by exact_mod_cast Nat.le_trans (Nat.pow_le_pow_right (by decide) ha14) (by decide)
      have hcu2 : IntKind.u64.wrap (an : Int) = (an : Int) := by unfold IntKind.wrap; simp [IntKind.bits, IntKind.signed]; omega
      obtain ⟨p2, hp2⟩ : ∃ p, 2 ^ an = p := ⟨_, rfl⟩
      rw [hp2] at hd1 hpw
      have hsh1 : IntKind.u32.wrap ((2 : Int) ^ an) = (p2 : Int) := by
        have e : (2 : Int) ^ an = (p2 : Int) := by rw [← hp2]; push_cast; rfl
        rw [e]; exact wrap_small _ (by omega) (by omega)
      have hge : ¬ (p2 : Int) ≤ d := by omega
      go_upto_region 15 with fail
      have hc4b : (v3.drewN q).drew.cell? ⟨w.heap.size, 4, none⟩ = some (.int .i64 an) := hc4
      have hc5b : (v3.drewN q).drew.cell? (ad2.add k0) = some (.int .u32 d) := hc5
      refine wp_region_hold (fun w' => w'.cell? ⟨w.heap.size, 4, none⟩ = some (.int .i64 an) ∧ w'.cell? (ad2.add k0) = some (.int .u32 d) ∧ RowKit.Hid (w' = (v3.drewN q).drew.drew)) (by kernel_rfl) (by kernel_rfl) ⟨hc4b, hc5b, Lib.hid rfl⟩ ?_
      ((first | (refine wpHold_step ?_ ?_ ?_ ?_; rotate_left 1; focus (with_reducible rfl)) | (refine wpHold_yes ?_ ?_ ?_ ?_; rotate_left 1; focus rfl)); (focus (intro w hw; unfold Gives; go_simp; refine ⟨?_, hw⟩; with_reducible rfl)); (try simp only [Act.put, List.setIfInBounds_toArray, List.set_cons_zero, List.set_cons_succ]))
      ((first | (refine wpHold_step ?_ ?_ ?_ ?_; rotate_left 1; focus (with_reducible rfl)) | (refine wpHold_yes ?_ ?_ ?_ ?_; rotate_left 1; focus rfl)); (focus (intro w hw; unfold Gives; go_simp; refine ⟨?_, hw⟩; with_reducible rfl)); (try simp only [Act.put, List.setIfInBounds_toArray, List.set_cons_zero, List.set_cons_succ]))
      refine Hd.val (.bool false) (by kernel_rfl) (fun w => by go_simp; all_goals first | done | rfl | (simp) | (trace_state; sorry)) ?_
      (try simp only [Act.put, List.setIfInBounds_toArray, List.set_cons_zero, List.set_cons_succ])
      ((first | (refine wpHold_step ?_ ?_ ?_ ?_; rotate_left 1; focus (with_reducible rfl)) | (refine wpHold_yes ?_ ?_ ?_ ?_; rotate_left 1; focus rfl)); (focus (intro w hw; unfold Gives; go_simp; refine ⟨?_, hw⟩; with_reducible rfl)); (try simp only [Act.put, List.setIfInBounds_toArray, List.set_cons_zero, List.set_cons_succ]))
      ((first | (refine wpHold_step ?_ ?_ ?_ ?_; rotate_left 1; focus (with_reducible rfl)) | (refine wpHold_yes ?_ ?_ ?_ ?_; rotate_left 1; focus rfl)); (focus (intro w hw; unfold Gives; go_simp; refine ⟨?_, hw⟩; with_reducible rfl)); (try simp only [Act.put, List.setIfInBounds_toArray, List.set_cons_zero, List.set_cons_succ]))
      ((first | (refine wpHold_step ?_ ?_ ?_ ?_; rotate_left 1; focus (with_reducible rfl)) | (refine wpHold_yes ?_ ?_ ?_ ?_; rotate_left 1; focus rfl)); (focus (intro w hw; unfold Gives; go_simp; refine ⟨?_, hw⟩; with_reducible rfl)); (try simp only [Act.put, List.setIfInBounds_toArray, List.set_cons_zero, List.set_cons_succ]))
      ((first | (refine wpHold_step ?_ ?_ ?_ ?_; rotate_left 1; focus (with_reducible rfl)) | (refine wpHold_yes ?_ ?_ ?_ ?_; rotate_left 1; focus rfl)); (focus (intro w hw; unfold Gives; go_simp; refine ⟨?_, hw⟩; with_reducible rfl)); (try simp only [Act.put, List.setIfInBounds_toArray, List.set_cons_zero, List.set_cons_succ]))
      ((first | (refine wpHold_step ?_ ?_ ?_ ?_; rotate_left 1; focus (with_reducible rfl)) | (refine wpHold_yes ?_ ?_ ?_ ?_; rotate_left 1; focus rfl)); (focus (intro w hw; have hcell := hw.1; unfold Gives; go_simp; refine ⟨?_, hw⟩; with_reducible rfl)); (try simp only [Act.put, List.setIfInBounds_toArray, List.set_cons_zero, List.set_cons_succ]))
      refine Hd.val (.int .i64 (k0 : Int)) (by kernel_rfl) (fun w => by go_simp; all_goals first | done | rfl | (rw [if_neg (show ¬ an = 0 by omega), IntWalk.i64_in _ (by omega)]) | (trace_state; sorry)) ?_
      (try simp only [Act.put, List.setIfInBounds_toArray, List.set_cons_zero, List.set_cons_succ])
      ((first | (refine wpHold_step ?_ ?_ ?_ ?_; rotate_left 1; focus (with_reducible rfl)) | (refine wpHold_yes ?_ ?_ ?_ ?_; rotate_left 1; focus rfl)); (focus (intro w hw; unfold Gives; go_simp; refine ⟨?_, hw⟩; with_reducible rfl)); (try simp only [Act.put, List.setIfInBounds_toArray, List.set_cons_zero, List.set_cons_succ]))
      ((first | (refine wpHold_step ?_ ?_ ?_ ?_; rotate_left 1; focus (with_reducible rfl)) | (refine wpHold_yes ?_ ?_ ?_ ?_; rotate_left 1; focus rfl)); (focus (intro w hw; have hcell := hw.2.1; unfold Gives; go_simp; refine ⟨?_, hw⟩; with_reducible rfl)); (try simp only [Act.put, List.setIfInBounds_toArray, List.set_cons_zero, List.set_cons_succ]))
      ((first | (refine wpHold_step ?_ ?_ ?_ ?_; rotate_left 1; focus (with_reducible rfl)) | (refine wpHold_yes ?_ ?_ ?_ ?_; rotate_left 1; focus rfl)); (focus (intro w hw; unfold Gives; go_simp; refine ⟨?_, hw⟩; with_reducible rfl)); (try simp only [Act.put, List.setIfInBounds_toArray, List.set_cons_zero, List.set_cons_succ]))
      ((first | (refine wpHold_step ?_ ?_ ?_ ?_; rotate_left 1; focus (with_reducible rfl)) | (refine wpHold_yes ?_ ?_ ?_ ?_; rotate_left 1; focus rfl)); (focus (intro w hw; have hcell := hw.1; unfold Gives; go_simp; refine ⟨?_, hw⟩; with_reducible rfl)); (try simp only [Act.put, List.setIfInBounds_toArray, List.set_cons_zero, List.set_cons_succ]))
      refine Hd.val (.int .u64 (an : Int)) (by kernel_rfl) (fun w => by go_simp; all_goals first | done | rfl | (rw [hcu2]) | (trace_state; sorry)) ?_
      (try simp only [Act.put, List.setIfInBounds_toArray, List.set_cons_zero, List.set_cons_succ])
      refine Hd.val (.int .u32 (p2 : Int)) (by kernel_rfl) (fun w => by go_simp; all_goals first | done | rfl | (rw [hsh1]) | (trace_state; sorry)) ?_
      (try simp only [Act.put, List.setIfInBounds_toArray, List.set_cons_zero, List.set_cons_succ])
      refine Hd.val (.bool false) (by kernel_rfl) (fun w => by go_simp; all_goals first | done | rfl | (simp; omega) | (trace_state; sorry)) ?_
      (try simp only [Act.put, List.setIfInBounds_toArray, List.set_cons_zero, List.set_cons_succ])
      ((first | (refine wpHold_step ?_ ?_ ?_ ?_; rotate_left 1; focus (with_reducible rfl)) | (refine wpHold_yes ?_ ?_ ?_ ?_; rotate_left 1; focus rfl)); (focus (intro w hw; unfold Gives; go_simp; refine ⟨?_, hw⟩; with_reducible rfl)); (try simp only [Act.put, List.setIfInBounds_toArray, List.set_cons_zero, List.set_cons_succ]))
      refine wpHold_nil ?_
      rintro w' ⟨_, _, hw'⟩
      obtain rfl := hw'.out
      clear hw' hsh1 hcu hcu2 hge
      go_wp2_with fail
      go_roundg (P - (i + 1))
      case measure => have := HGK.out; omega
      case rel => exact ⟨i + 1, q + 2, by go_num, by omega, rfl, by simp [World.drewN, World.drew]; try omega⟩
    · have hltI : (decide ((i : Int) < wrap64 ((kn : Int) * (an : Int)))) = false := by rw [HWP.out]; exact decide_eq_false (by omega)
      go_wp2_with fail
      go_ret
      exact ⟨rfl, bdr hK3 q⟩
end Go.Proofs.YtfaonieaagepjaaDoor
