/- OctetNums, walked. Conditions: the text reads as bytes. -/
import Derived.Test.YtigedohalangbaaO1J
namespace Go.Proofs.Ytigedohalangbaa
open Go.RowKit
set_option linter.unusedVariables false
set_option linter.unusedSimpArgs false

theorem beN_snoc : ∀ (l : List Int) (j : Nat), beN l (j + 1) = beN l j * 256 + gt l j := fun _ _ => rfl
theorem beN_cons (x : Int) (l : List Int) : ∀ j, beN ([x] ++ l) (j + 1) = x * 2 ^ (8 * j) + beN l j
  | 0 => by simp [beN, gt]
  | j + 1 => by
    rw [beN_snoc, beN_cons x l j, beN_snoc, gt_append_right _ _ _ (by simp)]
    have e : j + 1 - [x].length = j := by simp
    rw [e, Nat.mul_succ, Int.pow_add, show (2 : Int) ^ 8 = 256 by decide, Int.add_mul, Int.mul_assoc]
    omega
theorem modmul (v D : Int) (h : 0 ≤ v) (hD : 0 < D) : v % (D * 256) = v / D % 256 * D + v % D := by
  obtain ⟨a, rfl⟩ : ∃ a : Nat, v = a := ⟨v.toNat, by omega⟩
  obtain ⟨d, rfl⟩ : ∃ d : Nat, D = d := ⟨D.toNat, by omega⟩
  have e : a % (d * 256) = a % d + d * (a / d % 256) := Nat.mod_mul
  have e2 : ((a % (d * 256) : Nat) : Int) = ((a % d + d * (a / d % 256) : Nat) : Int) := congrArg _ e
  rw [Int.natCast_emod, Int.natCast_add, Int.natCast_mul, Int.natCast_mul, Int.natCast_emod, Int.natCast_emod, Int.natCast_ediv] at e2
  rw [show (256 : Int) = ((256 : Nat) : Int) from rfl, e2, Int.mul_comm (d : Int), Int.add_comm]
theorem beN_putL (v : Int) (h : 0 ≤ v) : ∀ n, beN (putL v n) n = v % 2 ^ (8 * n)
  | 0 => by rw [Nat.mul_zero, Int.pow_zero, Int.emod_one]; rfl
  | n + 1 => by
    rw [putL_succ, beN_cons, beN_putL v h n, Nat.mul_succ, Int.pow_add, show (2 : Int) ^ 8 = 256 by decide]
    rw [modmul v _ h (Int.pow_pos (by decide))]
/-- The digits of the number that the row is, are the row. -/
theorem putL_beN (l : List Int) (hl : Bys l) : ∀ n, n ≤ l.length → putL (beN l n) n = l.take n
  | 0, _ => by simp [putL]
  | n + 1, hn => by
    have hb := beN_bd hl n
    have hB := hl.gt n
    apply ext_gt _ _ (by rw [putL_len, List.length_take]; omega)
    intro j hj
    rw [putL_len] at hj
    rw [gt_putL _ _ _ hj, gt_take _ _ _ (by omega), beN_snoc]
    by_cases h : j = n
    · subst h
      rw [show j + 1 - 1 - j = 0 by omega]
      have := hB.1; have := hB.2
      simp; omega
    · have h1 := putL_beN l hl n (by omega)
      have h2 : gt (putL (beN l n) n) j = gt (l.take n) j := by rw [h1]
      rw [gt_putL _ _ _ (by omega), gt_take _ _ _ (by omega)] at h2
      have e1 : n + 1 - 1 - j = (n - 1 - j) + 1 := by omega
      rw [e1, Nat.mul_succ, Int.pow_add, show (2 : Int) ^ 8 = 256 by decide, Int.mul_comm (2 ^ _), ← Int.ediv_ediv_of_nonneg (by decide : (0 : Int) ≤ 256), ← h2]
      have := hB.1; have := hB.2
      have e2 : (beN l n * 256 + gt l n) / 256 = beN l n := by omega
      rw [e2]
/-- What Put gives: nothing for a count that there isn't. -/
def putZ (v n : Int) : List Int := if 0 ≤ n ∧ n ≤ 8 then putL v n.toNat else []
def SlPost (w : World) (l : List Int) (e : Ending) (w' : World) : Prop :=
  ∃ A c, e = .returned (.slice A l.length c) ∧ Rd w' w'.heap.size .u8 A l ∧ l.length ≤ c ∧ Below w.heap.size w w'
theorem putZ_B (v n : Int) : Bys (putZ v n) := by unfold putZ; split <;> first | exact putL_B _ _ | exact Bys.nil
theorem putZ_len (v n : Int) : (putZ v n).length ≤ 8 := by unfold putZ; split <;> simp [putL_len] <;> omega
theorem put_all (v n : Int) (w : World) : Calls Try.prog 26 #[.int .u64 v, .int .i64 n] w (SlPost w (putZ v n)) := by
  unfold putZ
  by_cases h : 0 ≤ n ∧ n ≤ 8
  · rw [if_pos h]
    obtain ⟨m, rfl⟩ : ∃ m : Nat, n = m := ⟨n.toNat, by omega⟩
    refine (put_any v m _ w rfl (by omega)).mono ?_
    rintro e w1 ⟨A, c, rfl, hO, hb⟩
    have e0 : (putL v (m : Int).toNat).length = m := by rw [putL_len]; omega
    refine ⟨A, c, by rw [e0], ?_, hO.len.2, hb⟩
    exact hO.rd
  · rw [if_neg h]
    refine (put_none v n w (by omega)).mono ?_
    rintro e w1 ⟨rfl, rfl⟩
    exact ⟨none, 0, rfl, Rd.nil, Nat.le_refl _, Below.refl _ _⟩
theorem rput_all (v n : Int) (w : World) (hv0 : 0 ≤ v) (hv1 : v < 18446744073709551616) : Calls Try.prog 30 #[.int .u64 v, .int .i64 n] w (SlPost w (putZ v n)) := by
  unfold putZ
  by_cases h : 0 ≤ n ∧ n ≤ 8
  · rw [if_pos h]
    obtain ⟨m, rfl⟩ : ∃ m : Nat, n = m := ⟨n.toNat, by omega⟩
    refine (rput_any v m w (by omega) hv0 hv1).mono ?_
    rintro e w1 ⟨A, c, rfl, hO, hb⟩
    have e0 : (putL v (m : Int).toNat).length = m := by rw [putL_len]; omega
    refine ⟨A, c, by rw [e0], ?_, hO.len.2, hb⟩
    exact hO.rd
  · rw [if_neg h]
    refine (rput_none v n w (by omega)).mono ?_
    rintro e w1 ⟨rfl, rfl⟩
    exact ⟨none, 0, rfl, Rd.nil, Nat.le_refl _, Below.refl _ _⟩
def getV (l : List Int) (n : Nat) : Int := if n ≤ 8 then beN l n else 0
theorem get_all (b : Bool) (x : Int) (l : List Int) (A : Option Addr) (c B n : Nat) (w : World) (hr : Rd w B .u8 A l) (hb : Bys l) (hn : l.length = n) (hx : getV l n = x) (h8 : decide (n ≤ 8) = b) :
    Calls Try.prog 27 #[.slice A n c] w fun e w' => e = .returned (.tuple #[.int .u64 x, .bool b]) ∧ w = w' := by
  subst hx h8
  unfold getV
  by_cases h : n ≤ 8
  · rw [if_pos h, decide_eq_true h]; exact get_any l A c B n w hr hb hn h
  · rw [if_neg h, decide_eq_false h]; exact get_none A n c w (by omega)
theorem rget_all (b : Bool) (x : Int) (l : List Int) (A : Option Addr) (c B n : Nat) (w : World) (hr : Rd w B .u8 A l) (hb : Bys l) (hn : l.length = n) (hx : getV l n = x) (h8 : decide (n ≤ 8) = b) :
    Calls Try.prog 28 #[.slice A n c] w fun e w' => e = .returned (.tuple #[.int .u64 x, .bool b]) ∧ w = w' := by
  subst hx h8
  unfold getV
  by_cases h : n ≤ 8
  · rw [if_pos h, decide_eq_true h]; exact rget_any l A c B n w hr hb hn h
  · rw [if_neg h, decide_eq_false h]; exact rget_none A n c w (by omega)
theorem getV_putZ (v n : Int) (h0 : 0 ≤ n) (h8 : n ≤ 8) (hv : 0 ≤ v) : getV (putZ v n) (putZ v n).length = v % 2 ^ (8 * n.toNat) := by
  unfold putZ
  rw [if_pos ⟨h0, h8⟩, putL_len]
  unfold getV
  rw [if_pos (by omega), beN_putL v hv]
theorem shl_all (v n : Int) (h : n < 8) (hv : 0 ≤ v) : ∃ D : Int, IntKind.u64.wrap (2 ^ (8 * max n 0).toNat) = D ∧ ¬ D = 0 ∧ (0 ≤ n → getV (putZ v n) (putZ v n).length = v % D) := by
  obtain ⟨m, hm⟩ : ∃ m : Nat, max n 0 = (m : Int) := ⟨(max n 0).toNat, by omega⟩
  have h7 : m ≤ 7 := by omega
  have e : (8 * max n 0).toNat = 8 * m := by omega
  have e2 : ∀ m : Nat, m ≤ 7 → IntKind.u64.wrap (2 ^ (8 * m)) = 2 ^ (8 * m) := by decide
  refine ⟨2 ^ (8 * m), by rw [e, e2 m h7], ?_, ?_⟩
  · have : (0 : Int) < 2 ^ (8 * m) := Int.pow_pos (by decide)
    omega
  · intro h0
    rw [getV_putZ v n h0 (by omega) hv, show n.toNat = m by omega]
-- WALK
set_option maxRecDepth 100000 in
set_option maxHeartbeats 1000000 in
theorem nums_neg (l : List Int) (A : Option Addr) (c : Nat) (v n : Int) (w : World) (hA : Rd w w.heap.size .u8 A l) (hlc : l.length ≤ c) (hc : c ≤ 9223372036854775807) (hbl : Bys l) (hv0 : 0 ≤ v) (hv1 : v < 18446744073709551616) (hlen : l.length ≤ 1000) (hn : n < 0) :
    Calls Try.prog 8 #[.int .u64 v, .int .i64 n, .slice A l.length c] w fun e w' => e = .returned (.bool true) ∧ Below w.heap.size w w' := by
  have hlenI : ¬ (l.length : Int) > 1000 := by omega
  obtain ⟨b8, hb8⟩ : ∃ b, decide (l.length ≤ 8) = b := ⟨_, rfl⟩
  obtain ⟨V, hV⟩ : ∃ V, getV l l.length = V := ⟨_, rfl⟩
  obtain ⟨P, hP⟩ : ∃ P, putZ v n = P := ⟨_, rfl⟩
  have h8I : n < 8 := by omega
  obtain ⟨D, hDw, hD0, hDv⟩ := shl_all v n h8I hv0
  rw [hP] at hDv
  obtain ⟨G, hG⟩ : ∃ G, getV P P.length = G := ⟨_, rfl⟩
  clear hDv
  have hP8 : P.length ≤ 8 := by rw [← hP]; exact putZ_len v n
  have hPB : Bys P := by rw [← hP]; exact putZ_B v n
  have hput := put_all v n
  have hrput := fun w => rput_all v n w hv0 hv1
  rw [hP] at hput hrput
  have hVfin : b8 = true → putZ V (l.length : Int) = l := by
    intro h
    rw [← hb8] at h
    have h8 : l.length ≤ 8 := of_decide_eq_true h
    rw [← hV]
    unfold putZ getV
    rw [if_pos h8, if_pos (by omega), Int.toNat_natCast, putL_beN l hbl _ (Nat.le_refl _), List.take_length]
  have HG := Lib.hid hG
  clear hG
  have HV := Lib.hid hV
  have HB := Lib.hid hb8
  have HP := Lib.hid hP
  have HF := Lib.hid hVfin
  clear hV hb8 hP hVfin
  go_enter Try.func8, Try.ntmps8
  go_wp2_with fail
  refine (awake1_any w).mono ?_
  rintro e w1 ⟨rfl, hb1⟩
  have hs1 := hb1.size
  have hA1 := hA.below hb1
  go_wp2_with fail
  refine (hput w1).mono ?_
  rintro e w2 ⟨A2, c2, rfl, hR2, hc2, hb2⟩
  have hb02 := hb1.trans (hb2.mono hs1)
  have hA2 := hA1.below (hb2.mono hs1)
  have hs2 := hb02.size
  clear hb2 hb1 hA1
  go_wp2_with fail
  refine (get_all b8 V l A c _ l.length w2 hA2 hbl rfl HV.out HB.out).mono ?_
  rintro e w2' ⟨rfl, rfl⟩
  go_wp2_with fail
  refine (rget_all b8 V l A c _ l.length w2 hA2 hbl rfl HV.out HB.out).mono ?_
  rintro e w2' ⟨rfl, rfl⟩
  go_wp2_with fail
  refine (hrput w2).mono ?_
  rintro e w3 ⟨A3, c3, rfl, hR3, hc3, hb3⟩
  have hb03 := hb02.trans (hb3.mono hs2)
  have hA3 := hA2.below (hb3.mono hs2)
  have hR23 := hR2.below hb3
  have hs3 := hb03.size
  clear hb3 hb02 hA2 hR2
  go_wp2_with fail
  refine (rsame_any true w3 A2 A3 P P P.length P.length c2 c3 _ _ hR23 hR3 rfl rfl (by omega) (by simp)).mono ?_
  rintro e w4 ⟨rfl, q4, rfl⟩
  have hb04 := below_drN hb03 q4
  have hA4 := hA3.drewN q4
  have hR4 := hR23.drewN q4
  generalize w3.drewN q4 = w4 at hb04 hA4 hR4 ⊢
  have hs4 := hb04.size
  clear hb03 hA3 hR23 hR3
  go_wp2_with fail
  refine (get_all true _ P A2 c2 _ P.length w4 hR4 hPB rfl HG.out (decide_eq_true hP8)).mono ?_
  rintro e w4' ⟨rfl, rfl⟩
  clear hR4
  go_wp2_with fail
  · refine (put_all V (l.length : Int) w4).mono ?_
    rintro e w5 ⟨A5, c5, rfl, hR5, hc5, hb5⟩
    rw [HF.out ‹b8 = true›] at hR5 hc5 ⊢
    have hb05 := hb04.trans (hb5.mono hs4)
    have hA5 := hA4.below (hb5.mono hs4)
    go_wp2_with fail
    refine (rsame_any true w5 A5 A l l l.length l.length c5 c _ _ hR5 hA5 rfl rfl (by omega) (by simp)).mono ?_
    rintro e w6 ⟨rfl, q6, rfl⟩
    go_wp2_with fail
    go_ret
    exact ⟨rfl, below_drN hb05 q6⟩
  · go_ret
    exact ⟨rfl, hb04⟩
set_option maxRecDepth 100000 in
set_option maxHeartbeats 1000000 in
theorem nums_lo (l : List Int) (A : Option Addr) (c : Nat) (v n : Int) (w : World) (hA : Rd w w.heap.size .u8 A l) (hlc : l.length ≤ c) (hc : c ≤ 9223372036854775807) (hbl : Bys l) (hv0 : 0 ≤ v) (hv1 : v < 18446744073709551616) (hlen : l.length ≤ 1000) (hn : 0 ≤ n) (hn8 : n < 8) :
    Calls Try.prog 8 #[.int .u64 v, .int .i64 n, .slice A l.length c] w fun e w' => e = .returned (.bool true) ∧ Below w.heap.size w w' := by
  have hlenI : ¬ (l.length : Int) > 1000 := by omega
  obtain ⟨b8, hb8⟩ : ∃ b, decide (l.length ≤ 8) = b := ⟨_, rfl⟩
  obtain ⟨V, hV⟩ : ∃ V, getV l l.length = V := ⟨_, rfl⟩
  obtain ⟨P, hP⟩ : ∃ P, putZ v n = P := ⟨_, rfl⟩
  have h8I : n < 8 := by omega
  obtain ⟨D, hDw, hD0, hDv⟩ := shl_all v n h8I hv0
  rw [hP] at hDv
  have h0I : ¬ n < 0 := by omega
  have h9I : ¬ n > 8 := by omega
  obtain ⟨G, hG⟩ : ∃ G, getV P P.length = G := ⟨_, rfl⟩
  rw [hG] at hDv
  have hGI : G = v % D := hDv (by omega)
  clear hDv
  have hP8 : P.length ≤ 8 := by rw [← hP]; exact putZ_len v n
  have hPB : Bys P := by rw [← hP]; exact putZ_B v n
  have hput := put_all v n
  have hrput := fun w => rput_all v n w hv0 hv1
  rw [hP] at hput hrput
  have hVfin : b8 = true → putZ V (l.length : Int) = l := by
    intro h
    rw [← hb8] at h
    have h8 : l.length ≤ 8 := of_decide_eq_true h
    rw [← hV]
    unfold putZ getV
    rw [if_pos h8, if_pos (by omega), Int.toNat_natCast, putL_beN l hbl _ (Nat.le_refl _), List.take_length]
  have HG := Lib.hid hG
  clear hG
  have HV := Lib.hid hV
  have HB := Lib.hid hb8
  have HP := Lib.hid hP
  have HF := Lib.hid hVfin
  clear hV hb8 hP hVfin
  go_enter Try.func8, Try.ntmps8
  go_wp2_with fail
  refine (awake1_any w).mono ?_
  rintro e w1 ⟨rfl, hb1⟩
  have hs1 := hb1.size
  have hA1 := hA.below hb1
  go_wp2_with fail
  refine (hput w1).mono ?_
  rintro e w2 ⟨A2, c2, rfl, hR2, hc2, hb2⟩
  have hb02 := hb1.trans (hb2.mono hs1)
  have hA2 := hA1.below (hb2.mono hs1)
  have hs2 := hb02.size
  clear hb2 hb1 hA1
  go_wp2_with fail
  refine (get_all b8 V l A c _ l.length w2 hA2 hbl rfl HV.out HB.out).mono ?_
  rintro e w2' ⟨rfl, rfl⟩
  go_wp2_with fail
  refine (rget_all b8 V l A c _ l.length w2 hA2 hbl rfl HV.out HB.out).mono ?_
  rintro e w2' ⟨rfl, rfl⟩
  go_wp2_with fail
  refine (hrput w2).mono ?_
  rintro e w3 ⟨A3, c3, rfl, hR3, hc3, hb3⟩
  have hb03 := hb02.trans (hb3.mono hs2)
  have hA3 := hA2.below (hb3.mono hs2)
  have hR23 := hR2.below hb3
  have hs3 := hb03.size
  clear hb3 hb02 hA2 hR2
  go_wp2_with fail
  refine (rsame_any true w3 A2 A3 P P P.length P.length c2 c3 _ _ hR23 hR3 rfl rfl (by omega) (by simp)).mono ?_
  rintro e w4 ⟨rfl, q4, rfl⟩
  have hb04 := below_drN hb03 q4
  have hA4 := hA3.drewN q4
  have hR4 := hR23.drewN q4
  generalize w3.drewN q4 = w4 at hb04 hA4 hR4 ⊢
  have hs4 := hb04.size
  clear hb03 hA3 hR23 hR3
  go_wp2_with fail
  refine (get_all true _ P A2 c2 _ P.length w4 hR4 hPB rfl HG.out (decide_eq_true hP8)).mono ?_
  rintro e w4' ⟨rfl, rfl⟩
  clear hR4
  go_wp2_with fail
  · refine (put_all V (l.length : Int) w4).mono ?_
    rintro e w5 ⟨A5, c5, rfl, hR5, hc5, hb5⟩
    rw [HF.out ‹b8 = true›] at hR5 hc5 ⊢
    have hb05 := hb04.trans (hb5.mono hs4)
    have hA5 := hA4.below (hb5.mono hs4)
    go_wp2_with fail
    refine (rsame_any true w5 A5 A l l l.length l.length c5 c _ _ hR5 hA5 rfl rfl (by omega) (by simp)).mono ?_
    rintro e w6 ⟨rfl, q6, rfl⟩
    go_wp2_with fail
    go_ret
    exact ⟨rfl, below_drN hb05 q6⟩
  · go_ret
    exact ⟨rfl, hb04⟩
set_option maxRecDepth 100000 in
set_option maxHeartbeats 1000000 in
theorem nums_8 (l : List Int) (A : Option Addr) (c : Nat) (v n : Int) (w : World) (hA : Rd w w.heap.size .u8 A l) (hlc : l.length ≤ c) (hc : c ≤ 9223372036854775807) (hbl : Bys l) (hv0 : 0 ≤ v) (hv1 : v < 18446744073709551616) (hlen : l.length ≤ 1000) (hn : n = 8) :
    Calls Try.prog 8 #[.int .u64 v, .int .i64 n, .slice A l.length c] w fun e w' => e = .returned (.bool true) ∧ Below w.heap.size w w' := by
  have hlenI : ¬ (l.length : Int) > 1000 := by omega
  obtain ⟨b8, hb8⟩ : ∃ b, decide (l.length ≤ 8) = b := ⟨_, rfl⟩
  obtain ⟨V, hV⟩ : ∃ V, getV l l.length = V := ⟨_, rfl⟩
  obtain ⟨P, hP⟩ : ∃ P, putZ v n = P := ⟨_, rfl⟩
  have h8I : ¬ n < 8 := by omega
  have h0I : ¬ n < 0 := by omega
  have h9I : ¬ n > 8 := by omega
  obtain ⟨G, hG⟩ : ∃ G, getV P P.length = G := ⟨_, rfl⟩
  obtain rfl : v = G := by
    rw [← hG, ← hP, getV_putZ v n (by omega) (by omega) hv0, hn]
    have e8 : (8 : Int).toNat = 8 := by decide
    have e64 : (2 : Int) ^ (8 * 8) = 18446744073709551616 := by decide
    rw [e8, e64]
    omega
  clear hn
  have hP8 : P.length ≤ 8 := by rw [← hP]; exact putZ_len v n
  have hPB : Bys P := by rw [← hP]; exact putZ_B v n
  have hput := put_all v n
  have hrput := fun w => rput_all v n w hv0 hv1
  rw [hP] at hput hrput
  have hVfin : b8 = true → putZ V (l.length : Int) = l := by
    intro h
    rw [← hb8] at h
    have h8 : l.length ≤ 8 := of_decide_eq_true h
    rw [← hV]
    unfold putZ getV
    rw [if_pos h8, if_pos (by omega), Int.toNat_natCast, putL_beN l hbl _ (Nat.le_refl _), List.take_length]
  have HG := Lib.hid hG
  clear hG
  have HV := Lib.hid hV
  have HB := Lib.hid hb8
  have HP := Lib.hid hP
  have HF := Lib.hid hVfin
  clear hV hb8 hP hVfin
  go_enter Try.func8, Try.ntmps8
  go_wp2_with fail
  refine (awake1_any w).mono ?_
  rintro e w1 ⟨rfl, hb1⟩
  have hs1 := hb1.size
  have hA1 := hA.below hb1
  go_wp2_with fail
  refine (hput w1).mono ?_
  rintro e w2 ⟨A2, c2, rfl, hR2, hc2, hb2⟩
  have hb02 := hb1.trans (hb2.mono hs1)
  have hA2 := hA1.below (hb2.mono hs1)
  have hs2 := hb02.size
  clear hb2 hb1 hA1
  go_wp2_with fail
  refine (get_all b8 V l A c _ l.length w2 hA2 hbl rfl HV.out HB.out).mono ?_
  rintro e w2' ⟨rfl, rfl⟩
  go_wp2_with fail
  refine (rget_all b8 V l A c _ l.length w2 hA2 hbl rfl HV.out HB.out).mono ?_
  rintro e w2' ⟨rfl, rfl⟩
  go_wp2_with fail
  refine (hrput w2).mono ?_
  rintro e w3 ⟨A3, c3, rfl, hR3, hc3, hb3⟩
  have hb03 := hb02.trans (hb3.mono hs2)
  have hA3 := hA2.below (hb3.mono hs2)
  have hR23 := hR2.below hb3
  have hs3 := hb03.size
  clear hb3 hb02 hA2 hR2
  go_wp2_with fail
  refine (rsame_any true w3 A2 A3 P P P.length P.length c2 c3 _ _ hR23 hR3 rfl rfl (by omega) (by simp)).mono ?_
  rintro e w4 ⟨rfl, q4, rfl⟩
  have hb04 := below_drN hb03 q4
  have hA4 := hA3.drewN q4
  have hR4 := hR23.drewN q4
  generalize w3.drewN q4 = w4 at hb04 hA4 hR4 ⊢
  have hs4 := hb04.size
  clear hb03 hA3 hR23 hR3
  go_wp2_with fail
  refine (get_all true _ P A2 c2 _ P.length w4 hR4 hPB rfl HG.out (decide_eq_true hP8)).mono ?_
  rintro e w4' ⟨rfl, rfl⟩
  clear hR4
  go_wp2_with fail
  · refine (put_all V (l.length : Int) w4).mono ?_
    rintro e w5 ⟨A5, c5, rfl, hR5, hc5, hb5⟩
    rw [HF.out ‹b8 = true›] at hR5 hc5 ⊢
    have hb05 := hb04.trans (hb5.mono hs4)
    have hA5 := hA4.below (hb5.mono hs4)
    go_wp2_with fail
    refine (rsame_any true w5 A5 A l l l.length l.length c5 c _ _ hR5 hA5 rfl rfl (by omega) (by simp)).mono ?_
    rintro e w6 ⟨rfl, q6, rfl⟩
    go_wp2_with fail
    go_ret
    exact ⟨rfl, below_drN hb05 q6⟩
  · go_ret
    exact ⟨rfl, hb04⟩
set_option maxRecDepth 100000 in
set_option maxHeartbeats 1000000 in
theorem nums_hi (l : List Int) (A : Option Addr) (c : Nat) (v n : Int) (w : World) (hA : Rd w w.heap.size .u8 A l) (hlc : l.length ≤ c) (hc : c ≤ 9223372036854775807) (hbl : Bys l) (hv0 : 0 ≤ v) (hv1 : v < 18446744073709551616) (hlen : l.length ≤ 1000) (hn : 8 < n) :
    Calls Try.prog 8 #[.int .u64 v, .int .i64 n, .slice A l.length c] w fun e w' => e = .returned (.bool true) ∧ Below w.heap.size w w' := by
  have hlenI : ¬ (l.length : Int) > 1000 := by omega
  obtain ⟨b8, hb8⟩ : ∃ b, decide (l.length ≤ 8) = b := ⟨_, rfl⟩
  obtain ⟨V, hV⟩ : ∃ V, getV l l.length = V := ⟨_, rfl⟩
  obtain ⟨P, hP⟩ : ∃ P, putZ v n = P := ⟨_, rfl⟩
  have h8I : ¬ n < 8 := by omega
  have h0I : ¬ n < 0 := by omega
  have h9I : n > 8 := by omega
  obtain ⟨G, hG⟩ : ∃ G, getV P P.length = G := ⟨_, rfl⟩

  have hP8 : P.length ≤ 8 := by rw [← hP]; exact putZ_len v n
  have hPB : Bys P := by rw [← hP]; exact putZ_B v n
  have hput := put_all v n
  have hrput := fun w => rput_all v n w hv0 hv1
  rw [hP] at hput hrput
  have hVfin : b8 = true → putZ V (l.length : Int) = l := by
    intro h
    rw [← hb8] at h
    have h8 : l.length ≤ 8 := of_decide_eq_true h
    rw [← hV]
    unfold putZ getV
    rw [if_pos h8, if_pos (by omega), Int.toNat_natCast, putL_beN l hbl _ (Nat.le_refl _), List.take_length]
  have HG := Lib.hid hG
  clear hG
  have HV := Lib.hid hV
  have HB := Lib.hid hb8
  have HP := Lib.hid hP
  have HF := Lib.hid hVfin
  clear hV hb8 hP hVfin
  go_enter Try.func8, Try.ntmps8
  go_wp2_with fail
  refine (awake1_any w).mono ?_
  rintro e w1 ⟨rfl, hb1⟩
  have hs1 := hb1.size
  have hA1 := hA.below hb1
  go_wp2_with fail
  refine (hput w1).mono ?_
  rintro e w2 ⟨A2, c2, rfl, hR2, hc2, hb2⟩
  have hb02 := hb1.trans (hb2.mono hs1)
  have hA2 := hA1.below (hb2.mono hs1)
  have hs2 := hb02.size
  clear hb2 hb1 hA1
  go_wp2_with fail
  refine (get_all b8 V l A c _ l.length w2 hA2 hbl rfl HV.out HB.out).mono ?_
  rintro e w2' ⟨rfl, rfl⟩
  go_wp2_with fail
  refine (rget_all b8 V l A c _ l.length w2 hA2 hbl rfl HV.out HB.out).mono ?_
  rintro e w2' ⟨rfl, rfl⟩
  go_wp2_with fail
  refine (hrput w2).mono ?_
  rintro e w3 ⟨A3, c3, rfl, hR3, hc3, hb3⟩
  have hb03 := hb02.trans (hb3.mono hs2)
  have hA3 := hA2.below (hb3.mono hs2)
  have hR23 := hR2.below hb3
  have hs3 := hb03.size
  clear hb3 hb02 hA2 hR2
  go_wp2_with fail
  refine (rsame_any true w3 A2 A3 P P P.length P.length c2 c3 _ _ hR23 hR3 rfl rfl (by omega) (by simp)).mono ?_
  rintro e w4 ⟨rfl, q4, rfl⟩
  have hb04 := below_drN hb03 q4
  have hA4 := hA3.drewN q4
  have hR4 := hR23.drewN q4
  generalize w3.drewN q4 = w4 at hb04 hA4 hR4 ⊢
  have hs4 := hb04.size
  clear hb03 hA3 hR23 hR3
  go_wp2_with fail
  refine (get_all true _ P A2 c2 _ P.length w4 hR4 hPB rfl HG.out (decide_eq_true hP8)).mono ?_
  rintro e w4' ⟨rfl, rfl⟩
  clear hR4
  go_wp2_with fail
  · refine (put_all V (l.length : Int) w4).mono ?_
    rintro e w5 ⟨A5, c5, rfl, hR5, hc5, hb5⟩
    rw [HF.out ‹b8 = true›] at hR5 hc5 ⊢
    have hb05 := hb04.trans (hb5.mono hs4)
    have hA5 := hA4.below (hb5.mono hs4)
    go_wp2_with fail
    refine (rsame_any true w5 A5 A l l l.length l.length c5 c _ _ hR5 hA5 rfl rfl (by omega) (by simp)).mono ?_
    rintro e w6 ⟨rfl, q6, rfl⟩
    go_wp2_with fail
    go_ret
    exact ⟨rfl, below_drN hb05 q6⟩
  · go_ret
    exact ⟨rfl, hb04⟩
theorem nums_walk (l : List Int) (A : Option Addr) (c : Nat) (v n : Int) (w : World) (hA : Rd w w.heap.size .u8 A l) (hlc : l.length ≤ c) (hc : c ≤ 9223372036854775807) (hbl : Bys l) (hv0 : 0 ≤ v) (hv1 : v < 18446744073709551616) :
    Calls Try.prog 8 #[.int .u64 v, .int .i64 n, .slice A l.length c] w fun e w' => e = .returned (.bool true) ∧ Below w.heap.size w w' := by
  by_cases hlen : l.length ≤ 1000
  · rcases Int.lt_trichotomy n 8 with h | h | h
    · by_cases h0 : n < 0
      · exact nums_neg l A c v n w hA hlc hc hbl hv0 hv1 hlen h0
      · exact nums_lo l A c v n w hA hlc hc hbl hv0 hv1 hlen (by omega) h
    · exact nums_8 l A c v n w hA hlc hc hbl hv0 hv1 hlen h
    · exact nums_hi l A c v n w hA hlc hc hbl hv0 hv1 hlen h
  · have hlenI : (l.length : Int) > 1000 := by omega
    clear hlen
    go_enter Try.func8, Try.ntmps8
    go_wp2_with fail
    refine (awake1_any w).mono ?_
    rintro e w1 ⟨rfl, hb1⟩
    go_wp2_with fail
    go_ret
    exact ⟨rfl, hb1⟩
end Go.Proofs.Ytigedohalangbaa
