/- DigitsBack, walked. Conditions: the text reads as bytes. -/
import Derived.Test.YtigedohalangbaaD7L
namespace Go.Proofs.Ytigedohalangbaa
open Go.RowKit
set_option linter.unusedVariables false
set_option linter.unusedSimpArgs false

theorem back_bd (c : Int) (w : Nat) : ∀ k, 0 ≤ back c w k ∧ back c w k < 2 ^ (w * k)
  | 0 => by simp [back]
  | k + 1 => by
    have h := back_bd c w k
    have hd := dig_bd c w k
    rw [back, Nat.mul_succ, Int.pow_add]
    have hp : (0 : Int) < 2 ^ w := Int.pow_pos (by decide)
    have h1 : 0 ≤ back c w k * 2 ^ w := Int.mul_nonneg h.1 (Int.le_of_lt hp)
    have h2 : (back c w k + 1) * 2 ^ w ≤ 2 ^ (w * k) * 2 ^ w := Int.mul_le_mul_of_nonneg_right (by omega) (Int.le_of_lt hp)
    rw [Int.add_mul] at h2
    omega
theorem back_bd8 (c : Int) (w k : Nat) (h : w * k ≤ 8) : 0 ≤ back c w k ∧ back c w k < 256 := by
  have h1 := back_bd c w k
  have h2 : (2 : Nat) ^ (w * k) ≤ 2 ^ 8 := Nat.pow_le_pow_right (by decide) h
  have h3 := Int.ofNat_le.2 h2
  rw [show ((2 ^ (w * k) : Nat) : Int) = (2 : Int) ^ (w * k) from Int.natCast_pow 2 _, show ((2 ^ 8 : Nat) : Int) = 256 from rfl] at h3
  omega
theorem back_all' (w : Nat) (hw : IsW w) (c : Int) (hc : B8 c) : back c w (8 / w) = c := by
  obtain ⟨n, rfl⟩ : ∃ n : Nat, c = n := ⟨c.toNat, by have := hc.1; omega⟩
  exact back_all w hw n (by have := hc.2; omega)

set_option maxRecDepth 100000 in
set_option maxHeartbeats 1000000 in
theorem back7_1 (l : List Int) (A : Option Addr) (c : Nat) (x : Nat) (w : World) (hr : Rd w w.heap.size .u8 A l) (hlc : l.length ≤ c) (hc : c ≤ 9223372036854775807) (hby : Bys l) (hx1 : (x : Int) < 256) (hq : x % 4 = 0) :
    Calls Try.prog 5 #[.slice A l.length c, .int .u8 x] w fun e w' => e = .returned (.bool true) ∧ Below w.heap.size w w' := by
  have hqI : ((x : Int) % 4) = 0 := by omega
  obtain ⟨L, hL⟩ : ∃ L, l.length = L := ⟨_, rfl⟩
  rw [hL] at hlc ⊢
  have HL := Lib.hid hL
  clear hL hq
  go_enter Try.func5, Try.ntmps5
  go_wp2_with fail
  (with_reducible refine (awake7_any w).mono ?_)
  rintro e w1 ⟨rfl, hb1⟩
  have hr1 := hr.below hb1
  have hs1 := hb1.size
  by_cases h3 : 2000 < L
  · have h3I : (L : Int) > 2000 := by omega
    go_wp2_with fail
    go_ret
    exact ⟨rfl, hb1⟩
  · have h3I : ¬ (L : Int) > 2000 := by omega
    have hLL : L ≤ 2000 := by omega
    have hK2 : Below w.heap.size w (w1.alloc (.cells #[.int .i64 1, .int .i64 2, .int .i64 4, .int .i64 8] 3)) := hb1.alloc hs1 _
    have hW4 : Arr (w1.alloc (.cells #[.int .i64 1, .int .i64 2, .int .i64 4, .int .i64 8] 3)) w1.heap.size 3 .i64 [1, 2, 4, 8] := Arr.new w1 3 .i64 [1, 2, 4, 8]
    have hcl : (w1.alloc (.cells #[.int .i64 1, .int .i64 2, .int .i64 4, .int .i64 8] 3)).cell? ⟨w1.heap.size, 0, none⟩ = some (.int .i64 1) := hW4.cell 0 (by decide)
    clear h3 h3I hW4
    go_wp2_with fail
    obtain ⟨w2, hw2⟩ : ∃ w2, w1.alloc (.cells #[.int .i64 1, .int .i64 2, .int .i64 4, .int .i64 8] 3) = w2 := ⟨_, rfl⟩
    rw [hw2] at hK2 ⊢
    have hs2 := hK2.size
    clear hw2 hcl
    have hr2 := (hr.below hK2).more hs2
    have hO := of_any l A L c 1 w2 (.inl rfl) HL.out (by omega) hby hr2
    obtain ⟨N, hN⟩ : ∃ N, (digL l 1).length = N := ⟨_, rfl⟩
    have hN2 : N = 8 * L := by rw [← hN, digL_len, HL.out]
    have hgd : ∀ i k, i < L → k < 8 → gt (digL l 1) (8 * i + k) = dig (gt l i) 1 k := fun i k hi hk => by
      rw [gt_digL _ _ _ (by rw [HL.out]; omega)]
      rw [show (8 * i + k) / (8 / 1) = i by omega, show (8 * i + k) % (8 / 1) = k by omega]
    have hres : lackN (digL l 1) 1 N = lackOf l 1 := by rw [lackOf, ← hN, digL_len]
    obtain ⟨D, hD⟩ : ∃ D, digL l 1 = D := ⟨_, rfl⟩
    have hnn := digL_nn l 1
    have hlt := digL_lt l 1
    unfold OfPost at hO
    rw [hD] at hO hN hnn hlt hgd hres
    rw [hN] at hO
    have HN := Lib.hid hN
    have HNN := Lib.hid hnn
    have HLT := Lib.hid hlt
    have HGD := Lib.hid hgd
    have HRES := Lib.hid hres
    have hNne : ((N : Int) != 8 * (L : Int)) = false := by simp; omega
    have HN2 := Lib.hid hN2
    clear hD hN hN2 hnn hlt hres hgd hb1 hr1 hr2
    refine hO.mono ?_
    rintro e w3 ⟨A3, c3, rfl, hO3, hb3⟩
    have hK3 : Below w.heap.size w w3 := hK2.trans (hb3.mono hs2)
    have hs3 := hK3.size
    have hR3 := hO3.rd
    have hr3 := (hr.below hK3).more hs3
    clear hO hO3 hb3 hK2 hs2
    go_wp2_with fail
    go_loopg [8, 9, 10, 11, 12] L (fun g s8 s9 _ _ _ wr => wr = w3 ∧ ∃ i : Nat, s9 = .int .i64 i ∧ g = L - i ∧ i ≤ L ∧ s8 = .int .i64 (lackN D 1 (8 * i)))
    case atStart => exact ⟨rfl, 0, rfl, rfl, Nat.zero_le _, rfl⟩
    case round =>
      obtain ⟨rfl, i, rfl, hg, hi, rfl⟩ := hrel
      have HG := Lib.hid hg
      clear hg
      by_cases hli : i < L
      · have hliI : (i : Int) < (L : Int) := by omega
        obtain ⟨ad, rfl, hadB, hca⟩ := hr3.at_ (i := i) (by have := HL.out; omega)
        have hyb := hby.gt i
        obtain ⟨y, hy⟩ : ∃ y, gt l i = y := ⟨_, rfl⟩
        rw [hy] at hca hyb
        have hyb0 := hyb.1
        have hyb1 := hyb.2
        have hbk := back_all' 1 (.inl rfl) y hyb
        have HBK := Lib.hid hbk
        have HY := Lib.hid hy
        clear hy hyb hbk
        go_wp2_with fail
        obtain ⟨wo, rfl⟩ : ∃ wo : World, wo = wr := ⟨_, rfl⟩
        go_loopg [8, 10, 11, 12] 8 (fun g s8 s10 s11 _ wr => wr = wo ∧ ∃ k : Nat, s11 = .int .i64 k ∧ g = 8 - k ∧ k ≤ 8 ∧ s8 = .int .i64 (lackN D 1 (8 * i + k)) ∧ s10 = .int .i64 (back y 1 k))
        case atStart => exact ⟨rfl, 0, rfl, rfl, Nat.zero_le _, rfl, rfl⟩
        case round =>
          obtain ⟨rfl, k, rfl, hg, hk, rfl, rfl⟩ := hrel
          have HG2 := Lib.hid hg
          have hlb := lackN_le D 1 HNN.out (8 * i + k)
          have hlb0 := lackN_nn D 1 HLT.out (8 * i + k)
          rw [show ((2 : Int) ^ 1 - 1) = 1 by decide] at hlb
          have hbb := back_bd8 y 1 k (by omega)
          obtain ⟨z, hz⟩ : ∃ z, lackN D 1 (8 * i + k) = z := ⟨_, rfl⟩
          obtain ⟨v, hv⟩ : ∃ v, back y 1 k = v := ⟨_, rfl⟩
          rw [hz] at hlb hlb0 ⊢
          rw [hv] at hbb ⊢
          have hz1 : z ≤ 10000000 := by omega
          have hv0 := hbb.1
          have hv1 := hbb.2
          have HZ := Lib.hid hz
          have HV := Lib.hid hv
          clear hg hz hv hbb hlb
          by_cases hkp : k < 8
          · have hkI : (k : Int) < 8 := by omega
            obtain ⟨p, hp⟩ : ∃ p, 8 * i + k = p := ⟨_, rfl⟩
            have hpN : p < N := by have := HN2.out; omega
            have hpI : (p : Int) < (N : Int) := by omega
            have hpe : ((i : Int) * 8 + (k : Int)) = (p : Int) := by omega
            have hpe2 : ((i : Int) + (k : Int)) = ((i : Int) + (k : Int)) := rfl
            obtain ⟨a3, rfl, _, hcd⟩ := hR3.at_ (i := p) (by have := HN.out; omega)
            have hgk := HGD.out i k hli hkp
            rw [HY.out, hp] at hgk
            have hdb := dig_bd y 1 k
            obtain ⟨d, hd⟩ : ∃ d, dig y 1 k = d := ⟨_, rfl⟩
            rw [hd] at hgk hdb
            rw [hgk] at hcd
            have hd0 := hdb.1
            have hd1 : d < 2 := by have := hdb.2; rw [show (2 : Int) ^ 1 = 2 by decide] at this; exact this
            have hd2 : ¬ d < 0 := by omega
            have hd3 : ¬ d ≥ 2 := by omega
            have hnl : lackN D 1 (8 * i + (k + 1)) = z + 1 - d := by
              rw [← Nat.add_assoc, lackN, HZ.out, show 8 * i + k = p from hp, hgk, show ((2 : Int) ^ 1 - 1) = 1 by decide]; omega
            have hnb : back y 1 (k + 1) = v * 2 + d := by rw [back, HV.out, hd, show (2 : Int) ^ 1 = 2 by decide]
            have HNL := Lib.hid hnl
            have HNB := Lib.hid hnb
            clear hpe2 hgk hdb hd hp hnl hnb
            go_wp2_with fail
            go_roundg (8 - (k + 1))
            case measure => have := HG2.out; omega
            case rel => exact ⟨rfl, k + 1, by go_num, rfl, by omega, by rw [HNL.out]; congr 1; omega, by rw [HNB.out]⟩
          · have hkI : ¬ (k : Int) < 8 := by omega
            obtain rfl : k = 8 := by omega
            have hvy : v = y := by rw [← HV.out]; exact HBK.out
            subst hvy
            go_wp2_with fail
            go_roundg (L - (i + 1))
            case measure => have := HG.out; omega
            case rel => exact ⟨rfl, i + 1, by go_num, rfl, by omega, by rw [← HZ.out]; rfl⟩
      · have hliI : ¬ (i : Int) < (L : Int) := by omega
        obtain rfl : i = L := by omega
        have hzz : lackN D 1 (8 * i) = lackOf l 1 := by rw [← HRES.out, HN2.out]
        rw [hzz]
        have hLk := lack_any l A i c 1 wr (.inl rfl) HL.out (by omega) hby hr3
        obtain ⟨z, hz⟩ : ∃ z, lackOf l 1 = z := ⟨_, rfl⟩
        rw [hz] at hLk ⊢
        clear hz hzz
        go_wp2_with fail
        refine hLk.mono ?_
        rintro e w4 ⟨rfl, hb4⟩
        clear hLk
        go_wp2_with fail
        go_ret
        exact ⟨by simp, hK3.trans (hb4.mono hs3)⟩

set_option maxRecDepth 100000 in
set_option maxHeartbeats 1000000 in
theorem back7_2 (l : List Int) (A : Option Addr) (c : Nat) (x : Nat) (w : World) (hr : Rd w w.heap.size .u8 A l) (hlc : l.length ≤ c) (hc : c ≤ 9223372036854775807) (hby : Bys l) (hx1 : (x : Int) < 256) (hq : x % 4 = 1) :
    Calls Try.prog 5 #[.slice A l.length c, .int .u8 x] w fun e w' => e = .returned (.bool true) ∧ Below w.heap.size w w' := by
  have hqI : ((x : Int) % 4) = 1 := by omega
  obtain ⟨L, hL⟩ : ∃ L, l.length = L := ⟨_, rfl⟩
  rw [hL] at hlc ⊢
  have HL := Lib.hid hL
  clear hL hq
  go_enter Try.func5, Try.ntmps5
  go_wp2_with fail
  (with_reducible refine (awake7_any w).mono ?_)
  rintro e w1 ⟨rfl, hb1⟩
  have hr1 := hr.below hb1
  have hs1 := hb1.size
  by_cases h3 : 2000 < L
  · have h3I : (L : Int) > 2000 := by omega
    go_wp2_with fail
    go_ret
    exact ⟨rfl, hb1⟩
  · have h3I : ¬ (L : Int) > 2000 := by omega
    have hLL : L ≤ 2000 := by omega
    have hK2 : Below w.heap.size w (w1.alloc (.cells #[.int .i64 1, .int .i64 2, .int .i64 4, .int .i64 8] 3)) := hb1.alloc hs1 _
    have hW4 : Arr (w1.alloc (.cells #[.int .i64 1, .int .i64 2, .int .i64 4, .int .i64 8] 3)) w1.heap.size 3 .i64 [1, 2, 4, 8] := Arr.new w1 3 .i64 [1, 2, 4, 8]
    have hcl : (w1.alloc (.cells #[.int .i64 1, .int .i64 2, .int .i64 4, .int .i64 8] 3)).cell? ⟨w1.heap.size, 1, none⟩ = some (.int .i64 2) := hW4.cell 1 (by decide)
    clear h3 h3I hW4
    go_wp2_with fail
    obtain ⟨w2, hw2⟩ : ∃ w2, w1.alloc (.cells #[.int .i64 1, .int .i64 2, .int .i64 4, .int .i64 8] 3) = w2 := ⟨_, rfl⟩
    rw [hw2] at hK2 ⊢
    have hs2 := hK2.size
    clear hw2 hcl
    have hr2 := (hr.below hK2).more hs2
    have hO := of_any l A L c 2 w2 (.inr (.inl rfl)) HL.out (by omega) hby hr2
    obtain ⟨N, hN⟩ : ∃ N, (digL l 2).length = N := ⟨_, rfl⟩
    have hN2 : N = 4 * L := by rw [← hN, digL_len, HL.out]
    have hgd : ∀ i k, i < L → k < 4 → gt (digL l 2) (4 * i + k) = dig (gt l i) 2 k := fun i k hi hk => by
      rw [gt_digL _ _ _ (by rw [HL.out]; omega)]
      rw [show (4 * i + k) / (8 / 2) = i by omega, show (4 * i + k) % (8 / 2) = k by omega]
    have hres : lackN (digL l 2) 2 N = lackOf l 2 := by rw [lackOf, ← hN, digL_len]
    obtain ⟨D, hD⟩ : ∃ D, digL l 2 = D := ⟨_, rfl⟩
    have hnn := digL_nn l 2
    have hlt := digL_lt l 2
    unfold OfPost at hO
    rw [hD] at hO hN hnn hlt hgd hres
    rw [hN] at hO
    have HN := Lib.hid hN
    have HNN := Lib.hid hnn
    have HLT := Lib.hid hlt
    have HGD := Lib.hid hgd
    have HRES := Lib.hid hres
    have hNne : ((N : Int) != 4 * (L : Int)) = false := by simp; omega
    have HN2 := Lib.hid hN2
    clear hD hN hN2 hnn hlt hres hgd hb1 hr1 hr2
    refine hO.mono ?_
    rintro e w3 ⟨A3, c3, rfl, hO3, hb3⟩
    have hK3 : Below w.heap.size w w3 := hK2.trans (hb3.mono hs2)
    have hs3 := hK3.size
    have hR3 := hO3.rd
    have hr3 := (hr.below hK3).more hs3
    clear hO hO3 hb3 hK2 hs2
    go_wp2_with fail
    go_loopg [8, 9, 10, 11, 12] L (fun g s8 s9 _ _ _ wr => wr = w3 ∧ ∃ i : Nat, s9 = .int .i64 i ∧ g = L - i ∧ i ≤ L ∧ s8 = .int .i64 (lackN D 2 (4 * i)))
    case atStart => exact ⟨rfl, 0, rfl, rfl, Nat.zero_le _, rfl⟩
    case round =>
      obtain ⟨rfl, i, rfl, hg, hi, rfl⟩ := hrel
      have HG := Lib.hid hg
      clear hg
      by_cases hli : i < L
      · have hliI : (i : Int) < (L : Int) := by omega
        obtain ⟨ad, rfl, hadB, hca⟩ := hr3.at_ (i := i) (by have := HL.out; omega)
        have hyb := hby.gt i
        obtain ⟨y, hy⟩ : ∃ y, gt l i = y := ⟨_, rfl⟩
        rw [hy] at hca hyb
        have hyb0 := hyb.1
        have hyb1 := hyb.2
        have hbk := back_all' 2 (.inr (.inl rfl)) y hyb
        have HBK := Lib.hid hbk
        have HY := Lib.hid hy
        clear hy hyb hbk
        go_wp2_with fail
        obtain ⟨wo, rfl⟩ : ∃ wo : World, wo = wr := ⟨_, rfl⟩
        go_loopg [8, 10, 11, 12] 4 (fun g s8 s10 s11 _ wr => wr = wo ∧ ∃ k : Nat, s11 = .int .i64 k ∧ g = 4 - k ∧ k ≤ 4 ∧ s8 = .int .i64 (lackN D 2 (4 * i + k)) ∧ s10 = .int .i64 (back y 2 k))
        case atStart => exact ⟨rfl, 0, rfl, rfl, Nat.zero_le _, rfl, rfl⟩
        case round =>
          obtain ⟨rfl, k, rfl, hg, hk, rfl, rfl⟩ := hrel
          have HG2 := Lib.hid hg
          have hlb := lackN_le D 2 HNN.out (4 * i + k)
          have hlb0 := lackN_nn D 2 HLT.out (4 * i + k)
          rw [show ((2 : Int) ^ 2 - 1) = 3 by decide] at hlb
          have hbb := back_bd8 y 2 k (by omega)
          obtain ⟨z, hz⟩ : ∃ z, lackN D 2 (4 * i + k) = z := ⟨_, rfl⟩
          obtain ⟨v, hv⟩ : ∃ v, back y 2 k = v := ⟨_, rfl⟩
          rw [hz] at hlb hlb0 ⊢
          rw [hv] at hbb ⊢
          have hz1 : z ≤ 10000000 := by omega
          have hv0 := hbb.1
          have hv1 := hbb.2
          have HZ := Lib.hid hz
          have HV := Lib.hid hv
          clear hg hz hv hbb hlb
          by_cases hkp : k < 4
          · have hkI : (k : Int) < 4 := by omega
            obtain ⟨p, hp⟩ : ∃ p, 4 * i + k = p := ⟨_, rfl⟩
            have hpN : p < N := by have := HN2.out; omega
            have hpI : (p : Int) < (N : Int) := by omega
            have hpe : ((i : Int) * 4 + (k : Int)) = (p : Int) := by omega
            have hpe2 : ((i : Int) + (k : Int)) = ((i : Int) + (k : Int)) := rfl
            obtain ⟨a3, rfl, _, hcd⟩ := hR3.at_ (i := p) (by have := HN.out; omega)
            have hgk := HGD.out i k hli hkp
            rw [HY.out, hp] at hgk
            have hdb := dig_bd y 2 k
            obtain ⟨d, hd⟩ : ∃ d, dig y 2 k = d := ⟨_, rfl⟩
            rw [hd] at hgk hdb
            rw [hgk] at hcd
            have hd0 := hdb.1
            have hd1 : d < 4 := by have := hdb.2; rw [show (2 : Int) ^ 2 = 4 by decide] at this; exact this
            have hd2 : ¬ d < 0 := by omega
            have hd3 : ¬ d ≥ 4 := by omega
            have hnl : lackN D 2 (4 * i + (k + 1)) = z + 3 - d := by
              rw [← Nat.add_assoc, lackN, HZ.out, show 4 * i + k = p from hp, hgk, show ((2 : Int) ^ 2 - 1) = 3 by decide]; omega
            have hnb : back y 2 (k + 1) = v * 4 + d := by rw [back, HV.out, hd, show (2 : Int) ^ 2 = 4 by decide]
            have HNL := Lib.hid hnl
            have HNB := Lib.hid hnb
            clear hpe2 hgk hdb hd hp hnl hnb
            go_wp2_with fail
            go_roundg (4 - (k + 1))
            case measure => have := HG2.out; omega
            case rel => exact ⟨rfl, k + 1, by go_num, rfl, by omega, by rw [HNL.out]; congr 1; omega, by rw [HNB.out]⟩
          · have hkI : ¬ (k : Int) < 4 := by omega
            obtain rfl : k = 4 := by omega
            have hvy : v = y := by rw [← HV.out]; exact HBK.out
            subst hvy
            go_wp2_with fail
            go_roundg (L - (i + 1))
            case measure => have := HG.out; omega
            case rel => exact ⟨rfl, i + 1, by go_num, rfl, by omega, by rw [← HZ.out]; rfl⟩
      · have hliI : ¬ (i : Int) < (L : Int) := by omega
        obtain rfl : i = L := by omega
        have hzz : lackN D 2 (4 * i) = lackOf l 2 := by rw [← HRES.out, HN2.out]
        rw [hzz]
        have hLk := lack_any l A i c 2 wr (.inr (.inl rfl)) HL.out (by omega) hby hr3
        obtain ⟨z, hz⟩ : ∃ z, lackOf l 2 = z := ⟨_, rfl⟩
        rw [hz] at hLk ⊢
        clear hz hzz
        go_wp2_with fail
        refine hLk.mono ?_
        rintro e w4 ⟨rfl, hb4⟩
        clear hLk
        go_wp2_with fail
        go_ret
        exact ⟨by simp, hK3.trans (hb4.mono hs3)⟩

set_option maxRecDepth 100000 in
set_option maxHeartbeats 1000000 in
theorem back7_4 (l : List Int) (A : Option Addr) (c : Nat) (x : Nat) (w : World) (hr : Rd w w.heap.size .u8 A l) (hlc : l.length ≤ c) (hc : c ≤ 9223372036854775807) (hby : Bys l) (hx1 : (x : Int) < 256) (hq : x % 4 = 2) :
    Calls Try.prog 5 #[.slice A l.length c, .int .u8 x] w fun e w' => e = .returned (.bool true) ∧ Below w.heap.size w w' := by
  have hqI : ((x : Int) % 4) = 2 := by omega
  obtain ⟨L, hL⟩ : ∃ L, l.length = L := ⟨_, rfl⟩
  rw [hL] at hlc ⊢
  have HL := Lib.hid hL
  clear hL hq
  go_enter Try.func5, Try.ntmps5
  go_wp2_with fail
  (with_reducible refine (awake7_any w).mono ?_)
  rintro e w1 ⟨rfl, hb1⟩
  have hr1 := hr.below hb1
  have hs1 := hb1.size
  by_cases h3 : 2000 < L
  · have h3I : (L : Int) > 2000 := by omega
    go_wp2_with fail
    go_ret
    exact ⟨rfl, hb1⟩
  · have h3I : ¬ (L : Int) > 2000 := by omega
    have hLL : L ≤ 2000 := by omega
    have hK2 : Below w.heap.size w (w1.alloc (.cells #[.int .i64 1, .int .i64 2, .int .i64 4, .int .i64 8] 3)) := hb1.alloc hs1 _
    have hW4 : Arr (w1.alloc (.cells #[.int .i64 1, .int .i64 2, .int .i64 4, .int .i64 8] 3)) w1.heap.size 3 .i64 [1, 2, 4, 8] := Arr.new w1 3 .i64 [1, 2, 4, 8]
    have hcl : (w1.alloc (.cells #[.int .i64 1, .int .i64 2, .int .i64 4, .int .i64 8] 3)).cell? ⟨w1.heap.size, 2, none⟩ = some (.int .i64 4) := hW4.cell 2 (by decide)
    clear h3 h3I hW4
    go_wp2_with fail
    obtain ⟨w2, hw2⟩ : ∃ w2, w1.alloc (.cells #[.int .i64 1, .int .i64 2, .int .i64 4, .int .i64 8] 3) = w2 := ⟨_, rfl⟩
    rw [hw2] at hK2 ⊢
    have hs2 := hK2.size
    clear hw2 hcl
    have hr2 := (hr.below hK2).more hs2
    have hO := of_any l A L c 4 w2 (.inr (.inr (.inl rfl))) HL.out (by omega) hby hr2
    obtain ⟨N, hN⟩ : ∃ N, (digL l 4).length = N := ⟨_, rfl⟩
    have hN2 : N = 2 * L := by rw [← hN, digL_len, HL.out]
    have hgd : ∀ i k, i < L → k < 2 → gt (digL l 4) (2 * i + k) = dig (gt l i) 4 k := fun i k hi hk => by
      rw [gt_digL _ _ _ (by rw [HL.out]; omega)]
      rw [show (2 * i + k) / (8 / 4) = i by omega, show (2 * i + k) % (8 / 4) = k by omega]
    have hres : lackN (digL l 4) 4 N = lackOf l 4 := by rw [lackOf, ← hN, digL_len]
    obtain ⟨D, hD⟩ : ∃ D, digL l 4 = D := ⟨_, rfl⟩
    have hnn := digL_nn l 4
    have hlt := digL_lt l 4
    unfold OfPost at hO
    rw [hD] at hO hN hnn hlt hgd hres
    rw [hN] at hO
    have HN := Lib.hid hN
    have HNN := Lib.hid hnn
    have HLT := Lib.hid hlt
    have HGD := Lib.hid hgd
    have HRES := Lib.hid hres
    have hNne : ((N : Int) != 2 * (L : Int)) = false := by simp; omega
    have HN2 := Lib.hid hN2
    clear hD hN hN2 hnn hlt hres hgd hb1 hr1 hr2
    refine hO.mono ?_
    rintro e w3 ⟨A3, c3, rfl, hO3, hb3⟩
    have hK3 : Below w.heap.size w w3 := hK2.trans (hb3.mono hs2)
    have hs3 := hK3.size
    have hR3 := hO3.rd
    have hr3 := (hr.below hK3).more hs3
    clear hO hO3 hb3 hK2 hs2
    go_wp2_with fail
    go_loopg [8, 9, 10, 11, 12] L (fun g s8 s9 _ _ _ wr => wr = w3 ∧ ∃ i : Nat, s9 = .int .i64 i ∧ g = L - i ∧ i ≤ L ∧ s8 = .int .i64 (lackN D 4 (2 * i)))
    case atStart => exact ⟨rfl, 0, rfl, rfl, Nat.zero_le _, rfl⟩
    case round =>
      obtain ⟨rfl, i, rfl, hg, hi, rfl⟩ := hrel
      have HG := Lib.hid hg
      clear hg
      by_cases hli : i < L
      · have hliI : (i : Int) < (L : Int) := by omega
        obtain ⟨ad, rfl, hadB, hca⟩ := hr3.at_ (i := i) (by have := HL.out; omega)
        have hyb := hby.gt i
        obtain ⟨y, hy⟩ : ∃ y, gt l i = y := ⟨_, rfl⟩
        rw [hy] at hca hyb
        have hyb0 := hyb.1
        have hyb1 := hyb.2
        have hbk := back_all' 4 (.inr (.inr (.inl rfl))) y hyb
        have HBK := Lib.hid hbk
        have HY := Lib.hid hy
        clear hy hyb hbk
        go_wp2_with fail
        obtain ⟨wo, rfl⟩ : ∃ wo : World, wo = wr := ⟨_, rfl⟩
        go_loopg [8, 10, 11, 12] 2 (fun g s8 s10 s11 _ wr => wr = wo ∧ ∃ k : Nat, s11 = .int .i64 k ∧ g = 2 - k ∧ k ≤ 2 ∧ s8 = .int .i64 (lackN D 4 (2 * i + k)) ∧ s10 = .int .i64 (back y 4 k))
        case atStart => exact ⟨rfl, 0, rfl, rfl, Nat.zero_le _, rfl, rfl⟩
        case round =>
          obtain ⟨rfl, k, rfl, hg, hk, rfl, rfl⟩ := hrel
          have HG2 := Lib.hid hg
          have hlb := lackN_le D 4 HNN.out (2 * i + k)
          have hlb0 := lackN_nn D 4 HLT.out (2 * i + k)
          rw [show ((2 : Int) ^ 4 - 1) = 15 by decide] at hlb
          have hbb := back_bd8 y 4 k (by omega)
          obtain ⟨z, hz⟩ : ∃ z, lackN D 4 (2 * i + k) = z := ⟨_, rfl⟩
          obtain ⟨v, hv⟩ : ∃ v, back y 4 k = v := ⟨_, rfl⟩
          rw [hz] at hlb hlb0 ⊢
          rw [hv] at hbb ⊢
          have hz1 : z ≤ 10000000 := by omega
          have hv0 := hbb.1
          have hv1 := hbb.2
          have HZ := Lib.hid hz
          have HV := Lib.hid hv
          clear hg hz hv hbb hlb
          by_cases hkp : k < 2
          · have hkI : (k : Int) < 2 := by omega
            obtain ⟨p, hp⟩ : ∃ p, 2 * i + k = p := ⟨_, rfl⟩
            have hpN : p < N := by have := HN2.out; omega
            have hpI : (p : Int) < (N : Int) := by omega
            have hpe : ((i : Int) * 2 + (k : Int)) = (p : Int) := by omega
            have hpe2 : ((i : Int) + (k : Int)) = ((i : Int) + (k : Int)) := rfl
            obtain ⟨a3, rfl, _, hcd⟩ := hR3.at_ (i := p) (by have := HN.out; omega)
            have hgk := HGD.out i k hli hkp
            rw [HY.out, hp] at hgk
            have hdb := dig_bd y 4 k
            obtain ⟨d, hd⟩ : ∃ d, dig y 4 k = d := ⟨_, rfl⟩
            rw [hd] at hgk hdb
            rw [hgk] at hcd
            have hd0 := hdb.1
            have hd1 : d < 16 := by have := hdb.2; rw [show (2 : Int) ^ 4 = 16 by decide] at this; exact this
            have hd2 : ¬ d < 0 := by omega
            have hd3 : ¬ d ≥ 16 := by omega
            have hnl : lackN D 4 (2 * i + (k + 1)) = z + 15 - d := by
              rw [← Nat.add_assoc, lackN, HZ.out, show 2 * i + k = p from hp, hgk, show ((2 : Int) ^ 4 - 1) = 15 by decide]; omega
            have hnb : back y 4 (k + 1) = v * 16 + d := by rw [back, HV.out, hd, show (2 : Int) ^ 4 = 16 by decide]
            have HNL := Lib.hid hnl
            have HNB := Lib.hid hnb
            clear hpe2 hgk hdb hd hp hnl hnb
            go_wp2_with fail
            go_roundg (2 - (k + 1))
            case measure => have := HG2.out; omega
            case rel => exact ⟨rfl, k + 1, by go_num, rfl, by omega, by rw [HNL.out]; congr 1; omega, by rw [HNB.out]⟩
          · have hkI : ¬ (k : Int) < 2 := by omega
            obtain rfl : k = 2 := by omega
            have hvy : v = y := by rw [← HV.out]; exact HBK.out
            subst hvy
            go_wp2_with fail
            go_roundg (L - (i + 1))
            case measure => have := HG.out; omega
            case rel => exact ⟨rfl, i + 1, by go_num, rfl, by omega, by rw [← HZ.out]; rfl⟩
      · have hliI : ¬ (i : Int) < (L : Int) := by omega
        obtain rfl : i = L := by omega
        have hzz : lackN D 4 (2 * i) = lackOf l 4 := by rw [← HRES.out, HN2.out]
        rw [hzz]
        have hLk := lack_any l A i c 4 wr (.inr (.inr (.inl rfl))) HL.out (by omega) hby hr3
        obtain ⟨z, hz⟩ : ∃ z, lackOf l 4 = z := ⟨_, rfl⟩
        rw [hz] at hLk ⊢
        clear hz hzz
        go_wp2_with fail
        refine hLk.mono ?_
        rintro e w4 ⟨rfl, hb4⟩
        clear hLk
        go_wp2_with fail
        go_ret
        exact ⟨by simp, hK3.trans (hb4.mono hs3)⟩

set_option maxRecDepth 100000 in
set_option maxHeartbeats 1000000 in
theorem back7_8 (l : List Int) (A : Option Addr) (c : Nat) (x : Nat) (w : World) (hr : Rd w w.heap.size .u8 A l) (hlc : l.length ≤ c) (hc : c ≤ 9223372036854775807) (hby : Bys l) (hx1 : (x : Int) < 256) (hq : x % 4 = 3) :
    Calls Try.prog 5 #[.slice A l.length c, .int .u8 x] w fun e w' => e = .returned (.bool true) ∧ Below w.heap.size w w' := by
  have hqI : ((x : Int) % 4) = 3 := by omega
  obtain ⟨L, hL⟩ : ∃ L, l.length = L := ⟨_, rfl⟩
  rw [hL] at hlc ⊢
  have HL := Lib.hid hL
  clear hL hq
  go_enter Try.func5, Try.ntmps5
  go_wp2_with fail
  (with_reducible refine (awake7_any w).mono ?_)
  rintro e w1 ⟨rfl, hb1⟩
  have hr1 := hr.below hb1
  have hs1 := hb1.size
  by_cases h3 : 2000 < L
  · have h3I : (L : Int) > 2000 := by omega
    go_wp2_with fail
    go_ret
    exact ⟨rfl, hb1⟩
  · have h3I : ¬ (L : Int) > 2000 := by omega
    have hLL : L ≤ 2000 := by omega
    have hK2 : Below w.heap.size w (w1.alloc (.cells #[.int .i64 1, .int .i64 2, .int .i64 4, .int .i64 8] 3)) := hb1.alloc hs1 _
    have hW4 : Arr (w1.alloc (.cells #[.int .i64 1, .int .i64 2, .int .i64 4, .int .i64 8] 3)) w1.heap.size 3 .i64 [1, 2, 4, 8] := Arr.new w1 3 .i64 [1, 2, 4, 8]
    have hcl : (w1.alloc (.cells #[.int .i64 1, .int .i64 2, .int .i64 4, .int .i64 8] 3)).cell? ⟨w1.heap.size, 3, none⟩ = some (.int .i64 8) := hW4.cell 3 (by decide)
    clear h3 h3I hW4
    go_wp2_with fail
    obtain ⟨w2, hw2⟩ : ∃ w2, w1.alloc (.cells #[.int .i64 1, .int .i64 2, .int .i64 4, .int .i64 8] 3) = w2 := ⟨_, rfl⟩
    rw [hw2] at hK2 ⊢
    have hs2 := hK2.size
    clear hw2 hcl
    have hr2 := (hr.below hK2).more hs2
    have hO := of_any l A L c 8 w2 (.inr (.inr (.inr rfl))) HL.out (by omega) hby hr2
    obtain ⟨N, hN⟩ : ∃ N, (digL l 8).length = N := ⟨_, rfl⟩
    have hN2 : N = 1 * L := by rw [← hN, digL_len, HL.out]
    have hgd : ∀ i k, i < L → k < 1 → gt (digL l 8) (1 * i + k) = dig (gt l i) 8 k := fun i k hi hk => by
      rw [gt_digL _ _ _ (by rw [HL.out]; omega)]
      rw [show (1 * i + k) / (8 / 8) = i by omega, show (1 * i + k) % (8 / 8) = k by omega]
    have hres : lackN (digL l 8) 8 N = lackOf l 8 := by rw [lackOf, ← hN, digL_len]
    obtain ⟨D, hD⟩ : ∃ D, digL l 8 = D := ⟨_, rfl⟩
    have hnn := digL_nn l 8
    have hlt := digL_lt l 8
    unfold OfPost at hO
    rw [hD] at hO hN hnn hlt hgd hres
    rw [hN] at hO
    have HN := Lib.hid hN
    have HNN := Lib.hid hnn
    have HLT := Lib.hid hlt
    have HGD := Lib.hid hgd
    have HRES := Lib.hid hres
    have hNne : ((N : Int) != (L : Int)) = false := by simp; omega
    have HN2 := Lib.hid hN2
    clear hD hN hN2 hnn hlt hres hgd hb1 hr1 hr2
    refine hO.mono ?_
    rintro e w3 ⟨A3, c3, rfl, hO3, hb3⟩
    have hK3 : Below w.heap.size w w3 := hK2.trans (hb3.mono hs2)
    have hs3 := hK3.size
    have hR3 := hO3.rd
    have hr3 := (hr.below hK3).more hs3
    clear hO hO3 hb3 hK2 hs2
    go_wp2_with fail
    go_loopg [8, 9, 10, 11, 12] L (fun g s8 s9 _ _ _ wr => wr = w3 ∧ ∃ i : Nat, s9 = .int .i64 i ∧ g = L - i ∧ i ≤ L ∧ s8 = .int .i64 (lackN D 8 (1 * i)))
    case atStart => exact ⟨rfl, 0, rfl, rfl, Nat.zero_le _, rfl⟩
    case round =>
      obtain ⟨rfl, i, rfl, hg, hi, rfl⟩ := hrel
      have HG := Lib.hid hg
      clear hg
      by_cases hli : i < L
      · have hliI : (i : Int) < (L : Int) := by omega
        obtain ⟨ad, rfl, hadB, hca⟩ := hr3.at_ (i := i) (by have := HL.out; omega)
        have hyb := hby.gt i
        obtain ⟨y, hy⟩ : ∃ y, gt l i = y := ⟨_, rfl⟩
        rw [hy] at hca hyb
        have hyb0 := hyb.1
        have hyb1 := hyb.2
        have hbk := back_all' 8 (.inr (.inr (.inr rfl))) y hyb
        have HBK := Lib.hid hbk
        have HY := Lib.hid hy
        clear hy hyb hbk
        go_wp2_with fail
        obtain ⟨wo, rfl⟩ : ∃ wo : World, wo = wr := ⟨_, rfl⟩
        go_loopg [8, 10, 11, 12] 1 (fun g s8 s10 s11 _ wr => wr = wo ∧ ∃ k : Nat, s11 = .int .i64 k ∧ g = 1 - k ∧ k ≤ 1 ∧ s8 = .int .i64 (lackN D 8 (1 * i + k)) ∧ s10 = .int .i64 (back y 8 k))
        case atStart => exact ⟨rfl, 0, rfl, rfl, Nat.zero_le _, rfl, rfl⟩
        case round =>
          obtain ⟨rfl, k, rfl, hg, hk, rfl, rfl⟩ := hrel
          have HG2 := Lib.hid hg
          have hlb := lackN_le D 8 HNN.out (1 * i + k)
          have hlb0 := lackN_nn D 8 HLT.out (1 * i + k)
          rw [show ((2 : Int) ^ 8 - 1) = 255 by decide] at hlb
          have hbb := back_bd8 y 8 k (by omega)
          obtain ⟨z, hz⟩ : ∃ z, lackN D 8 (1 * i + k) = z := ⟨_, rfl⟩
          obtain ⟨v, hv⟩ : ∃ v, back y 8 k = v := ⟨_, rfl⟩
          rw [hz] at hlb hlb0 ⊢
          rw [hv] at hbb ⊢
          have hz1 : z ≤ 10000000 := by omega
          have hv0 := hbb.1
          have hv1 := hbb.2
          have HZ := Lib.hid hz
          have HV := Lib.hid hv
          clear hg hz hv hbb hlb
          by_cases hkp : k < 1
          · have hkI : (k : Int) < 1 := by omega
            obtain ⟨p, hp⟩ : ∃ p, 1 * i + k = p := ⟨_, rfl⟩
            have hpN : p < N := by have := HN2.out; omega
            have hpI : (p : Int) < (N : Int) := by omega
            have hpe : ((i : Int) * 1 + (k : Int)) = (p : Int) := by omega
            have hpe2 : ((i : Int) + (k : Int)) = ((i : Int) + (k : Int)) := rfl
            obtain ⟨a3, rfl, _, hcd⟩ := hR3.at_ (i := p) (by have := HN.out; omega)
            have hgk := HGD.out i k hli hkp
            rw [HY.out, hp] at hgk
            have hdb := dig_bd y 8 k
            obtain ⟨d, hd⟩ : ∃ d, dig y 8 k = d := ⟨_, rfl⟩
            rw [hd] at hgk hdb
            rw [hgk] at hcd
            have hd0 := hdb.1
            have hd1 : d < 256 := by have := hdb.2; rw [show (2 : Int) ^ 8 = 256 by decide] at this; exact this
            have hd2 : ¬ d < 0 := by omega
            have hd3 : ¬ d ≥ 256 := by omega
            have hnl : lackN D 8 (1 * i + (k + 1)) = z + 255 - d := by
              rw [← Nat.add_assoc, lackN, HZ.out, show 1 * i + k = p from hp, hgk, show ((2 : Int) ^ 8 - 1) = 255 by decide]; omega
            have hnb : back y 8 (k + 1) = v * 256 + d := by rw [back, HV.out, hd, show (2 : Int) ^ 8 = 256 by decide]
            have HNL := Lib.hid hnl
            have HNB := Lib.hid hnb
            clear hpe2 hgk hdb hd hp hnl hnb
            have hpf : ((i : Int) + (k : Int)) = (p : Int) := by omega
            go_wp2_with fail
            go_roundg (1 - (k + 1))
            case measure => have := HG2.out; omega
            case rel => exact ⟨rfl, k + 1, by go_num, rfl, by omega, by rw [HNL.out]; congr 1; omega, by rw [HNB.out]⟩
          · have hkI : ¬ (k : Int) < 1 := by omega
            obtain rfl : k = 1 := by omega
            have hvy : v = y := by rw [← HV.out]; exact HBK.out
            subst hvy
            go_wp2_with fail
            go_roundg (L - (i + 1))
            case measure => have := HG.out; omega
            case rel => exact ⟨rfl, i + 1, by go_num, rfl, by omega, by rw [← HZ.out]; rfl⟩
      · have hliI : ¬ (i : Int) < (L : Int) := by omega
        obtain rfl : i = L := by omega
        have hzz : lackN D 8 (1 * i) = lackOf l 8 := by rw [← HRES.out, HN2.out]
        rw [hzz]
        have hLk := lack_any l A i c 8 wr (.inr (.inr (.inr rfl))) HL.out (by omega) hby hr3
        obtain ⟨z, hz⟩ : ∃ z, lackOf l 8 = z := ⟨_, rfl⟩
        rw [hz] at hLk ⊢
        clear hz hzz
        go_wp2_with fail
        refine hLk.mono ?_
        rintro e w4 ⟨rfl, hb4⟩
        clear hLk
        go_wp2_with fail
        go_ret
        exact ⟨by simp, hK3.trans (hb4.mono hs3)⟩

theorem back7_walk (l : List Int) (A : Option Addr) (c : Nat) (x : Int) (w : World) (hr : Rd w w.heap.size .u8 A l) (hlc : l.length ≤ c) (hc : c ≤ 9223372036854775807) (hby : Bys l) (hx : B8 x) :
    Calls Try.prog 5 #[.slice A l.length c, .int .u8 x] w fun e w' => e = .returned (.bool true) ∧ Below w.heap.size w w' := by
  obtain ⟨x, rfl⟩ : ∃ n : Nat, x = n := ⟨x.toNat, by have := hx.1; omega⟩
  have h : x % 4 = 0 ∨ x % 4 = 1 ∨ x % 4 = 2 ∨ x % 4 = 3 := by omega
  rcases h with h | h | h | h
  · exact back7_1 l A c x w hr hlc hc hby hx.2 h
  · exact back7_2 l A c x w hr hlc hc hby hx.2 h
  · exact back7_4 l A c x w hr hlc hc hby hx.2 h
  · exact back7_8 l A c x w hr hlc hc hby hx.2 h

end Go.Proofs.Ytigedohalangbaa
