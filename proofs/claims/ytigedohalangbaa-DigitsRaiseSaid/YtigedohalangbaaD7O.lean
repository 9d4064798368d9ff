/- DigitsRaise, walked. Conditions: the text reads as bytes. -/
import Derived.Test.YtigedohalangbaaD7L
import Derived.Laws.Cover1
import Derived.Deep.Cut
namespace Go.Proofs.Ytigedohalangbaa
open Go.RowKit
set_option linter.unusedVariables false
set_option linter.unusedSimpArgs false

theorem isW_1 : IsW 1 := .inl rfl
theorem isW_2 : IsW 2 := .inr (.inl rfl)
theorem isW_4 : IsW 4 := .inr (.inr (.inl rfl))
theorem isW_8 : IsW 8 := .inr (.inr (.inr rfl))
theorem lackN_change (l l' : List Int) (w i : Nat) (e : Int) (hi : gt l' i = gt l i + e) (ho : ∀ k, k ≠ i → gt l' k = gt l k) : ∀ K, lackN l' w K = lackN l w K - (if i < K then e else 0)
  | 0 => by simp [lackN]
  | K + 1 => by
    rw [lackN, lackN, lackN_change l l' w i e hi ho K]
    by_cases h : K = i
    · subst h
      rw [hi, if_neg (by omega), if_pos (by omega)]; omega
    · rw [ho K h]
      by_cases h2 : i < K
      · rw [if_pos h2, if_pos (by omega)]; omega
      · rw [if_neg h2, if_neg (by omega)]; omega
/-- One byte of bytes changed, by one digit's one. -/
theorem lack_change (b : List Int) (w p j : Nat) (y' e : Int) (hw : IsW w) (hp : p < b.length) (hj : j < 8 / w) (h : ∀ j', j' < 8 / w → dig y' w j' = dig (gt b p) w j' + if j' = j then e else 0) :
    lackOf (st b p y') w = lackOf b w - e := by
  have hq : 0 < 8 / w := by omega
  unfold lackOf
  rw [st_len]
  have hi : 8 / w * p + j < 8 / w * b.length := by
    have h1 : 8 / w * (p + 1) ≤ 8 / w * b.length := Nat.mul_le_mul_left _ hp
    rw [Nat.mul_succ] at h1; omega
  have hgen : ∀ k, gt (digL (st b p y') w) k = gt (digL b w) k + if k = 8 / w * p + j then e else 0 := fun k => by
    by_cases hk : k < 8 / w * b.length
    · rw [gt_digL _ _ _ (by rw [st_len]; exact hk), gt_digL _ _ _ hk, gt_st _ _ _ _ hp]
      have hm := Nat.mod_lt k hq
      have hdm := Nat.div_add_mod k (8 / w)
      by_cases hkp : k / (8 / w) = p
      · rw [if_pos hkp, h _ hm, hkp]
        congr 1
        rw [hkp] at hdm
        by_cases hkj : k % (8 / w) = j
        · rw [if_pos hkj, if_pos (by omega)]
        · rw [if_neg hkj, if_neg (by omega)]
      · rw [if_neg hkp, if_neg (fun he => hkp (by rw [he, Nat.mul_add_div hq, Nat.div_eq_of_lt hj, Nat.add_zero])), Int.add_zero]
    · have z : ∀ c : List Int, c.length = b.length → gt (digL c w) k = 0 := fun c hc => by
        have : (digL c w).length ≤ k := by rw [digL_len, hc]; omega
        simp [gt, List.getD_eq_getElem?_getD, List.getElem?_eq_none this]
      rw [z _ (st_len _ _ _), z _ rfl, if_neg (by omega), Int.add_zero]
  have := lackN_change (digL b w) (digL (st b p y') w) w (8 / w * p + j) e (by rw [hgen, if_pos rfl]) (fun k hk => by rw [hgen, if_neg hk, Int.add_zero]) (8 / w * b.length)
  rw [this, if_pos hi]
theorem raise_dig : ∀ w, w = 1 ∨ w = 2 ∨ w = 4 ∨ w = 8 → ∀ y : Nat, y < 256 → ∀ j, j < 8 / w → (dig y w j = 2 ^ w - 1 → (0 : Int) ≤ y - 2 ^ (w * (8 / w - 1 - j)) ∧ ∀ j', j' < 8 / w → dig (y - 2 ^ (w * (8 / w - 1 - j))) w j' = dig y w j' + if j' = j then -1 else 0) ∧
    (dig y w j ≠ 2 ^ w - 1 → (y : Int) + 2 ^ (w * (8 / w - 1 - j)) < 256 ∧ ∀ j', j' < 8 / w → dig (y + 2 ^ (w * (8 / w - 1 - j))) w j' = dig y w j' + if j' = j then 1 else 0) := by
  intro w hw
  rcases hw with rfl | rfl | rfl | rfl <;> decide +kernel

set_option maxRecDepth 100000 in
set_option maxHeartbeats 1000000 in
theorem raise7_1 (l : List Int) (A : Option Addr) (c t x : Nat) (w : World) (hr : Rd w w.heap.size .u8 A l) (hlc : l.length ≤ c) (hc : c ≤ 9223372036854775807) (hby : Bys l) (ht : (t : Int) < 65536) (hx1 : (x : Int) < 256) (hq : x % 4 = 0) :
    Calls Try.prog 7 #[.slice A l.length c, .int .u16 t, .int .u8 x] w fun e w' => e = .returned (.bool true) ∧ Below w.heap.size w w' := by
  have hqI : ((x : Int) % 4) = 0 := by omega
  obtain ⟨L, hL⟩ : ∃ L, l.length = L := ⟨_, rfl⟩
  rw [hL] at hlc ⊢
  have HL := Lib.hid hL
  clear hL hq
  go_enter Try.func7, Try.ntmps7
  go_wp2_with fail
  (with_reducible refine (awake7_any w).mono ?_)
  rintro e w1 ⟨rfl, hb1⟩
  have hs1 := hb1.size
  have hK2 : Below w.heap.size w (w1.alloc (.cells #[.int .i64 1, .int .i64 2, .int .i64 4, .int .i64 8] 3)) := hb1.alloc hs1 _
  have hW4 : Arr (w1.alloc (.cells #[.int .i64 1, .int .i64 2, .int .i64 4, .int .i64 8] 3)) w1.heap.size 3 .i64 [1, 2, 4, 8] := Arr.new w1 3 .i64 [1, 2, 4, 8]
  have hcl : (w1.alloc (.cells #[.int .i64 1, .int .i64 2, .int .i64 4, .int .i64 8] 3)).cell? ⟨w1.heap.size, 0, none⟩ = some (.int .i64 1) := hW4.cell 0 (by decide)
  clear hW4
  by_cases h0 : L = 0
  · have h0B : ((L : Int) == 0) = true := by simp [h0]
    clear h0
    go_wp2_with fail
    refine (lack_any [] none 0 0 1 _ (.inl rfl) rfl (by decide) (fun _ h => by cases h) Rd.nil).mono ?_
    rintro e w3 ⟨rfl, hb3⟩
    rw [show lackOf [] 1 = 0 by rfl]
    have hK3 := hK2.trans (hb3.mono hK2.size)
    clear hb3 hcl hK2
    go_wp2_with fail
    go_ret
    exact ⟨rfl, hK3⟩
  · have h0B : ((L : Int) == 0) = false := by simp; omega
    by_cases h5 : 500 < L
    · have h5B : decide ((L : Int) > 500) = true := by simp; omega
      clear h5
      go_wp2_with fail
      refine (lack_any [] none 0 0 1 _ (.inl rfl) rfl (by decide) (fun _ h => by cases h) Rd.nil).mono ?_
      rintro e w3 ⟨rfl, hb3⟩
      rw [show lackOf [] 1 = 0 by rfl]
      have hK3 := hK2.trans (hb3.mono hK2.size)
      clear hb3 hcl hK2
      go_wp2_with fail
      go_ret
      exact ⟨rfl, hK3⟩
    · have h5B : decide ((L : Int) > 500) = false := by simp; omega
      have hL5 : L ≤ 500 := by omega
      have hL1 : (1 : Int) ≤ (L : Int) := by omega
      have hL5I : (L : Int) ≤ 500 := by omega
      obtain ⟨i, hi⟩ : ∃ i, t % (8 * L) = i := ⟨_, rfl⟩
      have hiI : ((t : Int) % (8 * (L : Int))) = (i : Int) := by rw [← hi]; simp
      have hiL : i < 8 * L := by rw [← hi]; exact Nat.mod_lt _ (by omega)
      clear h0 h5
      go_wp2_with fail
      rw [hiI]
      obtain ⟨w2, hw2⟩ : ∃ w2, w1.alloc (.cells #[.int .i64 1, .int .i64 2, .int .i64 4, .int .i64 8] 3) = w2 := ⟨_, rfl⟩
      rw [hw2] at hK2 ⊢
      have hs2 := hK2.size
      clear hw2 hcl hb1 hs1
      have hr2 := (hr.below hK2).more hs2
      have hO := of_any l A L c 1 w2 (.inl rfl) HL.out (by omega) hby hr2
      obtain ⟨p, hp⟩ : ∃ p, i / 8 = p := ⟨_, rfl⟩
      obtain ⟨j, hj⟩ : ∃ j, i % 8 = j := ⟨_, rfl⟩
      have hpL : p < L := by omega
      have hjP : j < 8 := by omega
      obtain ⟨y, hy⟩ : ∃ y, gt l p = y := ⟨_, rfl⟩
      have hyb := hby.gt p
      rw [hy] at hyb
      obtain ⟨y, rfl⟩ : ∃ n : Nat, y = n := ⟨y.toNat, by have := hyb.1; omega⟩
      have hy1 : (y : Int) < 256 := hyb.2
      obtain ⟨N, hN⟩ : ∃ N, (digL l 1).length = N := ⟨_, rfl⟩
      have hN2 : N = 8 * L := by rw [← hN, digL_len, HL.out]
      have hgd : gt (digL l 1) i = dig y 1 j := by
        rw [gt_digL _ _ _ (by rw [HL.out]; omega), show i / (8 / 1) = p from hp, show i % (8 / 1) = j from hj, hy]
      have hRD := raise_dig 1 (.inl rfl) y (by omega) j hjP
      have hCH := fun y' e h => lack_change l 1 p j y' e (.inl rfl) (by rw [HL.out]; exact hpL) hjP h
      rw [hy] at hCH
      obtain ⟨D, hD⟩ : ∃ D, digL l 1 = D := ⟨_, rfl⟩
      unfold OfPost at hO
      rw [hD] at hO hN hgd
      rw [hN] at hO
      have HN := Lib.hid hN
      have HGD := Lib.hid hgd
      have HRD := Lib.hid hRD
      have HCH := Lib.hid hCH
      have HP := Lib.hid hp
      have HJ := Lib.hid hj
      have HY := Lib.hid hy
      have hNne : ((N : Int) != 8 * (L : Int)) = false := by simp; omega
      have hiN : (i : Int) < (N : Int) := by omega
      have HI := Lib.hid hiL
      clear hD hN hgd hRD hCH hp hj hy hyb hr2 hi hiL hN2 hiI
      refine hO.mono ?_
      rintro e w3 ⟨A3, c3, rfl, hO3, hb3⟩
      have hK3 : Below w.heap.size w w3 := hK2.trans (hb3.mono hs2)
      have hs3 := hK3.size
      have hR3 := hO3.rd
      clear hO hO3 hb3 hK2 hs2
      have hmx : (200000000 : Nat) ≤ maxLen := by decide
      have hOe := Proofs.Ytigedohalangbaa.Own.lit (b := w3.heap.size) (e := 5) (k := .u8) w3 [] (by omega) (Nat.zero_le _)
      have hRe := ((hr.below hK3).more hs3).alloc (Nat.le_refl _) (.cells #[] 5)
      have hKe : Kept w3.heap.size (fun _ => False) w3 (w3.alloc (.cells #[] 5)) := (Kept.refl _ _ _).alloc _ (Nat.le_refl _)
      go_upto_region 12 with (at_builtin; (refine wpList_app rfl _ _ 22 5 .u8 1 rfl Try.underlying22 inf_u8 hOe hRe rfl rfl HL.out l rfl L HL.out (by omega) (by omega) (by simp) ?_; intro Aa ca wa hOa hga hfa))
      have hKa := hKe.grew hOe hga (by omega) (by simp)
      have hsa := hKa.size
      have hK0 := ((Kept.of_below (S := fun _ => False) hK3).trans (S' := fun _ => False) hKa hs3 (fun _ _ h => h)).below
      have hRD3 := hR3.kept hKa (Nat.le_refl _) (fun _ _ h => h)
      obtain ⟨a3, rfl, _, hcd⟩ := hRD3.at_ (i := i) (by have := HN.out; omega)
      rw [HGD.out] at hcd
      obtain ⟨g, rfl, hLx, hg1, hg2, _⟩ := hOa.where_ (by have := HL.out; omega)
      clear hLx
      have hcy := hOa.cell p (by have := HL.out; omega)
      have hfy := hOa.free p
      rw [HY.out] at hcy
      have hmod : (i : Int) % 8 = (j : Int) := by have := HJ.out; omega
      have hdiv : (i : Int) / 8 = (p : Int) := by have := HP.out; omega
      obtain ⟨o, ho⟩ : ∃ o : Int, (2 : Int) ^ (1 * (8 - 1 - j)) = o := ⟨_, rfl⟩
      have hRDo := HRD.out
      rw [show 8 / 1 = 8 from rfl, ho] at hRDo
      have hob : 0 < o ∧ o ≤ 128 := by
        have h : ∀ j, j < 8 → (0 : Int) < 2 ^ (1 * (8 - 1 - j)) ∧ (2 : Int) ^ (1 * (8 - 1 - j)) ≤ 128 := by decide
        rw [← ho]; exact h j hjP
      have ho0 := hob.1
      have ho1 := hob.2
      clear hOe hRe hKe hga hfa hKa hR3 hRD3 hK3 hob
      by_cases hmax : dig y 1 j = 2 ^ 1 - 1
      · obtain ⟨hm0, hm1⟩ := hRDo.1 hmax
        rw [hmax, show ((2 : Int) ^ 1 - 1) = 1 by decide] at hcd
        clear hRDo hmax
        go_wp2_with fail
        have e12 : (2 : Int) ^ (7 - j) % 256 = o := by rw [show 7 - j = 1 * (8 - 1 - j) from by omega, ho]; omega
        try rw [e12]
        have hw1 : IntKind.i64.wrap (p : Int) = (p : Int) := IntWalk.i64_in _ (by omega)
        have hw2 : IntKind.u8.wrap ((y : Int) - o) = (y : Int) - o := by rw [IntKind.wrap_u8]; omega
        have hpI : (p : Int) < (L : Int) := by omega
        have hpI0 : (0 : Int) ≤ (p : Int) := by omega
        go_region
        have hOb := hOa.stored p ((y : Int) - o)
        have hByb : Bys (st l p ((y : Int) - o)) := hby.st p ⟨by omega, by omega⟩
        have hKb : Below w.heap.size w ((wa.setCell ⟨g, p, none⟩ (.int .u8 ((y : Int) - o))).drew) := (((Kept.of_below (S := fun _ => False) hK0).set g p (.int .u8 ((y : Int) - o)) (.inl (by omega))).drew).below
        have hLs := HCH.out ((y : Int) - o) (-1) hm1
        obtain ⟨z, hz⟩ : ∃ z, lackOf l 1 = z := ⟨_, rfl⟩
        have hz0 : 0 ≤ z := by rw [← hz]; exact lackOf_nn l 1
        have hz1 : z ≤ 100000000 := by
          have h := lackN_le (digL l 1) 1 (digL_nn l 1) (8 / 1 * l.length)
          rw [show ((2 : Int) ^ 1 - 1) = 1 by decide, HL.out] at h
          have h2 : lackOf l 1 = lackN (digL l 1) 1 (8 / 1 * l.length) := rfl
          rw [HL.out] at h2
          omega
        rw [hz] at hLs
        have hbl : (st l p ((y : Int) - o)).length = L := by rw [st_len, HL.out]
        have hRb : Rd (wa.setCell ⟨g, p, none⟩ (.int .u8 ((y : Int) - o))).drew (wa.setCell ⟨g, p, none⟩ (.int .u8 ((y : Int) - o))).drew.heap.size .u8 (some ⟨g, 0, none⟩) (st l p ((y : Int) - o)) := hOb.rd
        have hrb := hr.below hKb
        generalize (wa.setCell ⟨g, p, none⟩ (.int .u8 ((y : Int) - o))).drew = wb at hKb hRb hrb ⊢
        have hsb := hKb.size
        clear hOb hOa hcy hfy hcd hK0 hsa hm0 hm1 hw1 hw2 e12
        go_wp2_with fail
        refine (lack_any _ _ L ca 1 wb isW_1 hbl (by omega) hByb hRb).mono ?_
        rintro e w5 ⟨rfl, hb5⟩
        rw [hLs]
        have hK5 : Below w.heap.size w w5 := hKb.trans (hb5.mono hsb)
        have hLb := lack_any l A L c 1 w5 (.inl rfl) HL.out (by omega) hby ((hr.below hK5).more hK5.size)
        rw [hz] at hLb
        clear hb5 hRb hrb hLs hz
        go_wp2_with fail
        refine hLb.mono ?_
        rintro e w6 ⟨rfl, hb6⟩
        have hK6 : Below w.heap.size w w6 := hK5.trans (hb6.mono hK5.size)
        clear hLb hb6
        go_wp2_with fail
        go_ret
        exact ⟨by simp, hK6⟩
      · obtain ⟨hm0, hm1⟩ := hRDo.2 hmax
        obtain ⟨dd, hdd⟩ : ∃ dd, dig y 1 j = dd := ⟨_, rfl⟩
        have hdB : (dd == 1) = false := by rw [← hdd, beq_eq_false_iff_ne]; rw [show ((2 : Int) ^ 1 - 1) = 1 by decide] at hmax; exact hmax
        rw [hdd] at hcd
        clear hRDo hmax hdd
        go_wp2_with fail
        have e12 : (2 : Int) ^ (7 - j) % 256 = o := by rw [show 7 - j = 1 * (8 - 1 - j) from by omega, ho]; omega
        try rw [e12]
        have hw1 : IntKind.i64.wrap (p : Int) = (p : Int) := IntWalk.i64_in _ (by omega)
        have hw2 : IntKind.u8.wrap ((y : Int) + o) = (y : Int) + o := by rw [IntKind.wrap_u8]; omega
        have hpI : (p : Int) < (L : Int) := by omega
        have hpI0 : (0 : Int) ≤ (p : Int) := by omega
        go_region
        have hOb := hOa.stored p ((y : Int) + o)
        have hByb : Bys (st l p ((y : Int) + o)) := hby.st p ⟨by omega, by omega⟩
        have hKb : Below w.heap.size w ((wa.setCell ⟨g, p, none⟩ (.int .u8 ((y : Int) + o))).drew) := (((Kept.of_below (S := fun _ => False) hK0).set g p (.int .u8 ((y : Int) + o)) (.inl (by omega))).drew).below
        have hLs := HCH.out ((y : Int) + o) (1) hm1
        obtain ⟨z, hz⟩ : ∃ z, lackOf l 1 = z := ⟨_, rfl⟩
        have hz0 : 0 ≤ z := by rw [← hz]; exact lackOf_nn l 1
        have hz1 : z ≤ 100000000 := by
          have h := lackN_le (digL l 1) 1 (digL_nn l 1) (8 / 1 * l.length)
          rw [show ((2 : Int) ^ 1 - 1) = 1 by decide, HL.out] at h
          have h2 : lackOf l 1 = lackN (digL l 1) 1 (8 / 1 * l.length) := rfl
          rw [HL.out] at h2
          omega
        rw [hz] at hLs
        have hbl : (st l p ((y : Int) + o)).length = L := by rw [st_len, HL.out]
        have hRb : Rd (wa.setCell ⟨g, p, none⟩ (.int .u8 ((y : Int) + o))).drew (wa.setCell ⟨g, p, none⟩ (.int .u8 ((y : Int) + o))).drew.heap.size .u8 (some ⟨g, 0, none⟩) (st l p ((y : Int) + o)) := hOb.rd
        have hrb := hr.below hKb
        generalize (wa.setCell ⟨g, p, none⟩ (.int .u8 ((y : Int) + o))).drew = wb at hKb hRb hrb ⊢
        have hsb := hKb.size
        clear hOb hOa hcy hfy hcd hK0 hsa hm0 hm1 hw1 hw2 e12
        go_wp2_with fail
        refine (lack_any _ _ L ca 1 wb isW_1 hbl (by omega) hByb hRb).mono ?_
        rintro e w5 ⟨rfl, hb5⟩
        rw [hLs]
        have hK5 : Below w.heap.size w w5 := hKb.trans (hb5.mono hsb)
        have hLb := lack_any l A L c 1 w5 (.inl rfl) HL.out (by omega) hby ((hr.below hK5).more hK5.size)
        rw [hz] at hLb
        clear hb5 hRb hrb hLs hz
        go_wp2_with fail
        refine hLb.mono ?_
        rintro e w6 ⟨rfl, hb6⟩
        have hK6 : Below w.heap.size w w6 := hK5.trans (hb6.mono hK5.size)
        clear hLb hb6
        go_wp2_with fail
        go_ret
        exact ⟨by simp, hK6⟩

set_option maxRecDepth 100000 in
set_option maxHeartbeats 1000000 in
theorem raise7_2 (l : List Int) (A : Option Addr) (c t x : Nat) (w : World) (hr : Rd w w.heap.size .u8 A l) (hlc : l.length ≤ c) (hc : c ≤ 9223372036854775807) (hby : Bys l) (ht : (t : Int) < 65536) (hx1 : (x : Int) < 256) (hq : x % 4 = 1) :
    Calls Try.prog 7 #[.slice A l.length c, .int .u16 t, .int .u8 x] w fun e w' => e = .returned (.bool true) ∧ Below w.heap.size w w' := by
  have hqI : ((x : Int) % 4) = 1 := by omega
  obtain ⟨L, hL⟩ : ∃ L, l.length = L := ⟨_, rfl⟩
  rw [hL] at hlc ⊢
  have HL := Lib.hid hL
  clear hL hq
  go_enter Try.func7, Try.ntmps7
  go_wp2_with fail
  (with_reducible refine (awake7_any w).mono ?_)
  rintro e w1 ⟨rfl, hb1⟩
  have hs1 := hb1.size
  have hK2 : Below w.heap.size w (w1.alloc (.cells #[.int .i64 1, .int .i64 2, .int .i64 4, .int .i64 8] 3)) := hb1.alloc hs1 _
  have hW4 : Arr (w1.alloc (.cells #[.int .i64 1, .int .i64 2, .int .i64 4, .int .i64 8] 3)) w1.heap.size 3 .i64 [1, 2, 4, 8] := Arr.new w1 3 .i64 [1, 2, 4, 8]
  have hcl : (w1.alloc (.cells #[.int .i64 1, .int .i64 2, .int .i64 4, .int .i64 8] 3)).cell? ⟨w1.heap.size, 1, none⟩ = some (.int .i64 2) := hW4.cell 1 (by decide)
  clear hW4
  by_cases h0 : L = 0
  · have h0B : ((L : Int) == 0) = true := by simp [h0]
    clear h0
    go_wp2_with fail
    refine (lack_any [] none 0 0 2 _ (.inr (.inl rfl)) rfl (by decide) (fun _ h => by cases h) Rd.nil).mono ?_
    rintro e w3 ⟨rfl, hb3⟩
    rw [show lackOf [] 2 = 0 by rfl]
    have hK3 := hK2.trans (hb3.mono hK2.size)
    clear hb3 hcl hK2
    go_wp2_with fail
    go_ret
    exact ⟨rfl, hK3⟩
  · have h0B : ((L : Int) == 0) = false := by simp; omega
    by_cases h5 : 500 < L
    · have h5B : decide ((L : Int) > 500) = true := by simp; omega
      clear h5
      go_wp2_with fail
      refine (lack_any [] none 0 0 2 _ (.inr (.inl rfl)) rfl (by decide) (fun _ h => by cases h) Rd.nil).mono ?_
      rintro e w3 ⟨rfl, hb3⟩
      rw [show lackOf [] 2 = 0 by rfl]
      have hK3 := hK2.trans (hb3.mono hK2.size)
      clear hb3 hcl hK2
      go_wp2_with fail
      go_ret
      exact ⟨rfl, hK3⟩
    · have h5B : decide ((L : Int) > 500) = false := by simp; omega
      have hL5 : L ≤ 500 := by omega
      have hL1 : (1 : Int) ≤ (L : Int) := by omega
      have hL5I : (L : Int) ≤ 500 := by omega
      obtain ⟨i, hi⟩ : ∃ i, t % (4 * L) = i := ⟨_, rfl⟩
      have hiI : ((t : Int) % (4 * (L : Int))) = (i : Int) := by rw [← hi]; simp
      have hiL : i < 4 * L := by rw [← hi]; exact Nat.mod_lt _ (by omega)
      clear h0 h5
      go_wp2_with fail
      rw [hiI]
      obtain ⟨w2, hw2⟩ : ∃ w2, w1.alloc (.cells #[.int .i64 1, .int .i64 2, .int .i64 4, .int .i64 8] 3) = w2 := ⟨_, rfl⟩
      rw [hw2] at hK2 ⊢
      have hs2 := hK2.size
      clear hw2 hcl hb1 hs1
      have hr2 := (hr.below hK2).more hs2
      have hO := of_any l A L c 2 w2 (.inr (.inl rfl)) HL.out (by omega) hby hr2
      obtain ⟨p, hp⟩ : ∃ p, i / 4 = p := ⟨_, rfl⟩
      obtain ⟨j, hj⟩ : ∃ j, i % 4 = j := ⟨_, rfl⟩
      have hpL : p < L := by omega
      have hjP : j < 4 := by omega
      obtain ⟨y, hy⟩ : ∃ y, gt l p = y := ⟨_, rfl⟩
      have hyb := hby.gt p
      rw [hy] at hyb
      obtain ⟨y, rfl⟩ : ∃ n : Nat, y = n := ⟨y.toNat, by have := hyb.1; omega⟩
      have hy1 : (y : Int) < 256 := hyb.2
      obtain ⟨N, hN⟩ : ∃ N, (digL l 2).length = N := ⟨_, rfl⟩
      have hN2 : N = 4 * L := by rw [← hN, digL_len, HL.out]
      have hgd : gt (digL l 2) i = dig y 2 j := by
        rw [gt_digL _ _ _ (by rw [HL.out]; omega), show i / (8 / 2) = p from hp, show i % (8 / 2) = j from hj, hy]
      have hRD := raise_dig 2 (.inr (.inl rfl)) y (by omega) j hjP
      have hCH := fun y' e h => lack_change l 2 p j y' e (.inr (.inl rfl)) (by rw [HL.out]; exact hpL) hjP h
      rw [hy] at hCH
      obtain ⟨D, hD⟩ : ∃ D, digL l 2 = D := ⟨_, rfl⟩
      unfold OfPost at hO
      rw [hD] at hO hN hgd
      rw [hN] at hO
      have HN := Lib.hid hN
      have HGD := Lib.hid hgd
      have HRD := Lib.hid hRD
      have HCH := Lib.hid hCH
      have HP := Lib.hid hp
      have HJ := Lib.hid hj
      have HY := Lib.hid hy
      have hNne : ((N : Int) != 4 * (L : Int)) = false := by simp; omega
      have hiN : (i : Int) < (N : Int) := by omega
      have HI := Lib.hid hiL
      clear hD hN hgd hRD hCH hp hj hy hyb hr2 hi hiL hN2 hiI
      refine hO.mono ?_
      rintro e w3 ⟨A3, c3, rfl, hO3, hb3⟩
      have hK3 : Below w.heap.size w w3 := hK2.trans (hb3.mono hs2)
      have hs3 := hK3.size
      have hR3 := hO3.rd
      clear hO hO3 hb3 hK2 hs2
      have hmx : (200000000 : Nat) ≤ maxLen := by decide
      have hOe := Proofs.Ytigedohalangbaa.Own.lit (b := w3.heap.size) (e := 5) (k := .u8) w3 [] (by omega) (Nat.zero_le _)
      have hRe := ((hr.below hK3).more hs3).alloc (Nat.le_refl _) (.cells #[] 5)
      have hKe : Kept w3.heap.size (fun _ => False) w3 (w3.alloc (.cells #[] 5)) := (Kept.refl _ _ _).alloc _ (Nat.le_refl _)
      go_upto_region 12 with (at_builtin; (refine wpList_app rfl _ _ 22 5 .u8 1 rfl Try.underlying22 inf_u8 hOe hRe rfl rfl HL.out l rfl L HL.out (by omega) (by omega) (by simp) ?_; intro Aa ca wa hOa hga hfa))
      have hKa := hKe.grew hOe hga (by omega) (by simp)
      have hsa := hKa.size
      have hK0 := ((Kept.of_below (S := fun _ => False) hK3).trans (S' := fun _ => False) hKa hs3 (fun _ _ h => h)).below
      have hRD3 := hR3.kept hKa (Nat.le_refl _) (fun _ _ h => h)
      obtain ⟨a3, rfl, _, hcd⟩ := hRD3.at_ (i := i) (by have := HN.out; omega)
      rw [HGD.out] at hcd
      obtain ⟨g, rfl, hLx, hg1, hg2, _⟩ := hOa.where_ (by have := HL.out; omega)
      clear hLx
      have hcy := hOa.cell p (by have := HL.out; omega)
      have hfy := hOa.free p
      rw [HY.out] at hcy
      have hmod : (i : Int) % 4 = (j : Int) := by have := HJ.out; omega
      have hdiv : (i : Int) / 4 = (p : Int) := by have := HP.out; omega
      obtain ⟨o, ho⟩ : ∃ o : Int, (2 : Int) ^ (2 * (4 - 1 - j)) = o := ⟨_, rfl⟩
      have hRDo := HRD.out
      rw [show 8 / 2 = 4 from rfl, ho] at hRDo
      have hob : 0 < o ∧ o ≤ 128 := by
        have h : ∀ j, j < 4 → (0 : Int) < 2 ^ (2 * (4 - 1 - j)) ∧ (2 : Int) ^ (2 * (4 - 1 - j)) ≤ 128 := by decide
        rw [← ho]; exact h j hjP
      have ho0 := hob.1
      have ho1 := hob.2
      clear hOe hRe hKe hga hfa hKa hR3 hRD3 hK3 hob
      by_cases hmax : dig y 2 j = 2 ^ 2 - 1
      · obtain ⟨hm0, hm1⟩ := hRDo.1 hmax
        rw [hmax, show ((2 : Int) ^ 2 - 1) = 3 by decide] at hcd
        clear hRDo hmax
        go_wp2_with fail
        have e12 : (2 : Int) ^ (2 * (3 - j)) % 256 = o := by rw [show 2 * (3 - j) = 2 * (4 - 1 - j) from by omega, ho]; omega
        try rw [e12]
        have hw1 : IntKind.i64.wrap (p : Int) = (p : Int) := IntWalk.i64_in _ (by omega)
        have hw2 : IntKind.u8.wrap ((y : Int) - o) = (y : Int) - o := by rw [IntKind.wrap_u8]; omega
        have hpI : (p : Int) < (L : Int) := by omega
        have hpI0 : (0 : Int) ≤ (p : Int) := by omega
        go_region
        have hOb := hOa.stored p ((y : Int) - o)
        have hByb : Bys (st l p ((y : Int) - o)) := hby.st p ⟨by omega, by omega⟩
        have hKb : Below w.heap.size w ((wa.setCell ⟨g, p, none⟩ (.int .u8 ((y : Int) - o))).drew) := (((Kept.of_below (S := fun _ => False) hK0).set g p (.int .u8 ((y : Int) - o)) (.inl (by omega))).drew).below
        have hLs := HCH.out ((y : Int) - o) (-1) hm1
        obtain ⟨z, hz⟩ : ∃ z, lackOf l 2 = z := ⟨_, rfl⟩
        have hz0 : 0 ≤ z := by rw [← hz]; exact lackOf_nn l 2
        have hz1 : z ≤ 100000000 := by
          have h := lackN_le (digL l 2) 2 (digL_nn l 2) (8 / 2 * l.length)
          rw [show ((2 : Int) ^ 2 - 1) = 3 by decide, HL.out] at h
          have h2 : lackOf l 2 = lackN (digL l 2) 2 (8 / 2 * l.length) := rfl
          rw [HL.out] at h2
          omega
        rw [hz] at hLs
        have hbl : (st l p ((y : Int) - o)).length = L := by rw [st_len, HL.out]
        have hRb : Rd (wa.setCell ⟨g, p, none⟩ (.int .u8 ((y : Int) - o))).drew (wa.setCell ⟨g, p, none⟩ (.int .u8 ((y : Int) - o))).drew.heap.size .u8 (some ⟨g, 0, none⟩) (st l p ((y : Int) - o)) := hOb.rd
        have hrb := hr.below hKb
        generalize (wa.setCell ⟨g, p, none⟩ (.int .u8 ((y : Int) - o))).drew = wb at hKb hRb hrb ⊢
        have hsb := hKb.size
        clear hOb hOa hcy hfy hcd hK0 hsa hm0 hm1 hw1 hw2 e12
        go_wp2_with fail
        refine (lack_any _ _ L ca 2 wb isW_2 hbl (by omega) hByb hRb).mono ?_
        rintro e w5 ⟨rfl, hb5⟩
        rw [hLs]
        have hK5 : Below w.heap.size w w5 := hKb.trans (hb5.mono hsb)
        have hLb := lack_any l A L c 2 w5 (.inr (.inl rfl)) HL.out (by omega) hby ((hr.below hK5).more hK5.size)
        rw [hz] at hLb
        clear hb5 hRb hrb hLs hz
        go_wp2_with fail
        refine hLb.mono ?_
        rintro e w6 ⟨rfl, hb6⟩
        have hK6 : Below w.heap.size w w6 := hK5.trans (hb6.mono hK5.size)
        clear hLb hb6
        go_wp2_with fail
        go_ret
        exact ⟨by simp, hK6⟩
      · obtain ⟨hm0, hm1⟩ := hRDo.2 hmax
        obtain ⟨dd, hdd⟩ : ∃ dd, dig y 2 j = dd := ⟨_, rfl⟩
        have hdB : (dd == 3) = false := by rw [← hdd, beq_eq_false_iff_ne]; rw [show ((2 : Int) ^ 2 - 1) = 3 by decide] at hmax; exact hmax
        rw [hdd] at hcd
        clear hRDo hmax hdd
        go_wp2_with fail
        have e12 : (2 : Int) ^ (2 * (3 - j)) % 256 = o := by rw [show 2 * (3 - j) = 2 * (4 - 1 - j) from by omega, ho]; omega
        try rw [e12]
        have hw1 : IntKind.i64.wrap (p : Int) = (p : Int) := IntWalk.i64_in _ (by omega)
        have hw2 : IntKind.u8.wrap ((y : Int) + o) = (y : Int) + o := by rw [IntKind.wrap_u8]; omega
        have hpI : (p : Int) < (L : Int) := by omega
        have hpI0 : (0 : Int) ≤ (p : Int) := by omega
        go_region
        have hOb := hOa.stored p ((y : Int) + o)
        have hByb : Bys (st l p ((y : Int) + o)) := hby.st p ⟨by omega, by omega⟩
        have hKb : Below w.heap.size w ((wa.setCell ⟨g, p, none⟩ (.int .u8 ((y : Int) + o))).drew) := (((Kept.of_below (S := fun _ => False) hK0).set g p (.int .u8 ((y : Int) + o)) (.inl (by omega))).drew).below
        have hLs := HCH.out ((y : Int) + o) (1) hm1
        obtain ⟨z, hz⟩ : ∃ z, lackOf l 2 = z := ⟨_, rfl⟩
        have hz0 : 0 ≤ z := by rw [← hz]; exact lackOf_nn l 2
        have hz1 : z ≤ 100000000 := by
          have h := lackN_le (digL l 2) 2 (digL_nn l 2) (8 / 2 * l.length)
          rw [show ((2 : Int) ^ 2 - 1) = 3 by decide, HL.out] at h
          have h2 : lackOf l 2 = lackN (digL l 2) 2 (8 / 2 * l.length) := rfl
          rw [HL.out] at h2
          omega
        rw [hz] at hLs
        have hbl : (st l p ((y : Int) + o)).length = L := by rw [st_len, HL.out]
        have hRb : Rd (wa.setCell ⟨g, p, none⟩ (.int .u8 ((y : Int) + o))).drew (wa.setCell ⟨g, p, none⟩ (.int .u8 ((y : Int) + o))).drew.heap.size .u8 (some ⟨g, 0, none⟩) (st l p ((y : Int) + o)) := hOb.rd
        have hrb := hr.below hKb
        generalize (wa.setCell ⟨g, p, none⟩ (.int .u8 ((y : Int) + o))).drew = wb at hKb hRb hrb ⊢
        have hsb := hKb.size
        clear hOb hOa hcy hfy hcd hK0 hsa hm0 hm1 hw1 hw2 e12
        go_wp2_with fail
        refine (lack_any _ _ L ca 2 wb isW_2 hbl (by omega) hByb hRb).mono ?_
        rintro e w5 ⟨rfl, hb5⟩
        rw [hLs]
        have hK5 : Below w.heap.size w w5 := hKb.trans (hb5.mono hsb)
        have hLb := lack_any l A L c 2 w5 (.inr (.inl rfl)) HL.out (by omega) hby ((hr.below hK5).more hK5.size)
        rw [hz] at hLb
        clear hb5 hRb hrb hLs hz
        go_wp2_with fail
        refine hLb.mono ?_
        rintro e w6 ⟨rfl, hb6⟩
        have hK6 : Below w.heap.size w w6 := hK5.trans (hb6.mono hK5.size)
        clear hLb hb6
        go_wp2_with fail
        go_ret
        exact ⟨by simp, hK6⟩

set_option maxRecDepth 100000 in
set_option maxHeartbeats 1000000 in
theorem raise7_4 (l : List Int) (A : Option Addr) (c t x : Nat) (w : World) (hr : Rd w w.heap.size .u8 A l) (hlc : l.length ≤ c) (hc : c ≤ 9223372036854775807) (hby : Bys l) (ht : (t : Int) < 65536) (hx1 : (x : Int) < 256) (hq : x % 4 = 2) :
    Calls Try.prog 7 #[.slice A l.length c, .int .u16 t, .int .u8 x] w fun e w' => e = .returned (.bool true) ∧ Below w.heap.size w w' := by
  have hqI : ((x : Int) % 4) = 2 := by omega
  obtain ⟨L, hL⟩ : ∃ L, l.length = L := ⟨_, rfl⟩
  rw [hL] at hlc ⊢
  have HL := Lib.hid hL
  clear hL hq
  go_enter Try.func7, Try.ntmps7
  go_wp2_with fail
  (with_reducible refine (awake7_any w).mono ?_)
  rintro e w1 ⟨rfl, hb1⟩
  have hs1 := hb1.size
  have hK2 : Below w.heap.size w (w1.alloc (.cells #[.int .i64 1, .int .i64 2, .int .i64 4, .int .i64 8] 3)) := hb1.alloc hs1 _
  have hW4 : Arr (w1.alloc (.cells #[.int .i64 1, .int .i64 2, .int .i64 4, .int .i64 8] 3)) w1.heap.size 3 .i64 [1, 2, 4, 8] := Arr.new w1 3 .i64 [1, 2, 4, 8]
  have hcl : (w1.alloc (.cells #[.int .i64 1, .int .i64 2, .int .i64 4, .int .i64 8] 3)).cell? ⟨w1.heap.size, 2, none⟩ = some (.int .i64 4) := hW4.cell 2 (by decide)
  clear hW4
  by_cases h0 : L = 0
  · have h0B : ((L : Int) == 0) = true := by simp [h0]
    clear h0
    go_wp2_with fail
    refine (lack_any [] none 0 0 4 _ (.inr (.inr (.inl rfl))) rfl (by decide) (fun _ h => by cases h) Rd.nil).mono ?_
    rintro e w3 ⟨rfl, hb3⟩
    rw [show lackOf [] 4 = 0 by rfl]
    have hK3 := hK2.trans (hb3.mono hK2.size)
    clear hb3 hcl hK2
    go_wp2_with fail
    go_ret
    exact ⟨rfl, hK3⟩
  · have h0B : ((L : Int) == 0) = false := by simp; omega
    by_cases h5 : 500 < L
    · have h5B : decide ((L : Int) > 500) = true := by simp; omega
      clear h5
      go_wp2_with fail
      refine (lack_any [] none 0 0 4 _ (.inr (.inr (.inl rfl))) rfl (by decide) (fun _ h => by cases h) Rd.nil).mono ?_
      rintro e w3 ⟨rfl, hb3⟩
      rw [show lackOf [] 4 = 0 by rfl]
      have hK3 := hK2.trans (hb3.mono hK2.size)
      clear hb3 hcl hK2
      go_wp2_with fail
      go_ret
      exact ⟨rfl, hK3⟩
    · have h5B : decide ((L : Int) > 500) = false := by simp; omega
      have hL5 : L ≤ 500 := by omega
      have hL1 : (1 : Int) ≤ (L : Int) := by omega
      have hL5I : (L : Int) ≤ 500 := by omega
      obtain ⟨i, hi⟩ : ∃ i, t % (2 * L) = i := ⟨_, rfl⟩
      have hiI : ((t : Int) % (2 * (L : Int))) = (i : Int) := by rw [← hi]; simp
      have hiL : i < 2 * L := by rw [← hi]; exact Nat.mod_lt _ (by omega)
      clear h0 h5
      go_wp2_with fail
      rw [hiI]
      obtain ⟨w2, hw2⟩ : ∃ w2, w1.alloc (.cells #[.int .i64 1, .int .i64 2, .int .i64 4, .int .i64 8] 3) = w2 := ⟨_, rfl⟩
      rw [hw2] at hK2 ⊢
      have hs2 := hK2.size
      clear hw2 hcl hb1 hs1
      have hr2 := (hr.below hK2).more hs2
      have hO := of_any l A L c 4 w2 (.inr (.inr (.inl rfl))) HL.out (by omega) hby hr2
      obtain ⟨p, hp⟩ : ∃ p, i / 2 = p := ⟨_, rfl⟩
      obtain ⟨j, hj⟩ : ∃ j, i % 2 = j := ⟨_, rfl⟩
      have hpL : p < L := by omega
      have hjP : j < 2 := by omega
      obtain ⟨y, hy⟩ : ∃ y, gt l p = y := ⟨_, rfl⟩
      have hyb := hby.gt p
      rw [hy] at hyb
      obtain ⟨y, rfl⟩ : ∃ n : Nat, y = n := ⟨y.toNat, by have := hyb.1; omega⟩
      have hy1 : (y : Int) < 256 := hyb.2
      obtain ⟨N, hN⟩ : ∃ N, (digL l 4).length = N := ⟨_, rfl⟩
      have hN2 : N = 2 * L := by rw [← hN, digL_len, HL.out]
      have hgd : gt (digL l 4) i = dig y 4 j := by
        rw [gt_digL _ _ _ (by rw [HL.out]; omega), show i / (8 / 4) = p from hp, show i % (8 / 4) = j from hj, hy]
      have hRD := raise_dig 4 (.inr (.inr (.inl rfl))) y (by omega) j hjP
      have hCH := fun y' e h => lack_change l 4 p j y' e (.inr (.inr (.inl rfl))) (by rw [HL.out]; exact hpL) hjP h
      rw [hy] at hCH
      obtain ⟨D, hD⟩ : ∃ D, digL l 4 = D := ⟨_, rfl⟩
      unfold OfPost at hO
      rw [hD] at hO hN hgd
      rw [hN] at hO
      have HN := Lib.hid hN
      have HGD := Lib.hid hgd
      have HRD := Lib.hid hRD
      have HCH := Lib.hid hCH
      have HP := Lib.hid hp
      have HJ := Lib.hid hj
      have HY := Lib.hid hy
      have hNne : ((N : Int) != 2 * (L : Int)) = false := by simp; omega
      have hiN : (i : Int) < (N : Int) := by omega
      have HI := Lib.hid hiL
      clear hD hN hgd hRD hCH hp hj hy hyb hr2 hi hiL hN2 hiI
      refine hO.mono ?_
      rintro e w3 ⟨A3, c3, rfl, hO3, hb3⟩
      have hK3 : Below w.heap.size w w3 := hK2.trans (hb3.mono hs2)
      have hs3 := hK3.size
      have hR3 := hO3.rd
      clear hO hO3 hb3 hK2 hs2
      have hmx : (200000000 : Nat) ≤ maxLen := by decide
      have hOe := Proofs.Ytigedohalangbaa.Own.lit (b := w3.heap.size) (e := 5) (k := .u8) w3 [] (by omega) (Nat.zero_le _)
      have hRe := ((hr.below hK3).more hs3).alloc (Nat.le_refl _) (.cells #[] 5)
      have hKe : Kept w3.heap.size (fun _ => False) w3 (w3.alloc (.cells #[] 5)) := (Kept.refl _ _ _).alloc _ (Nat.le_refl _)
      go_upto_region 12 with (at_builtin; (refine wpList_app rfl _ _ 22 5 .u8 1 rfl Try.underlying22 inf_u8 hOe hRe rfl rfl HL.out l rfl L HL.out (by omega) (by omega) (by simp) ?_; intro Aa ca wa hOa hga hfa))
      have hKa := hKe.grew hOe hga (by omega) (by simp)
      have hsa := hKa.size
      have hK0 := ((Kept.of_below (S := fun _ => False) hK3).trans (S' := fun _ => False) hKa hs3 (fun _ _ h => h)).below
      have hRD3 := hR3.kept hKa (Nat.le_refl _) (fun _ _ h => h)
      obtain ⟨a3, rfl, _, hcd⟩ := hRD3.at_ (i := i) (by have := HN.out; omega)
      rw [HGD.out] at hcd
      obtain ⟨g, rfl, hLx, hg1, hg2, _⟩ := hOa.where_ (by have := HL.out; omega)
      clear hLx
      have hcy := hOa.cell p (by have := HL.out; omega)
      have hfy := hOa.free p
      rw [HY.out] at hcy
      have hmod : (i : Int) % 2 = (j : Int) := by have := HJ.out; omega
      have hdiv : (i : Int) / 2 = (p : Int) := by have := HP.out; omega
      obtain ⟨o, ho⟩ : ∃ o : Int, (2 : Int) ^ (4 * (2 - 1 - j)) = o := ⟨_, rfl⟩
      have hRDo := HRD.out
      rw [show 8 / 4 = 2 from rfl, ho] at hRDo
      have hob : 0 < o ∧ o ≤ 128 := by
        have h : ∀ j, j < 2 → (0 : Int) < 2 ^ (4 * (2 - 1 - j)) ∧ (2 : Int) ^ (4 * (2 - 1 - j)) ≤ 128 := by decide
        rw [← ho]; exact h j hjP
      have ho0 := hob.1
      have ho1 := hob.2
      clear hOe hRe hKe hga hfa hKa hR3 hRD3 hK3 hob
      by_cases hmax : dig y 4 j = 2 ^ 4 - 1
      · obtain ⟨hm0, hm1⟩ := hRDo.1 hmax
        rw [hmax, show ((2 : Int) ^ 4 - 1) = 15 by decide] at hcd
        clear hRDo hmax
        go_wp2_with fail
        have e12 : (2 : Int) ^ (4 * (1 - j)) % 256 = o := by rw [show 4 * (1 - j) = 4 * (2 - 1 - j) from by omega, ho]; omega
        try rw [e12]
        have hw1 : IntKind.i64.wrap (p : Int) = (p : Int) := IntWalk.i64_in _ (by omega)
        have hw2 : IntKind.u8.wrap ((y : Int) - o) = (y : Int) - o := by rw [IntKind.wrap_u8]; omega
        have hpI : (p : Int) < (L : Int) := by omega
        have hpI0 : (0 : Int) ≤ (p : Int) := by omega
        go_region
        have hOb := hOa.stored p ((y : Int) - o)
        have hByb : Bys (st l p ((y : Int) - o)) := hby.st p ⟨by omega, by omega⟩
        have hKb : Below w.heap.size w ((wa.setCell ⟨g, p, none⟩ (.int .u8 ((y : Int) - o))).drew) := (((Kept.of_below (S := fun _ => False) hK0).set g p (.int .u8 ((y : Int) - o)) (.inl (by omega))).drew).below
        have hLs := HCH.out ((y : Int) - o) (-1) hm1
        obtain ⟨z, hz⟩ : ∃ z, lackOf l 4 = z := ⟨_, rfl⟩
        have hz0 : 0 ≤ z := by rw [← hz]; exact lackOf_nn l 4
        have hz1 : z ≤ 100000000 := by
          have h := lackN_le (digL l 4) 4 (digL_nn l 4) (8 / 4 * l.length)
          rw [show ((2 : Int) ^ 4 - 1) = 15 by decide, HL.out] at h
          have h2 : lackOf l 4 = lackN (digL l 4) 4 (8 / 4 * l.length) := rfl
          rw [HL.out] at h2
          omega
        rw [hz] at hLs
        have hbl : (st l p ((y : Int) - o)).length = L := by rw [st_len, HL.out]
        have hRb : Rd (wa.setCell ⟨g, p, none⟩ (.int .u8 ((y : Int) - o))).drew (wa.setCell ⟨g, p, none⟩ (.int .u8 ((y : Int) - o))).drew.heap.size .u8 (some ⟨g, 0, none⟩) (st l p ((y : Int) - o)) := hOb.rd
        have hrb := hr.below hKb
        generalize (wa.setCell ⟨g, p, none⟩ (.int .u8 ((y : Int) - o))).drew = wb at hKb hRb hrb ⊢
        have hsb := hKb.size
        clear hOb hOa hcy hfy hcd hK0 hsa hm0 hm1 hw1 hw2 e12
        go_wp2_with fail
        refine (lack_any _ _ L ca 4 wb isW_4 hbl (by omega) hByb hRb).mono ?_
        rintro e w5 ⟨rfl, hb5⟩
        rw [hLs]
        have hK5 : Below w.heap.size w w5 := hKb.trans (hb5.mono hsb)
        have hLb := lack_any l A L c 4 w5 (.inr (.inr (.inl rfl))) HL.out (by omega) hby ((hr.below hK5).more hK5.size)
        rw [hz] at hLb
        clear hb5 hRb hrb hLs hz
        go_wp2_with fail
        refine hLb.mono ?_
        rintro e w6 ⟨rfl, hb6⟩
        have hK6 : Below w.heap.size w w6 := hK5.trans (hb6.mono hK5.size)
        clear hLb hb6
        go_wp2_with fail
        go_ret
        exact ⟨by simp, hK6⟩
      · obtain ⟨hm0, hm1⟩ := hRDo.2 hmax
        obtain ⟨dd, hdd⟩ : ∃ dd, dig y 4 j = dd := ⟨_, rfl⟩
        have hdB : (dd == 15) = false := by rw [← hdd, beq_eq_false_iff_ne]; rw [show ((2 : Int) ^ 4 - 1) = 15 by decide] at hmax; exact hmax
        rw [hdd] at hcd
        clear hRDo hmax hdd
        go_wp2_with fail
        have e12 : (2 : Int) ^ (4 * (1 - j)) % 256 = o := by rw [show 4 * (1 - j) = 4 * (2 - 1 - j) from by omega, ho]; omega
        try rw [e12]
        have hw1 : IntKind.i64.wrap (p : Int) = (p : Int) := IntWalk.i64_in _ (by omega)
        have hw2 : IntKind.u8.wrap ((y : Int) + o) = (y : Int) + o := by rw [IntKind.wrap_u8]; omega
        have hpI : (p : Int) < (L : Int) := by omega
        have hpI0 : (0 : Int) ≤ (p : Int) := by omega
        go_region
        have hOb := hOa.stored p ((y : Int) + o)
        have hByb : Bys (st l p ((y : Int) + o)) := hby.st p ⟨by omega, by omega⟩
        have hKb : Below w.heap.size w ((wa.setCell ⟨g, p, none⟩ (.int .u8 ((y : Int) + o))).drew) := (((Kept.of_below (S := fun _ => False) hK0).set g p (.int .u8 ((y : Int) + o)) (.inl (by omega))).drew).below
        have hLs := HCH.out ((y : Int) + o) (1) hm1
        obtain ⟨z, hz⟩ : ∃ z, lackOf l 4 = z := ⟨_, rfl⟩
        have hz0 : 0 ≤ z := by rw [← hz]; exact lackOf_nn l 4
        have hz1 : z ≤ 100000000 := by
          have h := lackN_le (digL l 4) 4 (digL_nn l 4) (8 / 4 * l.length)
          rw [show ((2 : Int) ^ 4 - 1) = 15 by decide, HL.out] at h
          have h2 : lackOf l 4 = lackN (digL l 4) 4 (8 / 4 * l.length) := rfl
          rw [HL.out] at h2
          omega
        rw [hz] at hLs
        have hbl : (st l p ((y : Int) + o)).length = L := by rw [st_len, HL.out]
        have hRb : Rd (wa.setCell ⟨g, p, none⟩ (.int .u8 ((y : Int) + o))).drew (wa.setCell ⟨g, p, none⟩ (.int .u8 ((y : Int) + o))).drew.heap.size .u8 (some ⟨g, 0, none⟩) (st l p ((y : Int) + o)) := hOb.rd
        have hrb := hr.below hKb
        generalize (wa.setCell ⟨g, p, none⟩ (.int .u8 ((y : Int) + o))).drew = wb at hKb hRb hrb ⊢
        have hsb := hKb.size
        clear hOb hOa hcy hfy hcd hK0 hsa hm0 hm1 hw1 hw2 e12
        go_wp2_with fail
        refine (lack_any _ _ L ca 4 wb isW_4 hbl (by omega) hByb hRb).mono ?_
        rintro e w5 ⟨rfl, hb5⟩
        rw [hLs]
        have hK5 : Below w.heap.size w w5 := hKb.trans (hb5.mono hsb)
        have hLb := lack_any l A L c 4 w5 (.inr (.inr (.inl rfl))) HL.out (by omega) hby ((hr.below hK5).more hK5.size)
        rw [hz] at hLb
        clear hb5 hRb hrb hLs hz
        go_wp2_with fail
        refine hLb.mono ?_
        rintro e w6 ⟨rfl, hb6⟩
        have hK6 : Below w.heap.size w w6 := hK5.trans (hb6.mono hK5.size)
        clear hLb hb6
        go_wp2_with fail
        go_ret
        exact ⟨by simp, hK6⟩

set_option maxRecDepth 100000 in
set_option maxHeartbeats 1000000 in
theorem raise7_8 (l : List Int) (A : Option Addr) (c t x : Nat) (w : World) (hr : Rd w w.heap.size .u8 A l) (hlc : l.length ≤ c) (hc : c ≤ 9223372036854775807) (hby : Bys l) (ht : (t : Int) < 65536) (hx1 : (x : Int) < 256) (hq : x % 4 = 3) :
    Calls Try.prog 7 #[.slice A l.length c, .int .u16 t, .int .u8 x] w fun e w' => e = .returned (.bool true) ∧ Below w.heap.size w w' := by
  have hqI : ((x : Int) % 4) = 3 := by omega
  obtain ⟨L, hL⟩ : ∃ L, l.length = L := ⟨_, rfl⟩
  rw [hL] at hlc ⊢
  have HL := Lib.hid hL
  clear hL hq
  go_enter Try.func7, Try.ntmps7
  go_wp2_with fail
  (with_reducible refine (awake7_any w).mono ?_)
  rintro e w1 ⟨rfl, hb1⟩
  have hs1 := hb1.size
  have hK2 : Below w.heap.size w (w1.alloc (.cells #[.int .i64 1, .int .i64 2, .int .i64 4, .int .i64 8] 3)) := hb1.alloc hs1 _
  have hW4 : Arr (w1.alloc (.cells #[.int .i64 1, .int .i64 2, .int .i64 4, .int .i64 8] 3)) w1.heap.size 3 .i64 [1, 2, 4, 8] := Arr.new w1 3 .i64 [1, 2, 4, 8]
  have hcl : (w1.alloc (.cells #[.int .i64 1, .int .i64 2, .int .i64 4, .int .i64 8] 3)).cell? ⟨w1.heap.size, 3, none⟩ = some (.int .i64 8) := hW4.cell 3 (by decide)
  clear hW4
  by_cases h0 : L = 0
  · have h0B : ((L : Int) == 0) = true := by simp [h0]
    clear h0
    go_wp2_with fail
    refine (lack_any [] none 0 0 8 _ (.inr (.inr (.inr rfl))) rfl (by decide) (fun _ h => by cases h) Rd.nil).mono ?_
    rintro e w3 ⟨rfl, hb3⟩
    rw [show lackOf [] 8 = 0 by rfl]
    have hK3 := hK2.trans (hb3.mono hK2.size)
    clear hb3 hcl hK2
    go_wp2_with fail
    go_ret
    exact ⟨rfl, hK3⟩
  · have h0B : ((L : Int) == 0) = false := by simp; omega
    by_cases h5 : 500 < L
    · have h5B : decide ((L : Int) > 500) = true := by simp; omega
      clear h5
      go_wp2_with fail
      refine (lack_any [] none 0 0 8 _ (.inr (.inr (.inr rfl))) rfl (by decide) (fun _ h => by cases h) Rd.nil).mono ?_
      rintro e w3 ⟨rfl, hb3⟩
      rw [show lackOf [] 8 = 0 by rfl]
      have hK3 := hK2.trans (hb3.mono hK2.size)
      clear hb3 hcl hK2
      go_wp2_with fail
      go_ret
      exact ⟨rfl, hK3⟩
    · have h5B : decide ((L : Int) > 500) = false := by simp; omega
      have hL5 : L ≤ 500 := by omega
      have hL1 : (1 : Int) ≤ (L : Int) := by omega
      have hL5I : (L : Int) ≤ 500 := by omega
      obtain ⟨i, hi⟩ : ∃ i, t % (1 * L) = i := ⟨_, rfl⟩
      have hiI : ((t : Int) % ((L : Int))) = (i : Int) := by rw [← hi]; simp
      have hiL : i < 1 * L := by rw [← hi]; exact Nat.mod_lt _ (by omega)
      clear h0 h5
      go_wp2_with fail
      rw [hiI]
      obtain ⟨w2, hw2⟩ : ∃ w2, w1.alloc (.cells #[.int .i64 1, .int .i64 2, .int .i64 4, .int .i64 8] 3) = w2 := ⟨_, rfl⟩
      rw [hw2] at hK2 ⊢
      have hs2 := hK2.size
      clear hw2 hcl hb1 hs1
      have hr2 := (hr.below hK2).more hs2
      have hO := of_any l A L c 8 w2 (.inr (.inr (.inr rfl))) HL.out (by omega) hby hr2
      obtain ⟨p, hp⟩ : ∃ p, i / 1 = p := ⟨_, rfl⟩
      obtain ⟨j, hj⟩ : ∃ j, i % 1 = j := ⟨_, rfl⟩
      obtain rfl : i = p := by omega
      have hpL : i < L := by omega
      have hjP : j < 1 := by omega
      obtain ⟨y, hy⟩ : ∃ y, gt l i = y := ⟨_, rfl⟩
      have hyb := hby.gt i
      rw [hy] at hyb
      obtain ⟨y, rfl⟩ : ∃ n : Nat, y = n := ⟨y.toNat, by have := hyb.1; omega⟩
      have hy1 : (y : Int) < 256 := hyb.2
      obtain ⟨N, hN⟩ : ∃ N, (digL l 8).length = N := ⟨_, rfl⟩
      have hN2 : N = 1 * L := by rw [← hN, digL_len, HL.out]
      have hgd : gt (digL l 8) i = dig y 8 j := by
        rw [gt_digL _ _ _ (by rw [HL.out]; omega), show i / (8 / 8) = i from hp, show i % (8 / 8) = j from hj, hy]
      have hRD := raise_dig 8 (.inr (.inr (.inr rfl))) y (by omega) j hjP
      have hCH := fun y' e h => lack_change l 8 i j y' e (.inr (.inr (.inr rfl))) (by rw [HL.out]; exact hpL) hjP h
      rw [hy] at hCH
      obtain ⟨D, hD⟩ : ∃ D, digL l 8 = D := ⟨_, rfl⟩
      unfold OfPost at hO
      rw [hD] at hO hN hgd
      rw [hN] at hO
      have HN := Lib.hid hN
      have HGD := Lib.hid hgd
      have HRD := Lib.hid hRD
      have HCH := Lib.hid hCH
      have HP := Lib.hid hp
      have HJ := Lib.hid hj
      have HY := Lib.hid hy
      have hNne : ((N : Int) != (L : Int)) = false := by simp; omega
      have hiN : (i : Int) < (N : Int) := by omega
      have HI := Lib.hid hiL
      clear hD hN hgd hRD hCH hp hj hy hyb hr2 hi hiL hN2 hiI
      refine hO.mono ?_
      rintro e w3 ⟨A3, c3, rfl, hO3, hb3⟩
      have hK3 : Below w.heap.size w w3 := hK2.trans (hb3.mono hs2)
      have hs3 := hK3.size
      have hR3 := hO3.rd
      clear hO hO3 hb3 hK2 hs2
      have hmx : (200000000 : Nat) ≤ maxLen := by decide
      have hOe := Proofs.Ytigedohalangbaa.Own.lit (b := w3.heap.size) (e := 5) (k := .u8) w3 [] (by omega) (Nat.zero_le _)
      have hRe := ((hr.below hK3).more hs3).alloc (Nat.le_refl _) (.cells #[] 5)
      have hKe : Kept w3.heap.size (fun _ => False) w3 (w3.alloc (.cells #[] 5)) := (Kept.refl _ _ _).alloc _ (Nat.le_refl _)
      go_upto_region 12 with (at_builtin; (refine wpList_app rfl _ _ 22 5 .u8 1 rfl Try.underlying22 inf_u8 hOe hRe rfl rfl HL.out l rfl L HL.out (by omega) (by omega) (by simp) ?_; intro Aa ca wa hOa hga hfa))
      have hKa := hKe.grew hOe hga (by omega) (by simp)
      have hsa := hKa.size
      have hK0 := ((Kept.of_below (S := fun _ => False) hK3).trans (S' := fun _ => False) hKa hs3 (fun _ _ h => h)).below
      have hRD3 := hR3.kept hKa (Nat.le_refl _) (fun _ _ h => h)
      obtain ⟨a3, rfl, _, hcd⟩ := hRD3.at_ (i := i) (by have := HN.out; omega)
      rw [HGD.out] at hcd
      obtain ⟨g, rfl, hLx, hg1, hg2, _⟩ := hOa.where_ (by have := HL.out; omega)
      clear hLx
      have hcy := hOa.cell i (by have := HL.out; omega)
      have hfy := hOa.free i
      rw [HY.out] at hcy
      have hmod : (i : Int) % 1 = (j : Int) := by have := HJ.out; omega
      have hdiv : (i : Int) / 1 = (i : Int) := by have := HP.out; omega
      obtain ⟨o, ho⟩ : ∃ o : Int, (2 : Int) ^ (8 * (1 - 1 - j)) = o := ⟨_, rfl⟩
      have hRDo := HRD.out
      rw [show 8 / 8 = 1 from rfl, ho] at hRDo
      have hob : 0 < o ∧ o ≤ 128 := by
        have h : ∀ j, j < 1 → (0 : Int) < 2 ^ (8 * (1 - 1 - j)) ∧ (2 : Int) ^ (8 * (1 - 1 - j)) ≤ 128 := by decide
        rw [← ho]; exact h j hjP
      have ho0 := hob.1
      have ho1 := hob.2
      obtain rfl : o = 1 := by
        have hj0 : j = 0 := by omega
        rw [hj0] at ho; exact ho.symm
      clear hOe hRe hKe hga hfa hKa hR3 hRD3 hK3 hob
      by_cases hmax : dig y 8 j = 2 ^ 8 - 1
      · obtain ⟨hm0, hm1⟩ := hRDo.1 hmax
        rw [hmax, show ((2 : Int) ^ 8 - 1) = 255 by decide] at hcd
        clear hRDo hmax
        go_wp2_with fail
        have e12 : True := trivial
        have hw1 : IntKind.i64.wrap (i : Int) = (i : Int) := IntWalk.i64_in _ (by omega)
        have hw2 : IntKind.u8.wrap ((y : Int) - (1 : Int)) = (y : Int) - (1 : Int) := by rw [IntKind.wrap_u8]; omega
        have hpI : (i : Int) < (L : Int) := by omega
        have hpI0 : (0 : Int) ≤ (i : Int) := by omega
        go_region
        have hOb := hOa.stored i ((y : Int) - (1 : Int))
        have hByb : Bys (st l i ((y : Int) - (1 : Int))) := hby.st i ⟨by omega, by omega⟩
        have hKb : Below w.heap.size w ((wa.setCell ⟨g, i, none⟩ (.int .u8 ((y : Int) - (1 : Int)))).drew) := (((Kept.of_below (S := fun _ => False) hK0).set g i (.int .u8 ((y : Int) - (1 : Int))) (.inl (by omega))).drew).below
        have hLs := HCH.out ((y : Int) - (1 : Int)) (-1) hm1
        obtain ⟨z, hz⟩ : ∃ z, lackOf l 8 = z := ⟨_, rfl⟩
        have hz0 : 0 ≤ z := by rw [← hz]; exact lackOf_nn l 8
        have hz1 : z ≤ 100000000 := by
          have h := lackN_le (digL l 8) 8 (digL_nn l 8) (8 / 8 * l.length)
          rw [show ((2 : Int) ^ 8 - 1) = 255 by decide, HL.out] at h
          have h2 : lackOf l 8 = lackN (digL l 8) 8 (8 / 8 * l.length) := rfl
          rw [HL.out] at h2
          omega
        rw [hz] at hLs
        have hbl : (st l i ((y : Int) - (1 : Int))).length = L := by rw [st_len, HL.out]
        have hRb : Rd (wa.setCell ⟨g, i, none⟩ (.int .u8 ((y : Int) - (1 : Int)))).drew (wa.setCell ⟨g, i, none⟩ (.int .u8 ((y : Int) - (1 : Int)))).drew.heap.size .u8 (some ⟨g, 0, none⟩) (st l i ((y : Int) - (1 : Int))) := hOb.rd
        have hrb := hr.below hKb
        generalize (wa.setCell ⟨g, i, none⟩ (.int .u8 ((y : Int) - (1 : Int)))).drew = wb at hKb hRb hrb ⊢
        have hsb := hKb.size
        clear hOb hOa hcy hfy hcd hK0 hsa hm0 hm1 hw1 hw2 e12
        go_wp2_with fail
        refine (lack_any _ _ L ca 8 wb isW_8 hbl (by omega) hByb hRb).mono ?_
        rintro e w5 ⟨rfl, hb5⟩
        rw [hLs]
        have hK5 : Below w.heap.size w w5 := hKb.trans (hb5.mono hsb)
        have hLb := lack_any l A L c 8 w5 (.inr (.inr (.inr rfl))) HL.out (by omega) hby ((hr.below hK5).more hK5.size)
        rw [hz] at hLb
        clear hb5 hRb hrb hLs hz
        go_wp2_with fail
        refine hLb.mono ?_
        rintro e w6 ⟨rfl, hb6⟩
        have hK6 : Below w.heap.size w w6 := hK5.trans (hb6.mono hK5.size)
        clear hLb hb6
        go_wp2_with fail
        go_ret
        exact ⟨by simp, hK6⟩
      · obtain ⟨hm0, hm1⟩ := hRDo.2 hmax
        obtain ⟨dd, hdd⟩ : ∃ dd, dig y 8 j = dd := ⟨_, rfl⟩
        have hdB : (dd == 255) = false := by rw [← hdd, beq_eq_false_iff_ne]; rw [show ((2 : Int) ^ 8 - 1) = 255 by decide] at hmax; exact hmax
        rw [hdd] at hcd
        clear hRDo hmax hdd
        go_wp2_with fail
        have e12 : True := trivial
        have hw1 : IntKind.i64.wrap (i : Int) = (i : Int) := IntWalk.i64_in _ (by omega)
        have hw2 : IntKind.u8.wrap ((y : Int) + (1 : Int)) = (y : Int) + (1 : Int) := by rw [IntKind.wrap_u8]; omega
        have hpI : (i : Int) < (L : Int) := by omega
        have hpI0 : (0 : Int) ≤ (i : Int) := by omega
        go_region
        have hOb := hOa.stored i ((y : Int) + (1 : Int))
        have hByb : Bys (st l i ((y : Int) + (1 : Int))) := hby.st i ⟨by omega, by omega⟩
        have hKb : Below w.heap.size w ((wa.setCell ⟨g, i, none⟩ (.int .u8 ((y : Int) + (1 : Int)))).drew) := (((Kept.of_below (S := fun _ => False) hK0).set g i (.int .u8 ((y : Int) + (1 : Int))) (.inl (by omega))).drew).below
        have hLs := HCH.out ((y : Int) + (1 : Int)) (1) hm1
        obtain ⟨z, hz⟩ : ∃ z, lackOf l 8 = z := ⟨_, rfl⟩
        have hz0 : 0 ≤ z := by rw [← hz]; exact lackOf_nn l 8
        have hz1 : z ≤ 100000000 := by
          have h := lackN_le (digL l 8) 8 (digL_nn l 8) (8 / 8 * l.length)
          rw [show ((2 : Int) ^ 8 - 1) = 255 by decide, HL.out] at h
          have h2 : lackOf l 8 = lackN (digL l 8) 8 (8 / 8 * l.length) := rfl
          rw [HL.out] at h2
          omega
        rw [hz] at hLs
        have hbl : (st l i ((y : Int) + (1 : Int))).length = L := by rw [st_len, HL.out]
        have hRb : Rd (wa.setCell ⟨g, i, none⟩ (.int .u8 ((y : Int) + (1 : Int)))).drew (wa.setCell ⟨g, i, none⟩ (.int .u8 ((y : Int) + (1 : Int)))).drew.heap.size .u8 (some ⟨g, 0, none⟩) (st l i ((y : Int) + (1 : Int))) := hOb.rd
        have hrb := hr.below hKb
        generalize (wa.setCell ⟨g, i, none⟩ (.int .u8 ((y : Int) + (1 : Int)))).drew = wb at hKb hRb hrb ⊢
        have hsb := hKb.size
        clear hOb hOa hcy hfy hcd hK0 hsa hm0 hm1 hw1 hw2 e12
        go_wp2_with fail
        refine (lack_any _ _ L ca 8 wb isW_8 hbl (by omega) hByb hRb).mono ?_
        rintro e w5 ⟨rfl, hb5⟩
        rw [hLs]
        have hK5 : Below w.heap.size w w5 := hKb.trans (hb5.mono hsb)
        have hLb := lack_any l A L c 8 w5 (.inr (.inr (.inr rfl))) HL.out (by omega) hby ((hr.below hK5).more hK5.size)
        rw [hz] at hLb
        clear hb5 hRb hrb hLs hz
        go_wp2_with fail
        refine hLb.mono ?_
        rintro e w6 ⟨rfl, hb6⟩
        have hK6 : Below w.heap.size w w6 := hK5.trans (hb6.mono hK5.size)
        clear hLb hb6
        go_wp2_with fail
        go_ret
        exact ⟨by simp, hK6⟩

theorem raise7_walk (l : List Int) (A : Option Addr) (c : Nat) (t x : Int) (w : World) (hr : Rd w w.heap.size .u8 A l) (hlc : l.length ≤ c) (hc : c ≤ 9223372036854775807) (hby : Bys l) (ht : 0 ≤ t ∧ t < 65536) (hx : B8 x) :
    Calls Try.prog 7 #[.slice A l.length c, .int .u16 t, .int .u8 x] w fun e w' => e = .returned (.bool true) ∧ Below w.heap.size w w' := by
  obtain ⟨t, rfl⟩ : ∃ m : Nat, t = m := ⟨t.toNat, by omega⟩
  obtain ⟨x, rfl⟩ : ∃ m : Nat, x = m := ⟨x.toNat, by have := hx.1; omega⟩
  have h : x % 4 = 0 ∨ x % 4 = 1 ∨ x % 4 = 2 ∨ x % 4 = 3 := by omega
  rcases h with h | h | h | h
  · exact raise7_1 l A c t x w hr hlc hc hby ht.2 hx.2 h
  · exact raise7_2 l A c t x w hr hlc hc hby ht.2 hx.2 h
  · exact raise7_4 l A c t x w hr hlc hc hby ht.2 hx.2 h
  · exact raise7_8 l A c t x w hr hlc hc hby ht.2 hx.2 h

end Go.Proofs.Ytigedohalangbaa
