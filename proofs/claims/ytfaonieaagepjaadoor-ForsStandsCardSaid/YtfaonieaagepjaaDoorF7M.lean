/- Layer 17: digits, walked. Conditions: small lengths. -/
import Derived.Test.YtfaonieaagepjaaDoorF7L
import Derived.Test.YtfaonieaagepjaaDoorHin
import Derived.Sort.CutIn
namespace Go.Proofs.YtfaonieaagepjaaDoor
open Go.RowKit Go.Shelf
set_option linter.unusedVariables false
set_option linter.unusedSimpArgs false
attribute [local go_sem] Oper.semAt_some
/-- The digits when i bits have come. -/
def accL (b : List Int) (a K i : Nat) : List Int := (List.range K).map fun k => dgN b (k * a) (min a (i - k * a))
theorem accL_len (b : List Int) (a K i : Nat) : (accL b a K i).length = K := by simp [accL]
theorem accL_gt (b : List Int) (a K i k : Nat) (hk : k < K) : gt (accL b a K i) k = dgN b (k * a) (min a (i - k * a)) := by simp [accL, gt, hk]
theorem digsL_gt (b : List Int) (a : Nat) : ∀ K k, k < K → gt (digsL b a K) k = dgN b (k * a) a
  | K + 1, k, h => by
    rw [digsL]
    rcases Nat.lt_or_ge k K with h1 | h1
    · rw [gt_append_left _ _ _ (by rw [digsL_len]; exact h1)]; exact digsL_gt b a K k h1
    · obtain rfl : k = K := by omega
      rw [gt_append_right _ _ _ (by rw [digsL_len]; exact Nat.le_refl _), digsL_len, Nat.sub_self]; rfl
theorem accL_zero (b : List Int) (a K : Nat) : accL b a K 0 = List.replicate K 0 := by
  refine ext_gt _ _ (by rw [accL_len, List.length_replicate]) fun k hk => ?_
  rw [accL_len] at hk
  rw [accL_gt _ _ _ _ _ hk, gt_rep _ _ _ hk, Nat.zero_sub, Nat.min_zero, dgN]
theorem accL_all (b : List Int) (a K : Nat) : accL b a K (K * a) = digsL b a K := by
  refine ext_gt _ _ (by rw [accL_len, digsL_len]) fun k hk => ?_
  rw [accL_len] at hk
  have h : (k + 1) * a ≤ K * a := Nat.mul_le_mul_right _ hk
  rw [Nat.succ_mul] at h
  rw [accL_gt _ _ _ _ _ hk, digsL_gt _ _ _ _ hk, Nat.min_eq_left (by omega)]
theorem accL_now (b : List Int) (a K i : Nat) (ha : 0 < a) (hi : i < K * a) : i / a < K ∧ gt (accL b a K i) (i / a) = dgN b (i / a * a) (i % a) ∧ i / a * a + i % a = i ∧ i % a < a := by
  have h1 : i / a < K := Nat.div_lt_of_lt_mul (by rw [Nat.mul_comm]; exact hi)
  have h2 := Nat.div_add_mod i a
  rw [Nat.mul_comm] at h2
  have h3 := Nat.mod_lt i ha
  exact ⟨h1, by rw [accL_gt _ _ _ _ _ h1, Nat.min_eq_right (by omega), show i - i / a * a = i % a by omega], h2, h3⟩
theorem accL_st (b : List Int) (a K i : Nat) (ha : 0 < a) (hi : i < K * a) : st (accL b a K i) (i / a) (dgN b (i / a * a) (i % a + 1)) = accL b a K (i + 1) := by
  obtain ⟨h1, _, h2, h3⟩ := accL_now b a K i ha hi
  refine ext_gt _ _ (by rw [st_len, accL_len, accL_len]) fun k hk => ?_
  rw [st_len, accL_len] at hk
  rw [gt_st _ _ _ _ (by rw [accL_len]; exact h1), accL_gt _ _ _ _ _ hk, accL_gt _ _ _ _ _ hk]
  by_cases e : k = i / a
  · rw [if_pos e, e]
    congr 1
    generalize i / a * a = s at *
    omega
  · rw [if_neg e]
    congr 1
    rcases Nat.lt_or_ge k (i / a) with h | h
    · have h4 : (k + 1) * a ≤ i / a * a := Nat.mul_le_mul_right _ h
      rw [Nat.succ_mul] at h4
      generalize k * a = s at *
      generalize i / a * a = r at *
      omega
    · have h4 : (i / a + 1) * a ≤ k * a := Nat.mul_le_mul_right _ (by omega)
      rw [Nat.succ_mul] at h4
      generalize k * a = s at *
      generalize i / a * a = r at *
      omega
theorem or_one (d x : Int) (hd : 0 ≤ d) (hd2 : d < 8192) (hx : 0 ≤ x) (hx1 : x ≤ 1) : bits .or .u32 (2 * d) x = 2 * d + x := by
  obtain ⟨n, rfl⟩ : ∃ n : Nat, d = n := ⟨d.toNat, by omega⟩
  obtain ⟨m, rfl⟩ : ∃ m : Nat, x = m := ⟨x.toNat, by omega⟩
  rw [bw_or]
  have e1 : (bw (2 * (n : Int))).toNat = 2 * n := by simp [bw]; omega
  have e2 : (bw (m : Int)).toNat = m := by simp [bw]; omega
  rw [BitVec.toNat_or, e1, e2]
  have h : 2 * n ||| m = 2 * n + m := by
    have h2 := Nat.shiftLeft_add_eq_or_of_lt (i := 1) (b := m) (by omega) n
    rw [Nat.shiftLeft_eq, show n * 2 ^ 1 = 2 * n by omega] at h2
    exact h2.symm
  rw [h]; push_cast; rfl
theorem bits_any (A : Option Addr) (len c : Nat) (w : World) : Calls Tryd.prog 50 #[.slice A len c] w fun e w' => e = .returned (.func (.func 72) #[] #[.pointer (some ⟨w.heap.size, 0, none⟩)]) ∧ w' = w.alloc (.cells #[.slice A len c] 24) :=
  (callsIn_wide (n := 6)).1 (bits_in Fence.wide 6 trivial rfl A len c w)
set_option maxRecDepth 100000 in
theorem digits_may (f : Fw) (A : Option Addr) (L c : Nat) (w : World) (hf : f.ok) (hno : ¬ f.may) :
    Calls Tryd.prog 16 #[.agg f.cs, .slice A L c] w (NilP w) := by
  have hF := Blk.new w 23 f.cs
  have hK := bal (Below.refl w.heap.size w) (Nat.le_refl _) (.cells f.cs 23)
  have hmx : (200000000 : Nat) ≤ maxLen := by decide
  go_enter Tryd.func16, Tryd.ntmps16
  go_upto_region 1 with fail
  change Code.wp _ _ _ _ (w.alloc (.cells f.cs 23))
  generalize w.alloc (.cells f.cs 23) = w0 at hF hK ⊢
  have hlf := hF.lt
  go_wp2_with (refine wpList_blk_yes (t := 23) (T := 23) (by rfl) rfl rfl Tryd.underlying23 rfl (by kernel_rfl) hF ?_)
  (with_reducible refine (may_no f w0 hf hno).mono ?_)
  rintro e w1 ⟨rfl, hb⟩
  have hK1 := bnx hK hb hK.size
  go_wp2_with fail
  go_ret
  exact ⟨rfl, hK1⟩
set_option maxRecDepth 100000 in
theorem digits_short (f : Fw) (kn an : Nat) (hkn : f.k = kn) (han : f.a = an) (A : Option Addr) (L c : Nat) (w : World) (hf : f.ok) (hm : f.may) (hL : L ≤ 100000) (hlt8 : 8 * L < kn * an) :
    Calls Tryd.prog 16 #[.agg f.cs, .slice A L c] w (NilP w) := by
  have hF := Blk.new w 23 f.cs
  have hK := bal (Below.refl w.heap.size w) (Nat.le_refl _) (.cells f.cs 23)
  have hmx : (200000000 : Nat) ≤ maxLen := by decide
  go_enter Tryd.func16, Tryd.ntmps16
  go_upto_region 1 with fail
  change Code.wp _ _ _ _ (w.alloc (.cells f.cs 23))
  generalize w.alloc (.cells f.cs 23) = w0 at hF hK ⊢
  have hlf := hF.lt
  have h3 := hF.cell 3 (.int .i64 f.k) rfl
  have h4 := hF.cell 4 (.int .i64 f.a) rfl
  rw [hkn] at h3
  rw [han] at h4
  have hk40 : kn ≤ 40 := by have := hm.k; omega
  have ha14 : an ≤ 14 := by have := hm.a; omega
  have ha1 : 1 ≤ an := by have := hm.a; omega
  have hk1 : 1 ≤ kn := by have := hm.k; omega
  obtain ⟨P, hP⟩ : ∃ P, kn * an = P := ⟨_, rfl⟩
  have hP560 : P ≤ 560 := by rw [← hP]; exact Nat.le_trans (Nat.mul_le_mul hk40 ha14) (by decide)
  rw [hP] at hlt8
  have hL8 : wrap64 ((L : Int) * 8) = (L : Int) * 8 := IntWalk.wrap64_in _ ⟨by omega, by omega⟩
  go_wp2_with (refine wpList_blk_yes (t := 23) (T := 23) (by rfl) rfl rfl Tryd.underlying23 rfl (by kernel_rfl) hF ?_)
  (with_reducible refine (may_yes f w0 hf hm).mono ?_)
  rintro e w1 ⟨rfl, hbb⟩
  have hK1 := bnx hK hbb hK.size
  have h3' := cell_bel h3 hbb hlf
  have h4' := cell_bel h4 hbb hlf
  have hlf' := Nat.lt_of_lt_of_le hlf hbb.size
  have hbl1 := hbb.size
  clear hbb hF h3 h4 hK
  have hl8 : (L : Int) * 8 < (P : Int) := by omega
  have hw := mulk kn an P hP (Nat.le_trans hP560 (by decide))
  clear hlt8 hP
  go_wp2_with fail
  go_ret
  exact ⟨rfl, hK1⟩
set_option maxRecDepth 100000 in
set_option maxHeartbeats 2000000 in
theorem digits_any (f : Fw) (kn an : Nat) (hkn : f.k = kn) (han : f.a = an) (b : List Int) (A : Option Addr) (L c : Nat) (w : World) (hf : f.ok) (hm : f.may) (hr : Rd w w.heap.size .u8 A b) (hL0 : b.length = L) (hLc : L ≤ c) (hL : L ≤ 100000) (hlt8 : ¬ 8 * L < kn * an) (hb : Bys b) :
    Calls Tryd.prog 16 #[.agg f.cs, .slice A L c] w (OutW w (digsL b an kn) kn) := by
  have hF := Blk.new w 23 f.cs
  have hK := bal (Below.refl w.heap.size w) (Nat.le_refl _) (.cells f.cs 23)
  have hmx : (200000000 : Nat) ≤ maxLen := by decide
  refine (callsIn_wide (n := 6)).1 ?_
  refine callsIn_of_wp_marks Tryd.func16 rfl trivial ?_ rfl
  simp only [Tryd.ntmps16, List.size_toArray, List.length_cons, List.length_nil, Nat.reduceAdd, Nat.reduceSub, Array.replicate_succ, Array.replicate_zero, List.push_toArray, List.append_toArray, List.nil_append, List.cons_append]
  refine wpIn_wide.2 ?_
  generalize hQQ : bodyPostM _ _ _ _ _ = Q
  have HQ := Lib.hid hQQ
  clear hQQ
  go_upto_region 1 with fail
  change Code.wp _ _ _ _ (w.alloc (.cells f.cs 23))
  generalize w.alloc (.cells f.cs 23) = w0 at hF hK ⊢
  have hlf := hF.lt
  have h3 := hF.cell 3 (.int .i64 f.k) rfl
  have h4 := hF.cell 4 (.int .i64 f.a) rfl
  rw [hkn] at h3
  rw [han] at h4
  have hk40 : kn ≤ 40 := by have := hm.k; omega
  have ha14 : an ≤ 14 := by have := hm.a; omega
  have ha1 : 1 ≤ an := by have := hm.a; omega
  have hk1 : 1 ≤ kn := by have := hm.k; omega
  obtain ⟨P, hP⟩ : ∃ P, kn * an = P := ⟨_, rfl⟩
  have hP560 : P ≤ 560 := by rw [← hP]; exact Nat.le_trans (Nat.mul_le_mul hk40 ha14) (by decide)
  rw [hP] at hlt8
  have hL8 : wrap64 ((L : Int) * 8) = (L : Int) * 8 := IntWalk.wrap64_in _ ⟨by omega, by omega⟩
  go_wp2_with (refine wpList_blk_yes (t := 23) (T := 23) (by rfl) rfl rfl Tryd.underlying23 rfl (by kernel_rfl) hF ?_)
  (with_reducible refine (may_yes f w0 hf hm).mono ?_)
  rintro e w1 ⟨rfl, hbb⟩
  have hK1 := bnx hK hbb hK.size
  have h3' := cell_bel h3 hbb hlf
  have h4' := cell_bel h4 hbb hlf
  have hlf' := Nat.lt_of_lt_of_le hlf hbb.size
  have hbl1 := hbb.size
  clear hbb hF h3 h4 hK
  have hl8 : (decide ((L : Int) * 8 < (P : Int))) = false := decide_eq_false (by omega)
  have hr1 := hr.bel hK1
  have HPP := Lib.hid hP
  have H8 := Lib.hid hlt8
  have hw := mulk kn an P hP (Nat.le_trans hP560 (by decide))
  have HX := Lib.hid (And.intro hL0 (And.intro hLc (And.intro hr hr1)))
  clear hL0 hLc hr hr1 hP hlt8
  go_upto_region 4 with (refine wpList_make_nums rfl _ _ 33 rfl 26 .u32 4 Tryd.underlying33 inf_u32 .i64 .i64 kn kn kn kn rfl rfl rfl rfl (Nat.le_refl _) (by omega) (by omega) ?_; intro w2 hw2)
  clear hw hl8 hL8
  obtain ⟨q, hq⟩ : ∃ q, w.heap.size = q := ⟨_, rfl⟩
  obtain ⟨g, hg⟩ : ∃ g, w1.heap.size = g := ⟨_, rfl⟩
  have hqg : q < g := by omega
  have hz2 : w2.heap.size = g + 1 := by rw [hw2.out]; simp [hg]
  have hA := Arr.new w1 26 .u32 (List.replicate kn 0)
  have hK2 := bal hK1 hK1.size (.cells (U .u32 (List.replicate kn 0)) 26)
  have h3 := cell_al h3' hlf' (.cells (U .u32 (List.replicate kn 0)) 26)
  have h4 := cell_al h4' hlf' (.cells (U .u32 (List.replicate kn 0)) 26)
  rw [← hw2.out] at hA hK2 h3 h4
  rw [hg, ← accL_zero b an kn] at hA
  rw [hq] at h3 h4
  clear h3' h4' hlf' hbl1 hK1 hlf
  have hl2 : q < w2.heap.size := by omega
  have hl2g : g < w2.heap.size := by omega
  have hX := Blk.new w2 33 #[.slice (some ⟨g, 0, none⟩) kn kn]
  have hA := hA.alloc (.cells #[.slice (some ⟨g, 0, none⟩) kn kn] 33)
  have hK3 := bal hK2 hK2.size (.cells #[.slice (some ⟨g, 0, none⟩) kn kn] 33)
  have h3 := cell_al h3 hl2 (.cells #[.slice (some ⟨g, 0, none⟩) kn kn] 33)
  have h4 := cell_al h4 hl2 (.cells #[.slice (some ⟨g, 0, none⟩) kn kn] 33)
  have hz3 : (w2.alloc (.cells #[.slice (some ⟨g, 0, none⟩) kn kn] 33)).heap.size = g + 2 := by simp [hz2]
  rw [hz2] at hX
  rw [hg, hz2, hq]
  change Code.wp _ _ _ _ (w2.alloc (.cells #[.slice (some ⟨g, 0, none⟩) kn kn] 33))
  generalize w2.alloc (.cells #[.slice (some ⟨g, 0, none⟩) kn kn] 33) = w3 at hX hA hK3 h3 h4 hz3 ⊢
  clear hK2 hw2 hz2 hl2 hl2g
  have hX := hX.alloc (.cells #[.slice A L c] 24)
  have hA := hA.alloc (.cells #[.slice A L c] 24)
  have hK4 := bal hK3 hK3.size (.cells #[.slice A L c] 24)
  have h3 := cell_al h3 (by omega) (.cells #[.slice A L c] 24)
  have h4 := cell_al h4 (by omega) (.cells #[.slice A L c] 24)
  have hY := Blk.new w3 24 #[.slice A L c]
  have hz4 : (w3.alloc (.cells #[.slice A L c] 24)).heap.size = g + 3 := by simp [hz3]
  go_wp2_with ((with_reducible refine (bits_any A L c _).mono ?_); rintro e w4 ⟨rfl, hw4⟩; subst hw4)
  rw [hz3] at hY
  generalize w3.alloc (.cells #[.slice A L c] 24) = W0 at hX hA hK4 h3 h4 hY hz4 ⊢
  clear hz3 hK3
  obtain ⟨hL0, hLc, hr, hr1⟩ := HX.out
  rw [hq] at hr hK4
  have hrW := hr.below hK4
  clear HX hr hr1
  refine (wpIn_wide (n := 6)).1 (wpIn_rangeFunc_at rfl (by decide) (gf := 72) (lb := #[.pointer (some ⟨g + 2, 0, none⟩)]) rfl trivial (enters_of Tryd.func72 (by kernel_rfl) rfl)
    (bits_at Fence.wide 5 trivial rfl (by decide) (g + 2) q b A c L hL0 hL hb W0 (by omega) (by omega) (hY.cell 0 _ rfl) hrW) (fun h k => h.trans k) (fun W l o o' hl h h1 h2 => KpB.putObj (m := W0.heap.size) (by omega) (by omega) W l o o' hl h h1 h2) (Below.refl _ _) (fun _ => rfl)
    (fun i W => i ≤ P ∧ Arr W g 26 .u32 (accL b an kn i) ∧ Kept W0.heap.size (fun x => x = g) W0 W)
    (fun cd i W => cd = .exit 0 ∧ Arr W g 26 .u32 (accL b an kn P) ∧ Kept W0.heap.size (fun x => x = g) W0 W)
    (fun s X Y row hs hgr hrow => ⟨hs.1, (hgr.block g hs.2.1.lt (fun e => by have := (hrow g e.symm).1; omega)).trans hs.2.1, hs.2.2.grown hgr hs.2.2.size (fun k e => .inl (hrow k e).1)⟩)
    (fun cd s X Y row hs hgr hrow => ⟨hs.1, (hgr.block g hs.2.1.lt (fun e => by have := (hrow g e.symm).1; omega)).trans hs.2.1, hs.2.2.grown hgr hs.2.2.size (fun k e => .inl (hrow k e).1)⟩)
    ⟨Nat.zero_le _, hA, Kept.refl _ _ _⟩
    (fun i => { tmps := #[.agg f.cs, .slice A L c, .pointer (some ⟨q, 0, none⟩), undef, .slice none 0 0, .pointer (some ⟨g + 1, 0, none⟩), .int .i64 i, .int .u32 (bitN b i), .agg f.cs, .bool true, .bool false, .bool false, .slice A L c, .int .i64 L, .int .i64 ((L : Int) * 8), .pointer (some ⟨q, 3, none⟩), .int .i64 kn, .pointer (some ⟨q, 4, none⟩), .int .i64 an, .int .i64 P, .bool false, .bool false, .pointer (some ⟨q, 3, none⟩), .int .i64 kn, .slice (some ⟨g, 0, none⟩) kn kn, .slice A L c, .func (.func 72) #[] #[.pointer (some ⟨g + 2, 0, none⟩)], .int .i64 i, .int .u32 (bitN b i), undef, undef, undef, undef, undef, undef, undef, undef, undef, undef, undef, undef, undef, undef, undef, undef, undef, undef, undef, undef, undef, undef, undef, undef], defers := [] }) ?assign ?body ?done ?stop)
  case assign =>
    intro l i W K hK
    dsimp only at hK ⊢
    gi_wp2
    exact hK
  case body =>
    rintro l i W hi ⟨hiP, hA, hKW⟩
    dsimp only
    have h3W : W.cell? ⟨q, 3, none⟩ = some (.int .i64 kn) := (World.cell?_of_block (a := ⟨q, 3, none⟩) (hKW.block q (by omega) (by omega))).trans h3
    have h4W : W.cell? ⟨q, 4, none⟩ = some (.int .i64 an) := (World.cell?_of_block (a := ⟨q, 4, none⟩) (hKW.block q (by omega) (by omega))).trans h4
    have hXW := (hX.kept hKW (by omega) (by omega)).cell 0 (.slice (some ⟨g, 0, none⟩) kn kn) rfl
    by_cases hlt : i < P
    · have hne : ((i : Int) == wrap64 ((kn : Int) * (an : Int))) = false := by
        rw [mulk kn an P HPP.out (Nat.le_trans hP560 (by decide))]; exact beq_eq_false_iff_ne.2 (by omega)
      have HA := Lib.hid hA
      have HK := Lib.hid hKW
      have HI := Lib.hid hlt
      have HW := Lib.hid hz4
      have HQG := Lib.hid hqg
      gi_upto_region 8 with fail
      clear h3W hne
      obtain ⟨hk0, hgt, hsum, hmod⟩ := accL_now b an kn i ha1 (by rw [HPP.out]; exact HI.out)
      obtain ⟨k0, hk⟩ : ∃ k, i / an = k := ⟨_, rfl⟩
      have hst := accL_st b an kn i ha1 (by rw [HPP.out]; exact HI.out)
      obtain ⟨t, ht⟩ : ∃ t, i % an = t := ⟨_, rfl⟩
      rw [hk, ht] at hgt hst
      rw [hk] at hk0
      rw [ht] at hmod
      rw [hk, ht] at hsum
      have hdb := dgN_bd b (k0 * an) t
      have hd2 : ((2 ^ t : Nat) : Int) ≤ 8192 := by exact_mod_cast Nat.le_trans (Nat.pow_le_pow_right (by decide) (show t ≤ 13 by omega)) (by decide)
      have hdn : dgN b (k0 * an) (t + 1) = 2 * dgN b (k0 * an) t + bitN b i := by rw [dgN, hsum]
      rw [hdn] at hst
      obtain ⟨d, hd⟩ : ∃ d, dgN b (k0 * an) t = d := ⟨_, rfl⟩
      rw [hd] at hdb hgt hst
      obtain ⟨x, hx⟩ : ∃ x, bitN b i = x := ⟨_, rfl⟩
      have hxb := bitN_bd b i
      rw [hx] at hxb hst ⊢
      have hd0 : 0 ≤ d := hdb.1
      have hd1 : d < 8192 := by omega
      have hor : bits .or .u32 (d * 2) x = 2 * d + x := by rw [Int.mul_comm]; exact or_one d x hd0 hd1 hxb.1 hxb.2
      have hcd := HA.out.cell k0 (by rw [accL_len]; exact hk0)
      rw [hgt] at hcd
      have hfr := HA.out.free k0
      have hal := HA.out.lt
      have hkI : ((i : Int) / (an : Int)) = (k0 : Int) := by rw [← hk]; push_cast; rfl
      clear hgt hdn hd hx hdb hd2 hsum ht hmod hxb
      have hne0 : ¬ (an : Int) = 0 := by omega
      have hk0I : (k0 : Int) < (kn : Int) := by omega
      have hdm : d * 2 % 4294967296 = 2 * d := by omega
      refine wpIn_region_hold_tail 16 (fun w' => w'.cell? ⟨g + 1, 0, none⟩ = some (.slice (some ⟨g, 0, none⟩) kn kn) ∧ w'.cell? ⟨q, 4, none⟩ = some (.int .i64 an) ∧ w'.cell? ⟨g, k0, none⟩ = some (.int .u32 d) ∧ RowKit.Hid (w' = W.drew)) (by kernel_rfl) (by kernel_rfl) (by rintro ⟨_, _, h⟩; exact h) (by kernel_rfl) ⟨hXW, h4W, hcd, Lib.hid rfl⟩ ?_
      simp only [List.take_succ_cons, List.take_zero, List.drop_succ_cons, List.drop_zero]
      ((first | (refine wpHold_step ?_ ?_ ?_ ?_; rotate_left 1; focus (with_reducible rfl)) | (refine wpHold_yes ?_ ?_ ?_ ?_; rotate_left 1; focus rfl)); (focus (intro w hw; have hcell := hw.1; unfold Gives; go_simp; refine ⟨?_, hw⟩; with_reducible rfl)); (try simp only [Act.put, List.setIfInBounds_toArray, List.set_cons_zero, List.set_cons_succ]))
      ((first | (refine wpHold_step ?_ ?_ ?_ ?_; rotate_left 1; focus (with_reducible rfl)) | (refine wpHold_yes ?_ ?_ ?_ ?_; rotate_left 1; focus rfl)); (focus (intro w hw; unfold Gives; go_simp; refine ⟨?_, hw⟩; with_reducible rfl)); (try simp only [Act.put, List.setIfInBounds_toArray, List.set_cons_zero, List.set_cons_succ]))
      ((first | (refine wpHold_step ?_ ?_ ?_ ?_; rotate_left 1; focus (with_reducible rfl)) | (refine wpHold_yes ?_ ?_ ?_ ?_; rotate_left 1; focus rfl)); (focus (intro w hw; unfold Gives; go_simp; refine ⟨?_, hw⟩; with_reducible rfl)); (try simp only [Act.put, List.setIfInBounds_toArray, List.set_cons_zero, List.set_cons_succ]))
      ((first | (refine wpHold_step ?_ ?_ ?_ ?_; rotate_left 1; focus (with_reducible rfl)) | (refine wpHold_yes ?_ ?_ ?_ ?_; rotate_left 1; focus rfl)); (focus (intro w hw; have hcell := hw.2.1; unfold Gives; go_simp; refine ⟨?_, hw⟩; with_reducible rfl)); (try simp only [Act.put, List.setIfInBounds_toArray, List.set_cons_zero, List.set_cons_succ]))
      refine Hd.val (.int .i64 (k0 : Int)) (by kernel_rfl) (fun w => by go_simp; rw [if_neg (show ¬ an = 0 by omega), IntWalk.i64_in _ (by omega)]) ?_
      (try simp only [Act.put, List.setIfInBounds_toArray, List.set_cons_zero, List.set_cons_succ])
      ((first | (refine wpHold_step ?_ ?_ ?_ ?_; rotate_left 1; focus (with_reducible rfl)) | (refine wpHold_yes ?_ ?_ ?_ ?_; rotate_left 1; focus rfl)); (focus (intro w hw; have hcell := hw.1; unfold Gives; go_simp; refine ⟨?_, hw⟩; with_reducible rfl)); (try simp only [Act.put, List.setIfInBounds_toArray, List.set_cons_zero, List.set_cons_succ]))
      ((first | (refine wpHold_step ?_ ?_ ?_ ?_; rotate_left 1; focus (with_reducible rfl)) | (refine wpHold_yes ?_ ?_ ?_ ?_; rotate_left 1; focus rfl)); (focus (intro w hw; unfold Gives; go_simp; refine ⟨?_, hw⟩; with_reducible rfl)); (try simp only [Act.put, List.setIfInBounds_toArray, List.set_cons_zero, List.set_cons_succ]))
      ((first | (refine wpHold_step ?_ ?_ ?_ ?_; rotate_left 1; focus (with_reducible rfl)) | (refine wpHold_yes ?_ ?_ ?_ ?_; rotate_left 1; focus rfl)); (focus (intro w hw; unfold Gives; go_simp; refine ⟨?_, hw⟩; with_reducible rfl)); (try simp only [Act.put, List.setIfInBounds_toArray, List.set_cons_zero, List.set_cons_succ]))
      ((first | (refine wpHold_step ?_ ?_ ?_ ?_; rotate_left 1; focus (with_reducible rfl)) | (refine wpHold_yes ?_ ?_ ?_ ?_; rotate_left 1; focus rfl)); (focus (intro w hw; have hcell := hw.2.1; unfold Gives; go_simp; refine ⟨?_, hw⟩; with_reducible rfl)); (try simp only [Act.put, List.setIfInBounds_toArray, List.set_cons_zero, List.set_cons_succ]))
      refine Hd.val (.int .i64 (k0 : Int)) (by kernel_rfl) (fun w => by go_simp; rw [if_neg (show ¬ an = 0 by omega), IntWalk.i64_in _ (by omega)]) ?_
      (try simp only [Act.put, List.setIfInBounds_toArray, List.set_cons_zero, List.set_cons_succ])
      ((first | (refine wpHold_step ?_ ?_ ?_ ?_; rotate_left 1; focus (with_reducible rfl)) | (refine wpHold_yes ?_ ?_ ?_ ?_; rotate_left 1; focus rfl)); (focus (intro w hw; unfold Gives; go_simp; refine ⟨?_, hw⟩; with_reducible rfl)); (try simp only [Act.put, List.setIfInBounds_toArray, List.set_cons_zero, List.set_cons_succ]))
      ((first | (refine wpHold_step ?_ ?_ ?_ ?_; rotate_left 1; focus (with_reducible rfl)) | (refine wpHold_yes ?_ ?_ ?_ ?_; rotate_left 1; focus rfl)); (focus (intro w hw; have hcell := hw.2.2.1; unfold Gives; go_simp; refine ⟨?_, hw⟩; with_reducible rfl)); (try simp only [Act.put, List.setIfInBounds_toArray, List.set_cons_zero, List.set_cons_succ]))
      ((first | (refine wpHold_step ?_ ?_ ?_ ?_; rotate_left 1; focus (with_reducible rfl)) | (refine wpHold_yes ?_ ?_ ?_ ?_; rotate_left 1; focus rfl)); (focus (intro w hw; unfold Gives; go_simp; refine ⟨?_, hw⟩; with_reducible rfl)); (try simp only [Act.put, List.setIfInBounds_toArray, List.set_cons_zero, List.set_cons_succ]))
      ((first | (refine wpHold_step ?_ ?_ ?_ ?_; rotate_left 1; focus (with_reducible rfl)) | (refine wpHold_yes ?_ ?_ ?_ ?_; rotate_left 1; focus rfl)); (focus (intro w hw; unfold Gives; go_simp; refine ⟨?_, hw⟩; with_reducible rfl)); (try simp only [Act.put, List.setIfInBounds_toArray, List.set_cons_zero, List.set_cons_succ]))
      ((first | (refine wpHold_step ?_ ?_ ?_ ?_; rotate_left 1; focus (with_reducible rfl)) | (refine wpHold_yes ?_ ?_ ?_ ?_; rotate_left 1; focus rfl)); (focus (intro w hw; unfold Gives; go_simp; refine ⟨?_, hw⟩; with_reducible rfl)); (try simp only [Act.put, List.setIfInBounds_toArray, List.set_cons_zero, List.set_cons_succ]))
      ((first | (refine wpHold_step ?_ ?_ ?_ ?_; rotate_left 1; focus (with_reducible rfl)) | (refine wpHold_yes ?_ ?_ ?_ ?_; rotate_left 1; focus rfl)); (focus (intro w hw; unfold Gives; go_simp; refine ⟨?_, hw⟩; with_reducible rfl)); (try simp only [Act.put, List.setIfInBounds_toArray, List.set_cons_zero, List.set_cons_succ]))
      refine wpHold_nil ?_
      rintro w' ⟨_, _, _, hw'⟩
      obtain rfl := hw'.out
      clear hw'
      have hfr' : W.drew.frozen? ⟨g, k0, none⟩ = false := hfr
      have hcd' : W.drew.cell? ⟨g, k0, none⟩ = some (.int .u32 d) := hcd
      go_wp2_with fail
      rw [hor]
      have hs := (KeepsOthers.setCell W ⟨g, k0, none⟩ (.int .u32 (2 * d + x))).from W0.heap.size
      have hz := HW.out
      have hqq := HQG.out
      refine ⟨⟨hs.size, hs.same⟩, ⟨((Kept.refl q (fun _ => False) W).set g k0 _ (.inl (by omega))).drew.below, heap_setCell_other W ⟨g, k0, none⟩ (g + 2) _ (by simp)⟩, HI.out, ?_, (HK.out.set g k0 _ (.inr rfl)).drew⟩
      rw [← hst]
      exact (HA.out.set k0 _).drew
    · obtain rfl : i = P := by omega
      have hne : ((i : Int) == wrap64 ((kn : Int) * (an : Int))) = true := by
        rw [mulk kn an i HPP.out (Nat.le_trans hP560 (by decide))]; exact beq_self_eq_true _
      gi_wp2
      exact ⟨KeepsFrom.refl _ _, rfl, hA, hKW⟩
  case done =>
    rintro D W hD ⟨h8, hA, hKW⟩ hDf
    obtain rfl : 8 * L = P := by have := H8.out; omega
    have hXW := (hX.kept hKW (by omega) (by omega)).cell 0 (.slice (some ⟨g, 0, none⟩) kn kn) rfl
    have hall := accL_all b an kn
    rw [HPP.out] at hall
    rw [hall] at hA
    have hAp : ∀ o, Arr (W.putObj D o) g 26 .u32 (digsL b an kn) := fun o => (World.putObj_heap_other (by omega)).trans hA
    have hBp : ∀ o', Below q W (W.putObj D o') := fun o' => belowK_b (w := W0) (by omega) W D _ o' hD hDf rfl rfl
    have hlow : Below q w W := hK4.trans ((hKW.mono (S' := fun _ => False) (B' := q) (by omega) (fun k hk e => by omega)).below)
    clear hall hKW hX hY hK4 h3 h4
    go_wp2_with fail
    obtain rfl := HQ.out
    refine ⟨by simp, .inl ⟨_, _, rfl, run_takeDeferred hDf, ?_⟩⟩
    exact ⟨_, results_tmp rfl _ _ _, some ⟨g, 0, none⟩, kn, rfl, Rd.of_arr (hAp _) (hAp _).lt, Nat.le_refl _, by rw [hq]; exact hlow.trans (hBp _)⟩
  case stop =>
    rintro D cd i W hD hi ⟨rfl, hA, hKW⟩ hDf
    have hXW := (hX.kept hKW (by omega) (by omega)).cell 0 (.slice (some ⟨g, 0, none⟩) kn kn) rfl
    have hall := accL_all b an kn
    rw [HPP.out] at hall
    rw [hall] at hA
    have hAp : ∀ o, Arr (W.putObj D o) g 26 .u32 (digsL b an kn) := fun o => (World.putObj_heap_other (by omega)).trans hA
    have hBp : ∀ o', Below q W (W.putObj D o') := fun o' => belowK_b (w := W0) (by omega) W D _ o' hD hDf rfl rfl
    have hlow : Below q w W := hK4.trans ((hKW.mono (S' := fun _ => False) (B' := q) (by omega) (fun k hk e => by omega)).below)
    clear hall hKW hX hY hK4 h3 h4
    refine wpIn_wide.2 ?_
    go_wp2_with fail
    obtain rfl := HQ.out
    refine ⟨by simp, .inl ⟨_, _, rfl, run_takeDeferred hDf, ?_⟩⟩
    exact ⟨_, results_tmp rfl _ _ _, some ⟨g, 0, none⟩, kn, rfl, Rd.of_arr (hAp _) (hAp _).lt, Nat.le_refl _, by rw [hq]; exact hlow.trans (hBp _)⟩
end Go.Proofs.YtfaonieaagepjaaDoor
