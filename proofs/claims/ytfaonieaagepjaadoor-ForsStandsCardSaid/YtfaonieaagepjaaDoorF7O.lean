/- Layer 17, the reference: what is told, walked. Conditions: small lengths, words of their kinds. -/
import Derived.Test.YtfaonieaagepjaaDoorF7N
namespace Go.Proofs.YtfaonieaagepjaaDoor
open Go.RowKit
set_option linter.unusedVariables false
set_option linter.unusedSimpArgs false
set_option maxRecDepth 100000 in
theorem rtell_no (f : Fw) (kn an : Nat) (hkn : f.k = kn) (han : f.a = an) (hf : f.ok) (Asc Asl Asd Ab : Option Addr) (nsc csc nsl csl nd cd L cb : Nat) (tree q : Int) (w : World) (hno : ¬ f.made nsc nsl nd) :
    Calls Tryd.prog 27 #[.agg f.cs, .agg #[.slice Asc nsc csc, .slice Asl nsl csl, .slice Asd nd cd], .int .u64 tree, .int .u32 q, .slice Ab L cb] w (NilP w) := by
  have hF := (Blk.new w 23 f.cs).alloc (.cells #[.slice Asc nsc csc, .slice Asl nsl csl, .slice Asd nd cd] 39)
  have hM := Blk.new (w.alloc (.cells f.cs 23)) 39 #[.slice Asc nsc csc, .slice Asl nsl csl, .slice Asd nd cd]
  have hK := bal (bal (Below.refl w.heap.size w) (Nat.le_refl _) (.cells f.cs 23)) (by simp) (.cells #[.slice Asc nsc csc, .slice Asl nsl csl, .slice Asd nd cd] 39)
  have hz : (w.alloc (.cells f.cs 23)).heap.size = w.heap.size + 1 := by simp
  have hmx : (200000000 : Nat) ≤ maxLen := by decide
  go_enter Tryd.func27, Tryd.ntmps27
  go_upto_region 1 with fail
  change Code.wp _ _ _ _ ((w.alloc (.cells f.cs 23)).alloc (.cells #[.slice Asc nsc csc, .slice Asl nsl csl, .slice Asd nd cd] 39))
  generalize (w.alloc (.cells f.cs 23)).alloc (.cells #[.slice Asc nsc csc, .slice Asl nsl csl, .slice Asd nd cd] 39) = w0 at hF hM hK ⊢
  rw [hz] at hM
  clear hz
  have h3 := hF.cell 3 (.int .i64 f.k) rfl
  have h4 := hF.cell 4 (.int .i64 f.a) rfl
  rw [hkn] at h3
  rw [han] at h4
  have hlf := hF.lt
  have hlf3 := hlf
  have hlf4 := hlf
  have m0 := hM.cell 0 (.slice Asc nsc csc) rfl
  have m2 := hM.cell 2 (.slice Asd nd cd) rfl
  have hlm := hM.lt
  have hlm0 := hlm
  have hlm2 := hlm
  go_wp2_with (first | (refine wpList_blk_yes (t := 23) (T := 23) (by rfl) rfl rfl Tryd.underlying23 rfl (by kernel_rfl) hF ?_) | (refine wpList_blk_yes (t := 39) (T := 39) (by rfl) rfl rfl Tryd.underlying39 rfl (by kernel_rfl) hM ?_))
  (with_reducible refine (rmade_no f Asc Asl Asd nsc csc nsl csl nd cd w0 hf hno).mono ?_)
  rintro e v1 ⟨rfl, hb1⟩
  have hK1 := bnx hK hb1 hK.size
  have hcf_1 := hF.below hb1 hlf
  have hlf_1 := Nat.lt_of_lt_of_le hlf hb1.size
  have hcm_1 := hM.below hb1 hlm
  have hlm_1 := Nat.lt_of_lt_of_le hlm hb1.size
  have hc3_1 := cell_bel h3 hb1 hlf3
  have hl3_1 := Nat.lt_of_lt_of_le hlf3 hb1.size
  have hc4_1 := cell_bel h4 hb1 hlf4
  have hl4_1 := Nat.lt_of_lt_of_le hlf4 hb1.size
  have hc0_1 := cell_bel m0 hb1 hlm0
  have hl0_1 := Nat.lt_of_lt_of_le hlm0 hb1.size
  have hc2_1 := cell_bel m2 hb1 hlm2
  have hl2_1 := Nat.lt_of_lt_of_le hlm2 hb1.size
  clear hK hF hlf hM hlm h3 hlf3 h4 hlf4 m0 hlm0 m2 hlm2 hb1
  go_wp2_with fail
  go_ret
  exact ⟨rfl, hK1⟩
set_option maxRecDepth 100000 in
theorem rtell_short (f : Fw) (kn an : Nat) (hkn : f.k = kn) (han : f.a = an) (hf : f.ok) (Asc Asl Asd Ab : Option Addr) (nsc csc nsl csl nd cd L cb : Nat) (tree q : Int) (w : World) (hm : f.made nsc nsl nd) (hL : L ≤ 100000) (hlt8 : 8 * L < kn * an) :
    Calls Tryd.prog 27 #[.agg f.cs, .agg #[.slice Asc nsc csc, .slice Asl nsl csl, .slice Asd nd cd], .int .u64 tree, .int .u32 q, .slice Ab L cb] w (NilP w) := by
  have hF := (Blk.new w 23 f.cs).alloc (.cells #[.slice Asc nsc csc, .slice Asl nsl csl, .slice Asd nd cd] 39)
  have hM := Blk.new (w.alloc (.cells f.cs 23)) 39 #[.slice Asc nsc csc, .slice Asl nsl csl, .slice Asd nd cd]
  have hK := bal (bal (Below.refl w.heap.size w) (Nat.le_refl _) (.cells f.cs 23)) (by simp) (.cells #[.slice Asc nsc csc, .slice Asl nsl csl, .slice Asd nd cd] 39)
  have hz : (w.alloc (.cells f.cs 23)).heap.size = w.heap.size + 1 := by simp
  have hmx : (200000000 : Nat) ≤ maxLen := by decide
  go_enter Tryd.func27, Tryd.ntmps27
  go_upto_region 1 with fail
  change Code.wp _ _ _ _ ((w.alloc (.cells f.cs 23)).alloc (.cells #[.slice Asc nsc csc, .slice Asl nsl csl, .slice Asd nd cd] 39))
  generalize (w.alloc (.cells f.cs 23)).alloc (.cells #[.slice Asc nsc csc, .slice Asl nsl csl, .slice Asd nd cd] 39) = w0 at hF hM hK ⊢
  rw [hz] at hM
  clear hz
  have h3 := hF.cell 3 (.int .i64 f.k) rfl
  have h4 := hF.cell 4 (.int .i64 f.a) rfl
  rw [hkn] at h3
  rw [han] at h4
  have hlf := hF.lt
  have hlf3 := hlf
  have hlf4 := hlf
  have m0 := hM.cell 0 (.slice Asc nsc csc) rfl
  have m2 := hM.cell 2 (.slice Asd nd cd) rfl
  have hlm := hM.lt
  have hlm0 := hlm
  have hlm2 := hlm
  go_wp2_with (first | (refine wpList_blk_yes (t := 23) (T := 23) (by rfl) rfl rfl Tryd.underlying23 rfl (by kernel_rfl) hF ?_) | (refine wpList_blk_yes (t := 39) (T := 39) (by rfl) rfl rfl Tryd.underlying39 rfl (by kernel_rfl) hM ?_))
  (with_reducible refine (rmade_yes f Asc Asl Asd nsc csc nsl csl nd cd w0 hf hm).mono ?_)
  rintro e v1 ⟨rfl, hb1⟩
  have hK1 := bnx hK hb1 hK.size
  have hcf_1 := hF.below hb1 hlf
  have hlf_1 := Nat.lt_of_lt_of_le hlf hb1.size
  have hcm_1 := hM.below hb1 hlm
  have hlm_1 := Nat.lt_of_lt_of_le hlm hb1.size
  have hc3_1 := cell_bel h3 hb1 hlf3
  have hl3_1 := Nat.lt_of_lt_of_le hlf3 hb1.size
  have hc4_1 := cell_bel h4 hb1 hlf4
  have hl4_1 := Nat.lt_of_lt_of_le hlf4 hb1.size
  have hc0_1 := cell_bel m0 hb1 hlm0
  have hl0_1 := Nat.lt_of_lt_of_le hlm0 hb1.size
  have hc2_1 := cell_bel m2 hb1 hlm2
  have hl2_1 := Nat.lt_of_lt_of_le hlm2 hb1.size
  clear hK hF hlf hM hlm h3 hlf3 h4 hlf4 m0 hlm0 m2 hlm2 hb1
  have hZ := Blk.new v1 46 #[.int .u32 0, .int .u64 0, .int .u32 0, .int .u32 0, .int .u32 0, .int .u32 0]
  go_upto_region 5 with (first | (refine wpList_val_yes (o := ⟨some 24, _, _, _, _, _⟩) (.agg (Ad.cs ⟨0, tree, 0, q, 0, 0⟩)) (by rfl) (by kernel_rfl) ?_) | (refine wpList_store_row (o := ⟨none, _, _, _, _, _⟩) rfl 46 _ _ rfl _ (Ad.cs ⟨0, tree, 0, q, 0, 0⟩) rfl (by kernel_rfl) _ #[.int .u32 0, .int .u64 0, .int .u32 0, .int .u32 0, .int .u32 0, .int .u32 0] hZ (by kernel_rfl) rfl (by kernel_rfl) ?_))
  have hpk := ((Kept.refl v1.heap.size (fun _ => False) v1).alloc (.cells #[.int .u32 0, .int .u64 0, .int .u32 0, .int .u32 0, .int .u32 0, .int .u32 0] 46) (Nat.le_refl _)).setRow v1.heap.size (Ad.cs ⟨0, tree, 0, q, 0, 0⟩) (.inl (Nat.le_refl _))
  have hpb := hZ.setRow (Ad.cs ⟨0, tree, 0, q, 0, 0⟩)
  change Code.wp _ _ _ _ ((v1.alloc (.cells #[.int .u32 0, .int .u64 0, .int .u32 0, .int .u32 0, .int .u32 0, .int .u32 0] 46)).setRow v1.heap.size (Ad.cs ⟨0, tree, 0, q, 0, 0⟩))
  obtain ⟨ba, hba⟩ : ∃ b, v1.heap.size = b := ⟨_, rfl⟩
  have hbq := hpk.below
  generalize (v1.alloc (.cells #[.int .u32 0, .int .u64 0, .int .u32 0, .int .u32 0, .int .u32 0, .int .u32 0] 46)).setRow v1.heap.size (Ad.cs ⟨0, tree, 0, q, 0, 0⟩) = v2 at hpk hpb hbq ⊢
  have hK2 := bnx hK1 hbq hK1.size
  have hcf_2 := hcf_1.below hbq hlf_1
  have hlf_2 := Nat.lt_of_lt_of_le hlf_1 hbq.size
  have hcm_2 := hcm_1.below hbq hlm_1
  have hlm_2 := Nat.lt_of_lt_of_le hlm_1 hbq.size
  have hc3_2 := cell_bel hc3_1 hbq hl3_1
  have hl3_2 := Nat.lt_of_lt_of_le hl3_1 hbq.size
  have hc4_2 := cell_bel hc4_1 hbq hl4_1
  have hl4_2 := Nat.lt_of_lt_of_le hl4_1 hbq.size
  have hc0_2 := cell_bel hc0_1 hbq hl0_1
  have hl0_2 := Nat.lt_of_lt_of_le hl0_1 hbq.size
  have hc2_2 := cell_bel hc2_1 hbq hl2_1
  have hl2_2 := Nat.lt_of_lt_of_le hl2_1 hbq.size
  rw [hba] at hpb ⊢
  have hlp := hpb.lt
  clear hpk hbq hZ hba hK1 hcf_1 hlf_1 hcm_1 hlm_1 hc3_1 hl3_1 hc4_1 hl4_1 hc0_1 hl0_1 hc2_1 hl2_1
  go_wp2_with (first | (refine wpList_blk_yes (t := 23) (T := 23) (by rfl) rfl rfl Tryd.underlying23 rfl (by kernel_rfl) hcf_2 ?_))
  (with_reducible refine (rdigits_short f kn an hkn han Ab L cb v2 hf hm.may hL hlt8).mono ?_)
  rintro e v3 ⟨rfl, hb3⟩
  have hK3 := bnx hK2 hb3 hK2.size
  have hcf_3 := hcf_2.below hb3 hlf_2
  have hlf_3 := Nat.lt_of_lt_of_le hlf_2 hb3.size
  have hcm_3 := hcm_2.below hb3 hlm_2
  have hlm_3 := Nat.lt_of_lt_of_le hlm_2 hb3.size
  have hc3_3 := cell_bel hc3_2 hb3 hl3_2
  have hl3_3 := Nat.lt_of_lt_of_le hl3_2 hb3.size
  have hc4_3 := cell_bel hc4_2 hb3 hl4_2
  have hl4_3 := Nat.lt_of_lt_of_le hl4_2 hb3.size
  have hc0_3 := cell_bel hc0_2 hb3 hl0_2
  have hl0_3 := Nat.lt_of_lt_of_le hl0_2 hb3.size
  have hc2_3 := cell_bel hc2_2 hb3 hl2_2
  have hl2_3 := Nat.lt_of_lt_of_le hl2_2 hb3.size
  have hca_3 := hpb.below hb3 hlp
  have hla_3 := Nat.lt_of_lt_of_le hlp hb3.size
  clear hK2 hcf_2 hlf_2 hcm_2 hlm_2 hc3_2 hl3_2 hc4_2 hl4_2 hc0_2 hl0_2 hc2_2 hl2_2 hpb hlp hb3
  clear hlt8
  go_upto_region 7 with fail
  go_loopg [11, 14] 0 (fun gk v x wr => v = .slice none 0 0 ∧ x = .int .i64 0 ∧ wr = v3)
  case atStart => exact ⟨rfl, rfl, rfl⟩
  case round =>
    obtain ⟨rfl, rfl, rfl⟩ := hrel
    go_wp2_with fail
    go_ret
    exact ⟨rfl, hK3⟩
theorem wrap_small (x : Int) (h0 : 0 ≤ x) (h1 : x < 4294967296) : IntKind.u32.wrap x = x := by
  unfold IntKind.wrap
  simp [IntKind.bits, IntKind.signed]
  omega
theorem half_again (i g : Nat) : i / 2 ^ g / 2 = i / 2 ^ (g + 1) := by rw [Nat.div_div_eq_div_mul, Nat.pow_succ]
def RTpJ (w0 : World) (B : Nat) (N : Int) (sd sec : List Int) (tree q : Int) (T0 : List Int) (n0 i a n gk : Nat) (v y x : Value) (w : World) : Prop :=
  ∃ (g : Nat) (A : Option Addr) (c : Nat), v = .slice A (n0 + n * g) c ∧ x = .int .i64 g ∧ y = .int .u32 ((i / 2 ^ g : Nat) : Int) ∧ g ≤ a ∧ gk = a - g ∧ Own w B 5 .u8 (.slice A (n0 + n * g) c) (T0 ++ pathL N sd sec tree q i g) ∧ Kept B (fun _ => False) w0 w
set_option maxRecDepth 100000 in
set_option maxHeartbeats 2000000 in
theorem rtell_any (f : Fw) (kn an : Nat) (hkn : f.k = kn) (han : f.a = an) (hf : f.ok) (sec sd bt : List Int) (Asc Asl Asd Ab : Option Addr) (nsc csc nsl csl nd cd L cb : Nat) (tree q : Int) (w : World) (ht : U64 tree) (hq : W32 q) (hm : f.made nsc nsl nd) (h1 : Rd w w.heap.size .u8 Asd sd) (hn1 : sd.length = nd) (hc1 : nd ≤ cd) (hb1 : Bys sd) (hsec : Rd w w.heap.size .u8 Asc sec) (hnsc : sec.length = nsc) (hcsc : nsc ≤ csc) (hbsc : Bys sec) (hrb : Rd w w.heap.size .u8 Ab bt) (hLb : bt.length = L) (hLc : L ≤ cb) (hL : L ≤ 100000) (hbb : Bys bt) (hlt8 : ¬ 8 * L < kn * an) :
    Calls Tryd.prog 27 #[.agg f.cs, .agg #[.slice Asc nsc csc, .slice Asl nsl csl, .slice Asd nd cd], .int .u64 tree, .int .u32 q, .slice Ab L cb] w (OutR w (tellS f.n sd sec tree q bt an kn) (nd * ((an + 1) * kn))) := by
  have hsz := hm.szd hn1
  have hk40 : kn ≤ 40 := by have := hm.may.k; omega
  have ha6 : an ≤ 6 := by have := hm.a; omega
  have hn32 : nd ≤ 32 := by have := hsz.n; have := hsz.e; omega
  have hcs : nsc ≤ 32 := by have := hm.c; have := hm.d; omega
  have hF := (Blk.new w 23 f.cs).alloc (.cells #[.slice Asc nsc csc, .slice Asl nsl csl, .slice Asd nd cd] 39)
  have hM := Blk.new (w.alloc (.cells f.cs 23)) 39 #[.slice Asc nsc csc, .slice Asl nsl csl, .slice Asd nd cd]
  have hK := bal (bal (Below.refl w.heap.size w) (Nat.le_refl _) (.cells f.cs 23)) (by simp) (.cells #[.slice Asc nsc csc, .slice Asl nsl csl, .slice Asd nd cd] 39)
  have hz : (w.alloc (.cells f.cs 23)).heap.size = w.heap.size + 1 := by simp
  have hmx : (200000000 : Nat) ≤ maxLen := by decide
  go_enter Tryd.func27, Tryd.ntmps27
  go_upto_region 1 with fail
  change Code.wp _ _ _ _ ((w.alloc (.cells f.cs 23)).alloc (.cells #[.slice Asc nsc csc, .slice Asl nsl csl, .slice Asd nd cd] 39))
  generalize (w.alloc (.cells f.cs 23)).alloc (.cells #[.slice Asc nsc csc, .slice Asl nsl csl, .slice Asd nd cd] 39) = w0 at hF hM hK ⊢
  rw [hz] at hM
  clear hz
  have h3 := hF.cell 3 (.int .i64 f.k) rfl
  have h4 := hF.cell 4 (.int .i64 f.a) rfl
  rw [hkn] at h3
  rw [han] at h4
  have hlf := hF.lt
  have hlf3 := hlf
  have hlf4 := hlf
  have m0 := hM.cell 0 (.slice Asc nsc csc) rfl
  have m2 := hM.cell 2 (.slice Asd nd cd) rfl
  have hlm := hM.lt
  have hlm0 := hlm
  have hlm2 := hlm
  go_wp2_with (first | (refine wpList_blk_yes (t := 23) (T := 23) (by rfl) rfl rfl Tryd.underlying23 rfl (by kernel_rfl) hF ?_) | (refine wpList_blk_yes (t := 39) (T := 39) (by rfl) rfl rfl Tryd.underlying39 rfl (by kernel_rfl) hM ?_))
  (with_reducible refine (rmade_yes f Asc Asl Asd nsc csc nsl csl nd cd w0 hf hm).mono ?_)
  rintro e v1 ⟨rfl, hb1⟩
  have hK1 := bnx hK hb1 hK.size
  have hcf_1 := hF.below hb1 hlf
  have hlf_1 := Nat.lt_of_lt_of_le hlf hb1.size
  have hcm_1 := hM.below hb1 hlm
  have hlm_1 := Nat.lt_of_lt_of_le hlm hb1.size
  have hc3_1 := cell_bel h3 hb1 hlf3
  have hl3_1 := Nat.lt_of_lt_of_le hlf3 hb1.size
  have hc4_1 := cell_bel h4 hb1 hlf4
  have hl4_1 := Nat.lt_of_lt_of_le hlf4 hb1.size
  have hc0_1 := cell_bel m0 hb1 hlm0
  have hl0_1 := Nat.lt_of_lt_of_le hlm0 hb1.size
  have hc2_1 := cell_bel m2 hb1 hlm2
  have hl2_1 := Nat.lt_of_lt_of_le hlm2 hb1.size
  clear hK hF hlf hM hlm h3 hlf3 h4 hlf4 m0 hlm0 m2 hlm2 hb1
  have hZ := Blk.new v1 46 #[.int .u32 0, .int .u64 0, .int .u32 0, .int .u32 0, .int .u32 0, .int .u32 0]
  go_upto_region 5 with (first | (refine wpList_val_yes (o := ⟨some 24, _, _, _, _, _⟩) (.agg (Ad.cs ⟨0, tree, 0, q, 0, 0⟩)) (by rfl) (by kernel_rfl) ?_) | (refine wpList_store_row (o := ⟨none, _, _, _, _, _⟩) rfl 46 _ _ rfl _ (Ad.cs ⟨0, tree, 0, q, 0, 0⟩) rfl (by kernel_rfl) _ #[.int .u32 0, .int .u64 0, .int .u32 0, .int .u32 0, .int .u32 0, .int .u32 0] hZ (by kernel_rfl) rfl (by kernel_rfl) ?_))
  have hpk := ((Kept.refl v1.heap.size (fun _ => False) v1).alloc (.cells #[.int .u32 0, .int .u64 0, .int .u32 0, .int .u32 0, .int .u32 0, .int .u32 0] 46) (Nat.le_refl _)).setRow v1.heap.size (Ad.cs ⟨0, tree, 0, q, 0, 0⟩) (.inl (Nat.le_refl _))
  have hpb := hZ.setRow (Ad.cs ⟨0, tree, 0, q, 0, 0⟩)
  change Code.wp _ _ _ _ ((v1.alloc (.cells #[.int .u32 0, .int .u64 0, .int .u32 0, .int .u32 0, .int .u32 0, .int .u32 0] 46)).setRow v1.heap.size (Ad.cs ⟨0, tree, 0, q, 0, 0⟩))
  obtain ⟨ba, hba⟩ : ∃ b, v1.heap.size = b := ⟨_, rfl⟩
  have hbq := hpk.below
  generalize (v1.alloc (.cells #[.int .u32 0, .int .u64 0, .int .u32 0, .int .u32 0, .int .u32 0, .int .u32 0] 46)).setRow v1.heap.size (Ad.cs ⟨0, tree, 0, q, 0, 0⟩) = v2 at hpk hpb hbq ⊢
  have hK2 := bnx hK1 hbq hK1.size
  have hcf_2 := hcf_1.below hbq hlf_1
  have hlf_2 := Nat.lt_of_lt_of_le hlf_1 hbq.size
  have hcm_2 := hcm_1.below hbq hlm_1
  have hlm_2 := Nat.lt_of_lt_of_le hlm_1 hbq.size
  have hc3_2 := cell_bel hc3_1 hbq hl3_1
  have hl3_2 := Nat.lt_of_lt_of_le hl3_1 hbq.size
  have hc4_2 := cell_bel hc4_1 hbq hl4_1
  have hl4_2 := Nat.lt_of_lt_of_le hl4_1 hbq.size
  have hc0_2 := cell_bel hc0_1 hbq hl0_1
  have hl0_2 := Nat.lt_of_lt_of_le hl0_1 hbq.size
  have hc2_2 := cell_bel hc2_1 hbq hl2_1
  have hl2_2 := Nat.lt_of_lt_of_le hl2_1 hbq.size
  rw [hba] at hpb ⊢
  have hlp := hpb.lt
  clear hpk hbq hZ hba hK1 hcf_1 hlf_1 hcm_1 hlm_1 hc3_1 hl3_1 hc4_1 hl4_1 hc0_1 hl0_1 hc2_1 hl2_1
  go_wp2_with (first | (refine wpList_blk_yes (t := 23) (T := 23) (by rfl) rfl rfl Tryd.underlying23 rfl (by kernel_rfl) hcf_2 ?_))
  (with_reducible refine (rdigits_any f kn an hkn han bt Ab L cb v2 hf hm.may (hrb.bel hK2) hLb hLc hL hlt8 hbb).mono ?_)
  rintro e v3 ⟨Ad, cdd, rfl, hD3, hhd, hb3⟩
  have hK3 := bnx hK2 hb3 hK2.size
  have hcf_3 := hcf_2.below hb3 hlf_2
  have hlf_3 := Nat.lt_of_lt_of_le hlf_2 hb3.size
  have hcm_3 := hcm_2.below hb3 hlm_2
  have hlm_3 := Nat.lt_of_lt_of_le hlm_2 hb3.size
  have hc3_3 := cell_bel hc3_2 hb3 hl3_2
  have hl3_3 := Nat.lt_of_lt_of_le hl3_2 hb3.size
  have hc4_3 := cell_bel hc4_2 hb3 hl4_2
  have hl4_3 := Nat.lt_of_lt_of_le hl4_2 hb3.size
  have hc0_3 := cell_bel hc0_2 hb3 hl0_2
  have hl0_3 := Nat.lt_of_lt_of_le hl0_2 hb3.size
  have hc2_3 := cell_bel hc2_2 hb3 hl2_2
  have hl2_3 := Nat.lt_of_lt_of_le hl2_2 hb3.size
  have hca_3 := hpb.below hb3 hlp
  have hla_3 := Nat.lt_of_lt_of_le hlp hb3.size
  clear hK2 hcf_2 hlf_2 hcm_2 hlm_2 hc3_2 hl3_2 hc4_2 hl4_2 hc0_2 hl0_2 hc2_2 hl2_2 hpb hlp hb3
  have hr1 := h1.bel hK3
  have hr2 := hsec.bel hK3
  have hK0 := Kept.refl v3.heap.size (fun _ => False) v3
  obtain ⟨B, hB⟩ : ∃ B, v3.heap.size = B := ⟨_, rfl⟩
  rw [hB] at hK0
  have HB := Lib.hid hB
  have HSZ := Lib.hid hsz
  have HDL := Lib.hid (digsL_gt bt an kn)
  have HDN := Lib.hid (digsL_len bt an kn)
  clear hsz hB hlt8
  go_upto_region 7 with fail
  go_loopg [11, 14] kn (fun gk v x wr => TlJ v3 B f.n sd sec tree q bt an nd kn gk v x wr)
  case atStart => exact ⟨0, none, 0, rfl, rfl, Nat.zero_le _, rfl, Own.nil _ _ _ _, hK0⟩
  case round =>
    clear hK0
    obtain ⟨wq, rfl⟩ : ∃ wq : World, wq = wr := ⟨_, rfl⟩
    obtain ⟨k, Ao, co, rfl, rfl, hk, hgk, hO, hK⟩ := hrel
    have HGK := Lib.hid hgk
    have hwl : B ≤ wq.heap.size := by have := hK.size; have := HB.out; omega
    have hbw : Below v3.heap.size v3 wq := by rw [HB.out]; exact hK.below
    clear hgk
    by_cases hlt : k < kn
    · have hltI : (k : Int) < (kn : Int) := by omega
      obtain ⟨ad, rfl, hadB, hcd⟩ := (hD3.bel hbw).at_ (i := k) (by rw [HDN.out]; exact hlt)
      rw [HDL.out k hlt] at hcd
      have hq4 := cell_bel hc4_3 hbw hl4_3
      have hil := idx_lt bt an k (by omega) (by omega)
      have hdl := dgN_lt bt (k * an) an
      have hdn := dgN_nat bt (k * an) an
      obtain ⟨p, hp⟩ : ∃ p, 2 ^ an = p := ⟨_, rfl⟩
      have hp64 : p ≤ 64 := by rw [← hp]; exact Nat.le_trans (Nat.pow_le_pow_right (by decide) ha6) (by decide)
      have hie : idx bt an k = k * p + (dgN bt (k * an) an).toNat := by rw [idx, hp]
      obtain ⟨dk, hdk⟩ : ∃ d, (dgN bt (k * an) an).toNat = d := ⟨_, rfl⟩
      rw [hdk] at hdn hie hdl
      rw [← hdn] at hcd
      obtain ⟨i, hi⟩ : ∃ i, idx bt an k = i := ⟨_, rfl⟩
      rw [hi] at hil hie
      obtain ⟨kp, hkp⟩ : ∃ x, k * p = x := ⟨_, rfl⟩
      rw [hkp] at hie
      have hkm := wrap_small (k : Int) (by omega) (by omega)
      have hmu : IntKind.u32.wrap ((k : Int) * (p : Int)) = (kp : Int) := by
        have e : (k : Int) * (p : Int) = (kp : Int) := by rw [← hkp]; push_cast; rfl
        rw [e]; exact wrap_small _ (by omega) (by omega)
      have had : IntKind.u32.wrap ((kp : Int) + (dk : Int)) = (i : Int) := by
        have e : (kp : Int) + (dk : Int) = (i : Int) := by rw [hie]; push_cast; rfl
        rw [e]; exact wrap_small _ (by omega) (by omega)
      have hsc := atL_nd HSZ.out tree q 6 0 (i : Int) sec
      rw [hn1] at hsc
      obtain ⟨T0, hT0⟩ : ∃ T, tellS f.n sd sec tree q bt an k ++ atL f.n sd tree q 6 0 (i : Int) sec = T := ⟨_, rfl⟩
      have hL0 : T0.length = nd * ((an + 1) * k) + nd := by rw [← hT0, List.length_append, tellS_len HSZ.out, hsc, hn1]
      have hnx : tellS f.n sd sec tree q bt an (k + 1) = T0 ++ pathL f.n sd sec tree q i an := by rw [tellS, hi, ← hT0, List.append_assoc]
      have hmul : nd * ((an + 1) * (k + 1)) ≤ 8960 := Nat.le_trans (Nat.mul_le_mul hn32 (Nat.mul_le_mul (show an + 1 ≤ 7 by omega) (show k + 1 ≤ 40 by omega))) (by decide)
      have hsum : nd * ((an + 1) * (k + 1)) = nd * ((an + 1) * k) + nd + nd * an := by rw [Nat.mul_succ, Nat.mul_add, Nat.mul_add nd an 1, Nat.mul_one]; omega
      obtain ⟨n0, hn0⟩ : ∃ n, nd * ((an + 1) * k) + nd = n := ⟨_, rfl⟩
      rw [hn0] at hL0 hsum
      have hiW : W32 (i : Int) := ⟨by omega, by omega⟩
      have HN := Lib.hid (And.intro hn0 (And.intro hmul hsum))
      have HX := Lib.hid (And.intro hT0 (And.intro hL0 hnx))
      have hpw : ∀ wx, Calls Tryd.prog 48 #[.int .i64 an] wx fun e w' => e = .returned (.int .u32 (p : Int)) ∧ w' = wx := fun wx => by
        have h := pow_any an wx (by omega)
        rw [hp] at h; exact h
      clear hdk hi hn0 hmul hsum hT0 hL0 hnx hie hkp hdl hdn hp
      go_upto_region 9 with fail
      go_quiet ((go_at_call 48; exact Calls.quiet_of_same (hpw _)))
      have hO' := hO.drewN nq
      have hK' := hK.drewN nq
      have hwl' : B ≤ (wq.drewN nq).heap.size := hwl
      change Exit.then _ _ _ _ (wq.drewN nq)
      generalize wq.drewN nq = wu at hO' hK' hwl' ⊢
      have hbu : Below v3.heap.size v3 wu := by rw [HB.out]; exact hK'.below
      have huf := hcf_3.below hbu hlf_3
      have hua := hca_3.below hbu hla_3
      have hu2 := cell_bel hc2_3 hbu hl2_3
      have hu0 := cell_bel hc0_3 hbu hl0_3
      clear hO hK hbw hwl hq4 hkm hmu had hcd hpw
      go_wp2_with (first | (refine wpList_blk_yes (t := 23) (T := 23) (by rfl) rfl rfl Tryd.underlying23 rfl (by kernel_rfl) huf ?_) | (refine wpList_blk_yes (t := 46) (T := 46) (by rfl) rfl rfl Tryd.underlying46 rfl (by kernel_rfl) hua ?_))
      (with_reducible refine (rat_0 f sd Asd nd cd tree q 6 0 0 0 i sec Asc nsc csc nd wu ht hq (W32.small (by decide) (by decide)) hiW (hr1.bel hbu) hn1 hc1 hb1 (hr2.bel hbu) hnsc hcsc (by omega) hbsc hsc).mono ?_)
      rintro e w1 ⟨A1, c1, rfl, hR1, hh1, hb1'⟩
      have hK1 := kbl hK' hwl' hb1'
      have hOo := hO'.below hb1' (Nat.le_refl _)
      have hz1' := hb1'.size
      clear hb1' hO' hK' hbu huf hua hu2 hu0
      go_upto_region 11 with (at_builtin; refine wpList_app rfl (.tmp 45) (.tmp 53) 24 5 .u8 1 rfl Tryd.underlying24 inf_u8 hOo hR1 rfl rfl hsc _ HX.out.1 n0 HX.out.2.1 (by have := HN.out; omega) (by have := HN.out; omega) (by omega) ?_; intro A2 c2 w2 hO2 hg2 hf2)
      have hK2 := hK1.grew hOo hg2 (Nat.le_refl _) (by omega)
      have hz2 := hg2.size
      clear hOo hR1 hg2 hf2 hK1
      clear hz1' hz2 hwl'
      go_upto_region 12 with fail
      go_loopg [11, 15, 16] an (fun gk v y x wr => RTpJ v3 B f.n sd sec tree q T0 n0 i an nd gk v y x wr)
      case atStart => exact ⟨0, A2, c2, by rw [Nat.mul_zero, Nat.add_zero], rfl, by rw [Nat.pow_zero, Nat.div_one], Nat.zero_le _, rfl, by rw [Nat.mul_zero, Nat.add_zero, pathL, List.append_nil]; exact hO2, hK2⟩
      case round =>
        clear hO2 hK2
        obtain ⟨wp, rfl⟩ : ∃ wp : World, wp = wr := ⟨_, rfl⟩
        obtain ⟨g, Ag, cg, rfl, rfl, rfl, hg, hgk, hO3, hK3⟩ := hrel
        have HGG := Lib.hid hgk
        have hwl3 : B ≤ wp.heap.size := by have := hK3.size; have := HB.out; omega
        have hbw3 : Below v3.heap.size v3 wp := by rw [HB.out]; exact hK3.below
        clear hgk
        have hp4 := cell_bel hc4_3 hbw3 hl4_3
        have hpf := hcf_3.below hbw3 hlf_3
        have hpm := hcm_3.below hbw3 hlm_3
        have hpa := hca_3.below hbw3 hla_3
        by_cases hlg : g < an
        · have hlgI : (g : Int) < (an : Int) := by omega
          obtain ⟨y, hyy⟩ : ∃ y, i / 2 ^ g = y := ⟨_, rfl⟩
          have hil2 : y < 655360 := by rw [← hyy]; exact Nat.lt_of_le_of_lt (Nat.div_le_self _ _) hil
          have HY := Lib.hid hyy
          rw [hyy]
          clear hyy
          by_cases hy : y % 2 = 1
          · have hnei : nei y = (y - 1) := by unfold nei; rw [if_pos hy]
            have hyI : (((y : Int) % 2) == 1) = true := by first | (exact beq_iff_eq.2 (by omega)) | (exact beq_eq_false_iff_ne.2 (by omega))
            have hm1 : ((y : Int) + 1) % 4294967296 = ((y + 1 : Nat) : Int) := by omega
            have hm2 : ((y : Int) - 1) % 4294967296 = ((y - 1 : Nat) : Int) := by omega
            obtain ⟨m, hmm⟩ : ∃ m, (y - 1) = m := ⟨_, rfl⟩
            have hmI : (y : Int) - 1 = (m : Int) := by omega
            have HMI := Lib.hid hmI
            clear hmI
            rw [hmm] at hnei
            rw [hmm] at hm2
            have hnl := nei_lt y hil2
            rw [hnei] at hnl
            have hmW : W32 (m : Int) := ⟨by omega, by omega⟩
            have hsl := sumT_nd HSZ.out sec tree q g (m : Int)
            rw [hn1] at hsl
            have hpx : T0 ++ pathL f.n sd sec tree q i (g + 1) = (T0 ++ pathL f.n sd sec tree q i g) ++ sumT f.n sd sec tree q g (m : Int) := by rw [pathL, HY.out, hnei, List.append_assoc]
            have hLp : (T0 ++ pathL f.n sd sec tree q i (g + 1)).length = n0 + nd * (g + 1) := by rw [List.length_append, HX.out.2.1, pathL_len HSZ.out, hn1]
            have hmg : n0 + nd * (g + 1) ≤ 8960 := by
              have h1 : nd * (g + 1) ≤ nd * an := Nat.mul_le_mul_left _ hlg
              have h2 := HN.out
              omega
            have HP := Lib.hid (And.intro hpx (And.intro hLp hmg))
            clear hmm hpx hLp hmg hnei hy
            go_upto_region 17 with fail
            clear hm1 hm2 hyI
            go_wp2_with (first | (refine wpList_blk_yes (t := 23) (T := 23) (by rfl) rfl rfl Tryd.underlying23 rfl (by kernel_rfl) hpf ?_) | (refine wpList_blk_yes (t := 39) (T := 39) (by rfl) rfl rfl Tryd.underlying39 rfl (by kernel_rfl) hpm ?_) | (refine wpList_blk_yes (t := 46) (T := 46) (by rfl) rfl rfl Tryd.underlying46 rfl (by kernel_rfl) hpa ?_))
            rw [HMI.out]
            (with_reducible refine (rsum_any f sec sd Asc Asl Asd nsc csc nsl csl nd cd tree q ht hq hn1 hc1 hb1 hnsc hcsc hbsc (by omega) g (by omega) m nd wp hmW (hr1.bel hbw3) (hr2.bel hbw3) hsl).mono ?_)
            rintro e w3 ⟨A4, c4, rfl, hR4, hh4, hb4⟩
            have hK4 := kbl hK3 hwl3 hb4
            have hO4 := hO3.below hb4 (Nat.le_refl _)
            have hz4 := hb4.size
            clear hb4 hO3 hK3 hbw3 hpf hpm hpa hp4
            go_wp2_with (at_builtin; refine wpList_app rfl (.tmp 68) (.tmp 74) 24 5 .u8 1 rfl Tryd.underlying24 inf_u8 hO4 hR4 rfl rfl hsl _ HP.out.1.symm (n0 + nd * (g + 1)) HP.out.2.1 (by have := HP.out.2.2; omega) (by have := HP.out.2.2; omega) (by omega) ?_; intro A5 c5 w5 hO5 hg5 hf5)
            have hK5 := hK4.grew hO4 hg5 (Nat.le_refl _) (by omega)
            go_roundg (an - (g + 1))
            case measure => have := HGG.out; omega
            case rel => exact ⟨g + 1, A5, c5, rfl, by go_num, by rw [← half_again i g, HY.out]; push_cast; rfl, by omega, rfl, hO5, hK5⟩
          · have hnei : nei y = (y + 1) := by unfold nei; rw [if_neg hy]
            have hyI : (((y : Int) % 2) == 1) = false := by first | (exact beq_iff_eq.2 (by omega)) | (exact beq_eq_false_iff_ne.2 (by omega))
            have hm1 : ((y : Int) + 1) % 4294967296 = ((y + 1 : Nat) : Int) := by omega
            skip
            obtain ⟨m, hmm⟩ : ∃ m, (y + 1) = m := ⟨_, rfl⟩
            have hmI : (y : Int) + 1 = (m : Int) := by omega
            have HMI := Lib.hid hmI
            clear hmI
            rw [hmm] at hnei
            rw [hmm] at hm1
            have hnl := nei_lt y hil2
            rw [hnei] at hnl
            have hmW : W32 (m : Int) := ⟨by omega, by omega⟩
            have hsl := sumT_nd HSZ.out sec tree q g (m : Int)
            rw [hn1] at hsl
            have hpx : T0 ++ pathL f.n sd sec tree q i (g + 1) = (T0 ++ pathL f.n sd sec tree q i g) ++ sumT f.n sd sec tree q g (m : Int) := by rw [pathL, HY.out, hnei, List.append_assoc]
            have hLp : (T0 ++ pathL f.n sd sec tree q i (g + 1)).length = n0 + nd * (g + 1) := by rw [List.length_append, HX.out.2.1, pathL_len HSZ.out, hn1]
            have hmg : n0 + nd * (g + 1) ≤ 8960 := by
              have h1 : nd * (g + 1) ≤ nd * an := Nat.mul_le_mul_left _ hlg
              have h2 := HN.out
              omega
            have HP := Lib.hid (And.intro hpx (And.intro hLp hmg))
            clear hmm hpx hLp hmg hnei hy
            go_upto_region 17 with fail
            clear hm1 hyI
            go_wp2_with (first | (refine wpList_blk_yes (t := 23) (T := 23) (by rfl) rfl rfl Tryd.underlying23 rfl (by kernel_rfl) hpf ?_) | (refine wpList_blk_yes (t := 39) (T := 39) (by rfl) rfl rfl Tryd.underlying39 rfl (by kernel_rfl) hpm ?_) | (refine wpList_blk_yes (t := 46) (T := 46) (by rfl) rfl rfl Tryd.underlying46 rfl (by kernel_rfl) hpa ?_))
            rw [HMI.out]
            (with_reducible refine (rsum_any f sec sd Asc Asl Asd nsc csc nsl csl nd cd tree q ht hq hn1 hc1 hb1 hnsc hcsc hbsc (by omega) g (by omega) m nd wp hmW (hr1.bel hbw3) (hr2.bel hbw3) hsl).mono ?_)
            rintro e w3 ⟨A4, c4, rfl, hR4, hh4, hb4⟩
            have hK4 := kbl hK3 hwl3 hb4
            have hO4 := hO3.below hb4 (Nat.le_refl _)
            have hz4 := hb4.size
            clear hb4 hO3 hK3 hbw3 hpf hpm hpa hp4
            go_wp2_with (at_builtin; refine wpList_app rfl (.tmp 68) (.tmp 74) 24 5 .u8 1 rfl Tryd.underlying24 inf_u8 hO4 hR4 rfl rfl hsl _ HP.out.1.symm (n0 + nd * (g + 1)) HP.out.2.1 (by have := HP.out.2.2; omega) (by have := HP.out.2.2; omega) (by omega) ?_; intro A5 c5 w5 hO5 hg5 hf5)
            have hK5 := hK4.grew hO4 hg5 (Nat.le_refl _) (by omega)
            go_roundg (an - (g + 1))
            case measure => have := HGG.out; omega
            case rel => exact ⟨g + 1, A5, c5, rfl, by go_num, by rw [← half_again i g, HY.out]; push_cast; rfl, by omega, rfl, hO5, hK5⟩
        · have hlgI : ¬ (g : Int) < (an : Int) := by omega
          obtain rfl : g = an := by omega
          clear hbw3
          go_wp2_with fail
          go_roundg (kn - (k + 1))
          case measure => have := HGK.out; omega
          case rel => exact ⟨k + 1, Ag, cg, by rw [HN.out.2.2], by go_num, by omega, rfl, by rw [HX.out.2.2, HN.out.2.2]; exact hO3, hK3⟩
    · have hltI : ¬ (k : Int) < (kn : Int) := by omega
      obtain rfl : k = kn := by omega
      have hKq := bnx hK3 hbw hK3.size
      have hRt := hO.rd
      have hcT := hO.len.2
      rw [tellS_len HSZ.out, hn1] at hcT
      clear hO hK hbw
      go_wp2_with fail
      go_ret
      exact ⟨_, _, rfl, hRt, hcT, hKq⟩
end Go.Proofs.YtfaonieaagepjaaDoor
