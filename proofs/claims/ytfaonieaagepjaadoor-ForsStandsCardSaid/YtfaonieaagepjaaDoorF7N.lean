/- Layer 17: what is told, walked. Conditions: small lengths, words of their kinds, the tables. -/
import Derived.Test.YtfaonieaagepjaaDoorF7M
namespace Go.Proofs.YtfaonieaagepjaaDoor
open Go.RowKit
set_option linter.unusedVariables false
set_option linter.unusedSimpArgs false
theorem xor_one (i : Nat) (hi : i < 4294967296) : bits .xor .u32 (i : Int) 1 = ((nei i : Nat) : Int) := by
  rw [bw_xor]
  have e : (bw (i : Int)).toNat = i := by rw [bw_natCast]; exact Nat.mod_eq_of_lt hi
  have e1 : (bw 1).toNat = 1 := by decide
  rw [BitVec.toNat_xor, e, e1, nei_xor]
theorem or_nat (i j : Nat) (hi : i < 4294967296) (hj : j < 4294967296) : bits .or .u32 (i : Int) (j : Int) = ((i ||| j : Nat) : Int) := by
  rw [bw_or]
  have e : (bw (i : Int)).toNat = i := by rw [bw_natCast]; exact Nat.mod_eq_of_lt hi
  have e1 : (bw (j : Int)).toNat = j := by rw [bw_natCast]; exact Nat.mod_eq_of_lt hj
  rw [BitVec.toNat_or, e, e1]
theorem nei_lt (i : Nat) (h : i < 655360) : nei i < 655361 := by unfold nei; split <;> omega
/-- The number of the secret, out of the digit, as the program reckons it. -/
theorem idx_reckon (b : List Int) (a k : Nat) (ha : a ≤ 14) (hk : k < 40) : bits .or .u32 (((k * 2 ^ a : Nat) : Int)) (dgN b (k * a) a) = ((idx b a k : Nat) : Int) := by
  have h := idx_lt b a k ha hk
  have hd := dgN_lt b (k * a) a
  have hp : 2 ^ a ≤ 16384 := Nat.le_trans (Nat.pow_le_pow_right (by decide) ha) (by decide)
  rw [← dgN_nat, or_nat _ _ (by unfold idx at h; omega) (by omega), ← Nat.shiftLeft_eq, idx_or]
theorem pathL_B (N : Int) (sd sec : List Int) (tree q : Int) (i : Nat) : ∀ g, Bys (pathL N sd sec tree q i g)
  | 0 => Bys.nil
  | g + 1 => (pathL_B N sd sec tree q i g).append (sumT_By _ _ _ _ _ _ _)
theorem tellS_B (N : Int) (sd sec : List Int) (tree q : Int) (b : List Int) (a : Nat) : ∀ k, Bys (tellS N sd sec tree q b a k)
  | 0 => Bys.nil
  | k + 1 => (tellS_B N sd sec tree q b a k).append ((atL_B _ _ _ _ _ _ _ _).append (pathL_B _ _ _ _ _ _ _))
set_option maxRecDepth 100000 in
theorem tell_no (f : Fw) (kn an : Nat) (hkn : f.k = kn) (han : f.a = an) (hf : f.ok) (Asc Asl Asd Ab : Option Addr) (nsc csc nsl csl nd cd L cb : Nat) (tree q : Int) (w : World) (hno : ¬ f.made nsc nsl nd) :
    Calls Tryd.prog 26 #[.agg f.cs, .agg #[.slice Asc nsc csc, .slice Asl nsl csl, .slice Asd nd cd], .int .u64 tree, .int .u32 q, .slice Ab L cb] w (NilP w) := by
  have hF := (Blk.new w 23 f.cs).alloc (.cells #[.slice Asc nsc csc, .slice Asl nsl csl, .slice Asd nd cd] 39)
  have hM := Blk.new (w.alloc (.cells f.cs 23)) 39 #[.slice Asc nsc csc, .slice Asl nsl csl, .slice Asd nd cd]
  have hK := bal (bal (Below.refl w.heap.size w) (Nat.le_refl _) (.cells f.cs 23)) (by simp) (.cells #[.slice Asc nsc csc, .slice Asl nsl csl, .slice Asd nd cd] 39)
  have hz : (w.alloc (.cells f.cs 23)).heap.size = w.heap.size + 1 := by simp
  have hmx : (200000000 : Nat) ≤ maxLen := by decide
  go_enter Tryd.func26, Tryd.ntmps26
  go_upto_region 1 with fail
  change Code.wp _ _ _ _ ((w.alloc (.cells f.cs 23)).alloc (.cells #[.slice Asc nsc csc, .slice Asl nsl csl, .slice Asd nd cd] 39))
  generalize (w.alloc (.cells f.cs 23)).alloc (.cells #[.slice Asc nsc csc, .slice Asl nsl csl, .slice Asd nd cd] 39) = w0 at hF hM hK ⊢
  rw [hz] at hM
  clear hz
  have h3 := hF.cell 3 (.int .i64 f.k) rfl
  have h4 := hF.cell 4 (.int .i64 f.a) rfl
  rw [hkn] at h3
  rw [han] at h4
  have hlf := hF.lt
  have hlf3 := hlf
  have hlf4 := hlf
  have m2 := hM.cell 2 (.slice Asd nd cd) rfl
  have hlm := hM.lt
  have hlm2 := hlm
  go_wp2_with (first | (refine wpList_blk_yes (t := 23) (T := 23) (by rfl) rfl rfl Tryd.underlying23 rfl (by kernel_rfl) hF ?_) | (refine wpList_blk_yes (t := 39) (T := 39) (by rfl) rfl rfl Tryd.underlying39 rfl (by kernel_rfl) hM ?_))
  (with_reducible refine (made_no f Asc Asl Asd nsc csc nsl csl nd cd w0 hf hno).mono ?_)
  rintro e v1 ⟨rfl, hb1⟩
  have hK1 := bnx hK hb1 hK.size
  have hcf_1 := hF.below hb1 hlf
  have hlf_1 := Nat.lt_of_lt_of_le hlf hb1.size
  have hcm_1 := hM.below hb1 hlm
  have hlm_1 := Nat.lt_of_lt_of_le hlm hb1.size
  have hc3_1 := cell_bel h3 hb1 hlf3
  have hl3_1 := Nat.lt_of_lt_of_le hlf3 hb1.size
  have hc4_1 := cell_bel h4 hb1 hlf4
  have hl4_1 := Nat.lt_of_lt_of_le hlf4 hb1.size
  have hc2_1 := cell_bel m2 hb1 hlm2
  have hl2_1 := Nat.lt_of_lt_of_le hlm2 hb1.size
  clear hK hF hlf hM hlm h3 hlf3 h4 hlf4 m2 hlm2 hb1
  go_wp2_with fail
  go_ret
  exact ⟨rfl, hK1⟩
set_option maxRecDepth 100000 in
theorem tell_short (f : Fw) (kn an : Nat) (hkn : f.k = kn) (han : f.a = an) (hf : f.ok) (Asc Asl Asd Ab : Option Addr) (nsc csc nsl csl nd cd L cb : Nat) (tree q : Int) (w : World) (hm : f.made nsc nsl nd) (hL : L ≤ 100000) (hlt8 : 8 * L < kn * an) :
    Calls Tryd.prog 26 #[.agg f.cs, .agg #[.slice Asc nsc csc, .slice Asl nsl csl, .slice Asd nd cd], .int .u64 tree, .int .u32 q, .slice Ab L cb] w (NilP w) := by
  have hF := (Blk.new w 23 f.cs).alloc (.cells #[.slice Asc nsc csc, .slice Asl nsl csl, .slice Asd nd cd] 39)
  have hM := Blk.new (w.alloc (.cells f.cs 23)) 39 #[.slice Asc nsc csc, .slice Asl nsl csl, .slice Asd nd cd]
  have hK := bal (bal (Below.refl w.heap.size w) (Nat.le_refl _) (.cells f.cs 23)) (by simp) (.cells #[.slice Asc nsc csc, .slice Asl nsl csl, .slice Asd nd cd] 39)
  have hz : (w.alloc (.cells f.cs 23)).heap.size = w.heap.size + 1 := by simp
  have hmx : (200000000 : Nat) ≤ maxLen := by decide
  go_enter Tryd.func26, Tryd.ntmps26
  go_upto_region 1 with fail
  change Code.wp _ _ _ _ ((w.alloc (.cells f.cs 23)).alloc (.cells #[.slice Asc nsc csc, .slice Asl nsl csl, .slice Asd nd cd] 39))
  generalize (w.alloc (.cells f.cs 23)).alloc (.cells #[.slice Asc nsc csc, .slice Asl nsl csl, .slice Asd nd cd] 39) = w0 at hF hM hK ⊢
  rw [hz] at hM
  clear hz
  have h3 := hF.cell 3 (.int .i64 f.k) rfl
  have h4 := hF.cell 4 (.int .i64 f.a) rfl
  rw [hkn] at h3
  rw [han] at h4
  have hlf := hF.lt
  have hlf3 := hlf
  have hlf4 := hlf
  have m2 := hM.cell 2 (.slice Asd nd cd) rfl
  have hlm := hM.lt
  have hlm2 := hlm
  go_wp2_with (first | (refine wpList_blk_yes (t := 23) (T := 23) (by rfl) rfl rfl Tryd.underlying23 rfl (by kernel_rfl) hF ?_) | (refine wpList_blk_yes (t := 39) (T := 39) (by rfl) rfl rfl Tryd.underlying39 rfl (by kernel_rfl) hM ?_))
  (with_reducible refine (made_yes f Asc Asl Asd nsc csc nsl csl nd cd w0 hf hm).mono ?_)
  rintro e v1 ⟨rfl, hb1⟩
  have hK1 := bnx hK hb1 hK.size
  have hcf_1 := hF.below hb1 hlf
  have hlf_1 := Nat.lt_of_lt_of_le hlf hb1.size
  have hcm_1 := hM.below hb1 hlm
  have hlm_1 := Nat.lt_of_lt_of_le hlm hb1.size
  have hc3_1 := cell_bel h3 hb1 hlf3
  have hl3_1 := Nat.lt_of_lt_of_le hlf3 hb1.size
  have hc4_1 := cell_bel h4 hb1 hlf4
  have hl4_1 := Nat.lt_of_lt_of_le hlf4 hb1.size
  have hc2_1 := cell_bel m2 hb1 hlm2
  have hl2_1 := Nat.lt_of_lt_of_le hlm2 hb1.size
  clear hK hF hlf hM hlm h3 hlf3 h4 hlf4 m2 hlm2 hb1
  have hZ := Blk.new v1 67 #[.int .i64 0, .int .i64 0, .int .i64 0, .int .i64 0, .int .i64 0, .slice none 0 0, .int .u64 0, .int .u32 0]
  go_upto_region 4 with (first | (refine wpList_blk_yes (t := 23) (T := 23) (by rfl) rfl rfl Tryd.underlying23 rfl (by kernel_rfl) hcf_1 ?_) | (refine wpList_blk_yes (t := 39) (T := 39) (by rfl) rfl rfl Tryd.underlying39 rfl (by kernel_rfl) hcm_1 ?_) | (refine wpList_val_yes (o := ⟨some 27, _, _, _, _, _⟩) (.agg (plc f Asd nd cd tree q)) (by rfl) (by kernel_rfl) ?_) | (refine wpList_store_row (o := ⟨none, _, _, _, _, _⟩) rfl 67 _ _ rfl _ (plc f Asd nd cd tree q) rfl (by kernel_rfl) _ #[.int .i64 0, .int .i64 0, .int .i64 0, .int .i64 0, .int .i64 0, .slice none 0 0, .int .u64 0, .int .u32 0] hZ (by kernel_rfl) rfl (by kernel_rfl) ?_))
  have hpk := ((Kept.refl v1.heap.size (fun _ => False) v1).alloc (.cells #[.int .i64 0, .int .i64 0, .int .i64 0, .int .i64 0, .int .i64 0, .slice none 0 0, .int .u64 0, .int .u32 0] 67) (Nat.le_refl _)).setRow v1.heap.size (plc f Asd nd cd tree q) (.inl (Nat.le_refl _))
  have hpb := hZ.setRow (plc f Asd nd cd tree q)
  change Code.wp _ _ _ _ ((v1.alloc (.cells #[.int .i64 0, .int .i64 0, .int .i64 0, .int .i64 0, .int .i64 0, .slice none 0 0, .int .u64 0, .int .u32 0] 67)).setRow v1.heap.size (plc f Asd nd cd tree q))
  generalize (v1.alloc (.cells #[.int .i64 0, .int .i64 0, .int .i64 0, .int .i64 0, .int .i64 0, .slice none 0 0, .int .u64 0, .int .u32 0] 67)).setRow v1.heap.size (plc f Asd nd cd tree q) = v2 at hpk hpb ⊢
  have hbq := hpk.below
  have hK2 := bnx hK1 hbq hK1.size
  have hcf_2 := hcf_1.below hbq hlf_1
  have hlf_2 := Nat.lt_of_lt_of_le hlf_1 hbq.size
  have hcm_2 := hcm_1.below hbq hlm_1
  have hlm_2 := Nat.lt_of_lt_of_le hlm_1 hbq.size
  have hc3_2 := cell_bel hc3_1 hbq hl3_1
  have hl3_2 := Nat.lt_of_lt_of_le hl3_1 hbq.size
  have hc4_2 := cell_bel hc4_1 hbq hl4_1
  have hl4_2 := Nat.lt_of_lt_of_le hl4_1 hbq.size
  have hc2_2 := cell_bel hc2_1 hbq hl2_1
  have hl2_2 := Nat.lt_of_lt_of_le hl2_1 hbq.size
  have hlp := hpb.lt
  clear hpk hbq hZ hK1 hcf_1 hlf_1 hcm_1 hlm_1 hc3_1 hl3_1 hc4_1 hl4_1 hc2_1 hl2_1
  go_wp2_with (first | (refine wpList_blk_yes (t := 67) (T := 67) (by rfl) rfl rfl Tryd.underlying67 rfl (by kernel_rfl) hpb ?_) | (refine wpList_blk_yes (t := 39) (T := 39) (by rfl) rfl rfl Tryd.underlying39 rfl (by kernel_rfl) hcm_2 ?_))
  (with_reducible refine (sums_any f Asc Asl Asd nsc csc nsl csl nd cd tree q v2).mono ?_)
  rintro e v3 ⟨rfl, hS3, hb3⟩
  have hK3 := bnx hK2 hb3 hK2.size
  have hcf_3 := hcf_2.below hb3 hlf_2
  have hlf_3 := Nat.lt_of_lt_of_le hlf_2 hb3.size
  have hcm_3 := hcm_2.below hb3 hlm_2
  have hlm_3 := Nat.lt_of_lt_of_le hlm_2 hb3.size
  have hc3_3 := cell_bel hc3_2 hb3 hl3_2
  have hl3_3 := Nat.lt_of_lt_of_le hl3_2 hb3.size
  have hc4_3 := cell_bel hc4_2 hb3 hl4_2
  have hl4_3 := Nat.lt_of_lt_of_le hl4_2 hb3.size
  have hc2_3 := cell_bel hc2_2 hb3 hl2_2
  have hl2_3 := Nat.lt_of_lt_of_le hl2_2 hb3.size
  have hcp_3 := hpb.below hb3 hlp
  have hlp_3 := Nat.lt_of_lt_of_le hlp hb3.size
  clear hK2 hcf_2 hlf_2 hcm_2 hlm_2 hc3_2 hl3_2 hc4_2 hl4_2 hc2_2 hl2_2 hpb hlp hb3
  obtain ⟨bb, hbb1⟩ : ∃ bb, v2.heap.size = bb := ⟨_, rfl⟩
  rw [hbb1] at hS3 ⊢
  clear hbb1
  go_wp2_with (first | (refine wpList_blk_yes (t := 23) (T := 23) (by rfl) rfl rfl Tryd.underlying23 rfl (by kernel_rfl) hcf_3 ?_))
  (with_reducible refine (digits_short f kn an hkn han Ab L cb v3 hf hm.may hL hlt8).mono ?_)
  rintro e v4 ⟨rfl, hb4⟩
  have hK4 := bnx hK3 hb4 hK3.size
  have hBS_4 := bnx (Below.refl v3.heap.size v3) hb4 (Below.refl v3.heap.size v3).size
  have hcf_4 := hcf_3.below hb4 hlf_3
  have hlf_4 := Nat.lt_of_lt_of_le hlf_3 hb4.size
  have hcm_4 := hcm_3.below hb4 hlm_3
  have hlm_4 := Nat.lt_of_lt_of_le hlm_3 hb4.size
  have hc3_4 := cell_bel hc3_3 hb4 hl3_3
  have hl3_4 := Nat.lt_of_lt_of_le hl3_3 hb4.size
  have hc4_4 := cell_bel hc4_3 hb4 hl4_3
  have hl4_4 := Nat.lt_of_lt_of_le hl4_3 hb4.size
  have hc2_4 := cell_bel hc2_3 hb4 hl2_3
  have hl2_4 := Nat.lt_of_lt_of_le hl2_3 hb4.size
  have hcp_4 := hcp_3.below hb4 hlp_3
  have hlp_4 := Nat.lt_of_lt_of_le hlp_3 hb4.size
  clear hK3 hcf_3 hlf_3 hcm_3 hlm_3 hc3_3 hl3_3 hc4_3 hl4_3 hc2_3 hl2_3 hcp_3 hlp_3 hb4
  clear hlt8
  go_upto_region 7 with fail
  go_loopg [13, 35] 0 (fun gk v x wr => v = .slice none 0 0 ∧ x = .int .i64 0 ∧ wr = v4)
  case atStart => exact ⟨rfl, rfl, rfl⟩
  case round =>
    obtain ⟨rfl, rfl, rfl⟩ := hrel
    go_wp2_with fail
    go_ret
    exact ⟨rfl, hK4⟩
def TlJ (w0 : World) (B : Nat) (N : Int) (sd sec : List Int) (tree q : Int) (b : List Int) (a n kn gk : Nat) (v x : Value) (w : World) : Prop :=
  ∃ (k : Nat) (A : Option Addr) (c : Nat), v = .slice A (n * ((a + 1) * k)) c ∧ x = .int .i64 k ∧ k ≤ kn ∧ gk = kn - k ∧ Own w B 5 .u8 (.slice A (n * ((a + 1) * k)) c) (tellS N sd sec tree q b a k) ∧ Kept B (fun _ => False) w0 w
def TpJ (w0 : World) (B : Nat) (N : Int) (sd sec : List Int) (tree q : Int) (T0 : List Int) (n0 i a n gk : Nat) (v x : Value) (w : World) : Prop :=
  ∃ (g : Nat) (A : Option Addr) (c : Nat), v = .slice A (n0 + n * g) c ∧ x = .int .u32 g ∧ g ≤ a ∧ gk = a - g ∧ Own w B 5 .u8 (.slice A (n0 + n * g) c) (T0 ++ pathL N sd sec tree q i g) ∧ Kept B (fun _ => False) w0 w
set_option maxRecDepth 100000 in
set_option maxHeartbeats 2000000 in
theorem tell_any (f : Fw) (kn an : Nat) (hkn : f.k = kn) (han : f.a = an) (hf : f.ok) (sec sd bt : List Int) (Asc Asl Asd Ab : Option Addr) (nsc csc nsl csl nd cd L cb : Nat) (tree q : Int) (w : World) (ht : U64 tree) (hq : W32 q) (hm : f.made nsc nsl nd) (h1 : Rd w w.heap.size .u8 Asd sd) (hn1 : sd.length = nd) (hc1 : nd ≤ cd) (hb1 : Bys sd) (hsec : Rd w w.heap.size .u8 Asc sec) (hnsc : sec.length = nsc) (hcsc : nsc ≤ csc) (hbsc : Bys sec) (hrb : Rd w w.heap.size .u8 Ab bt) (hLb : bt.length = L) (hLc : L ≤ cb) (hL : L ≤ 100000) (hbb : Bys bt) (hlt8 : ¬ 8 * L < kn * an) (hT : KTab w) :
    Calls Tryd.prog 26 #[.agg f.cs, .agg #[.slice Asc nsc csc, .slice Asl nsl csl, .slice Asd nd cd], .int .u64 tree, .int .u32 q, .slice Ab L cb] w (OutR w (tellS f.n sd sec tree q bt an kn) (nd * ((an + 1) * kn))) := by
  have hsz := hm.szd hn1
  have hk40 : kn ≤ 40 := by have := hm.may.k; omega
  have ha6 : an ≤ 6 := by have := hm.a; omega
  have hn32 : nd ≤ 32 := by have := hsz.n; have := hsz.e; omega
  have hcs : nsc ≤ 32 := by have := hm.c; have := hm.d; omega
  have hF := (Blk.new w 23 f.cs).alloc (.cells #[.slice Asc nsc csc, .slice Asl nsl csl, .slice Asd nd cd] 39)
  have hM := Blk.new (w.alloc (.cells f.cs 23)) 39 #[.slice Asc nsc csc, .slice Asl nsl csl, .slice Asd nd cd]
  have hK := bal (bal (Below.refl w.heap.size w) (Nat.le_refl _) (.cells f.cs 23)) (by simp) (.cells #[.slice Asc nsc csc, .slice Asl nsl csl, .slice Asd nd cd] 39)
  have hz : (w.alloc (.cells f.cs 23)).heap.size = w.heap.size + 1 := by simp
  have hmx : (200000000 : Nat) ≤ maxLen := by decide
  go_enter Tryd.func26, Tryd.ntmps26
  go_upto_region 1 with fail
  change Code.wp _ _ _ _ ((w.alloc (.cells f.cs 23)).alloc (.cells #[.slice Asc nsc csc, .slice Asl nsl csl, .slice Asd nd cd] 39))
  generalize (w.alloc (.cells f.cs 23)).alloc (.cells #[.slice Asc nsc csc, .slice Asl nsl csl, .slice Asd nd cd] 39) = w0 at hF hM hK ⊢
  rw [hz] at hM
  clear hz
  have h3 := hF.cell 3 (.int .i64 f.k) rfl
  have h4 := hF.cell 4 (.int .i64 f.a) rfl
  rw [hkn] at h3
  rw [han] at h4
  have hlf := hF.lt
  have hlf3 := hlf
  have hlf4 := hlf
  have m2 := hM.cell 2 (.slice Asd nd cd) rfl
  have hlm := hM.lt
  have hlm2 := hlm
  go_wp2_with (first | (refine wpList_blk_yes (t := 23) (T := 23) (by rfl) rfl rfl Tryd.underlying23 rfl (by kernel_rfl) hF ?_) | (refine wpList_blk_yes (t := 39) (T := 39) (by rfl) rfl rfl Tryd.underlying39 rfl (by kernel_rfl) hM ?_))
  (with_reducible refine (made_yes f Asc Asl Asd nsc csc nsl csl nd cd w0 hf hm).mono ?_)
  rintro e v1 ⟨rfl, hb1⟩
  have hK1 := bnx hK hb1 hK.size
  have hcf_1 := hF.below hb1 hlf
  have hlf_1 := Nat.lt_of_lt_of_le hlf hb1.size
  have hcm_1 := hM.below hb1 hlm
  have hlm_1 := Nat.lt_of_lt_of_le hlm hb1.size
  have hc3_1 := cell_bel h3 hb1 hlf3
  have hl3_1 := Nat.lt_of_lt_of_le hlf3 hb1.size
  have hc4_1 := cell_bel h4 hb1 hlf4
  have hl4_1 := Nat.lt_of_lt_of_le hlf4 hb1.size
  have hc2_1 := cell_bel m2 hb1 hlm2
  have hl2_1 := Nat.lt_of_lt_of_le hlm2 hb1.size
  clear hK hF hlf hM hlm h3 hlf3 h4 hlf4 m2 hlm2 hb1
  have hZ := Blk.new v1 67 #[.int .i64 0, .int .i64 0, .int .i64 0, .int .i64 0, .int .i64 0, .slice none 0 0, .int .u64 0, .int .u32 0]
  go_upto_region 4 with (first | (refine wpList_blk_yes (t := 23) (T := 23) (by rfl) rfl rfl Tryd.underlying23 rfl (by kernel_rfl) hcf_1 ?_) | (refine wpList_blk_yes (t := 39) (T := 39) (by rfl) rfl rfl Tryd.underlying39 rfl (by kernel_rfl) hcm_1 ?_) | (refine wpList_val_yes (o := ⟨some 27, _, _, _, _, _⟩) (.agg (plc f Asd nd cd tree q)) (by rfl) (by kernel_rfl) ?_) | (refine wpList_store_row (o := ⟨none, _, _, _, _, _⟩) rfl 67 _ _ rfl _ (plc f Asd nd cd tree q) rfl (by kernel_rfl) _ #[.int .i64 0, .int .i64 0, .int .i64 0, .int .i64 0, .int .i64 0, .slice none 0 0, .int .u64 0, .int .u32 0] hZ (by kernel_rfl) rfl (by kernel_rfl) ?_))
  have hpk := ((Kept.refl v1.heap.size (fun _ => False) v1).alloc (.cells #[.int .i64 0, .int .i64 0, .int .i64 0, .int .i64 0, .int .i64 0, .slice none 0 0, .int .u64 0, .int .u32 0] 67) (Nat.le_refl _)).setRow v1.heap.size (plc f Asd nd cd tree q) (.inl (Nat.le_refl _))
  have hpb := hZ.setRow (plc f Asd nd cd tree q)
  change Code.wp _ _ _ _ ((v1.alloc (.cells #[.int .i64 0, .int .i64 0, .int .i64 0, .int .i64 0, .int .i64 0, .slice none 0 0, .int .u64 0, .int .u32 0] 67)).setRow v1.heap.size (plc f Asd nd cd tree q))
  generalize (v1.alloc (.cells #[.int .i64 0, .int .i64 0, .int .i64 0, .int .i64 0, .int .i64 0, .slice none 0 0, .int .u64 0, .int .u32 0] 67)).setRow v1.heap.size (plc f Asd nd cd tree q) = v2 at hpk hpb ⊢
  have hbq := hpk.below
  have hK2 := bnx hK1 hbq hK1.size
  have hcf_2 := hcf_1.below hbq hlf_1
  have hlf_2 := Nat.lt_of_lt_of_le hlf_1 hbq.size
  have hcm_2 := hcm_1.below hbq hlm_1
  have hlm_2 := Nat.lt_of_lt_of_le hlm_1 hbq.size
  have hc3_2 := cell_bel hc3_1 hbq hl3_1
  have hl3_2 := Nat.lt_of_lt_of_le hl3_1 hbq.size
  have hc4_2 := cell_bel hc4_1 hbq hl4_1
  have hl4_2 := Nat.lt_of_lt_of_le hl4_1 hbq.size
  have hc2_2 := cell_bel hc2_1 hbq hl2_1
  have hl2_2 := Nat.lt_of_lt_of_le hl2_1 hbq.size
  have hlp := hpb.lt
  clear hpk hbq hZ hK1 hcf_1 hlf_1 hcm_1 hlm_1 hc3_1 hl3_1 hc4_1 hl4_1 hc2_1 hl2_1
  go_wp2_with (first | (refine wpList_blk_yes (t := 67) (T := 67) (by rfl) rfl rfl Tryd.underlying67 rfl (by kernel_rfl) hpb ?_) | (refine wpList_blk_yes (t := 39) (T := 39) (by rfl) rfl rfl Tryd.underlying39 rfl (by kernel_rfl) hcm_2 ?_))
  (with_reducible refine (sums_any f Asc Asl Asd nsc csc nsl csl nd cd tree q v2).mono ?_)
  rintro e v3 ⟨rfl, hS3, hb3⟩
  have hK3 := bnx hK2 hb3 hK2.size
  have hcf_3 := hcf_2.below hb3 hlf_2
  have hlf_3 := Nat.lt_of_lt_of_le hlf_2 hb3.size
  have hcm_3 := hcm_2.below hb3 hlm_2
  have hlm_3 := Nat.lt_of_lt_of_le hlm_2 hb3.size
  have hc3_3 := cell_bel hc3_2 hb3 hl3_2
  have hl3_3 := Nat.lt_of_lt_of_le hl3_2 hb3.size
  have hc4_3 := cell_bel hc4_2 hb3 hl4_2
  have hl4_3 := Nat.lt_of_lt_of_le hl4_2 hb3.size
  have hc2_3 := cell_bel hc2_2 hb3 hl2_2
  have hl2_3 := Nat.lt_of_lt_of_le hl2_2 hb3.size
  have hcp_3 := hpb.below hb3 hlp
  have hlp_3 := Nat.lt_of_lt_of_le hlp hb3.size
  clear hK2 hcf_2 hlf_2 hcm_2 hlm_2 hc3_2 hl3_2 hc4_2 hl4_2 hc2_2 hl2_2 hpb hlp hb3
  obtain ⟨bb, hbb1⟩ : ∃ bb, v2.heap.size = bb := ⟨_, rfl⟩
  rw [hbb1] at hS3 ⊢
  clear hbb1
  go_wp2_with (first | (refine wpList_blk_yes (t := 23) (T := 23) (by rfl) rfl rfl Tryd.underlying23 rfl (by kernel_rfl) hcf_3 ?_))
  (with_reducible refine (digits_any f kn an hkn han bt Ab L cb v3 hf hm.may (hrb.bel hK3) hLb hLc hL hlt8 hbb).mono ?_)
  rintro e v4 ⟨Ad, cdd, rfl, hD4, hhd, hb4⟩
  have hK4 := bnx hK3 hb4 hK3.size
  have hBS_4 := bnx (Below.refl v3.heap.size v3) hb4 (Below.refl v3.heap.size v3).size
  have hcf_4 := hcf_3.below hb4 hlf_3
  have hlf_4 := Nat.lt_of_lt_of_le hlf_3 hb4.size
  have hcm_4 := hcm_3.below hb4 hlm_3
  have hlm_4 := Nat.lt_of_lt_of_le hlm_3 hb4.size
  have hc3_4 := cell_bel hc3_3 hb4 hl3_3
  have hl3_4 := Nat.lt_of_lt_of_le hl3_3 hb4.size
  have hc4_4 := cell_bel hc4_3 hb4 hl4_3
  have hl4_4 := Nat.lt_of_lt_of_le hl4_3 hb4.size
  have hc2_4 := cell_bel hc2_3 hb4 hl2_3
  have hl2_4 := Nat.lt_of_lt_of_le hl2_3 hb4.size
  have hcp_4 := hcp_3.below hb4 hlp_3
  have hlp_4 := Nat.lt_of_lt_of_le hlp_3 hb4.size
  clear hK3 hcf_3 hlf_3 hcm_3 hlm_3 hc3_3 hl3_3 hc4_3 hl4_3 hc2_3 hl2_3 hcp_3 hlp_3 hb4
  have hSb := hS3.below hBS_4
  have ham : (an : Int) % 4294967296 = an := by omega
  have hTb := hT.bel hK4
  have hr1 := h1.bel hK4
  have hr2 := hsec.bel hK4
  have hK0 := Kept.refl v4.heap.size (fun _ => False) v4
  obtain ⟨B, hB⟩ : ∃ B, v4.heap.size = B := ⟨_, rfl⟩
  rw [hB] at hK0
  have HB := Lib.hid hB
  have HS := Lib.hid hSb
  have HSZ := Lib.hid hsz
  have HDL := Lib.hid (digsL_gt bt an kn)
  have HDN := Lib.hid (digsL_len bt an kn)
  clear hS3 hSb hsz hB hlt8
  go_upto_region 7 with fail
  go_loopg [13, 35] kn (fun gk v x wr => TlJ v4 B f.n sd sec tree q bt an nd kn gk v x wr)
  case atStart => exact ⟨0, none, 0, rfl, rfl, Nat.zero_le _, rfl, Own.nil _ _ _ _, hK0⟩
  case round =>
    clear hK0
    obtain ⟨wq, rfl⟩ : ∃ wq : World, wq = wr := ⟨_, rfl⟩
    obtain ⟨k, Ao, co, rfl, rfl, hk, hgk, hO, hK⟩ := hrel
    have HGK := Lib.hid hgk
    have hwl : B ≤ wq.heap.size := by have := hK.size; have := HB.out; omega
    have hbw : Below v4.heap.size v4 wq := by rw [HB.out]; exact hK.below
    clear hgk
    by_cases hlt : k < kn
    · have hltI : (k : Int) < (kn : Int) := by omega
      obtain ⟨ad, rfl, hadB, hcd⟩ := (hD4.bel hbw).at_ (i := k) (by rw [HDN.out]; exact hlt)
      rw [HDL.out k hlt] at hcd
      have hqp := hcp_4.below hbw hlp_4
      have hlqp := hqp.lt
      have hqm := hcm_4.below hbw hlm_4
      have hlqm := hqm.lt
      have hq4 := cell_bel hc4_4 hbw hl4_4
      have hlq4 := Nat.lt_of_lt_of_le hl4_4 hbw.size
      have hsq := HS.out.below hbw
      have hil := idx_lt bt an k (by omega) (by omega)
      have hor := idx_reckon bt an k (by omega) (by omega)
      have hp2 : k * 2 ^ an ≤ 2560 := Nat.le_trans (Nat.mul_le_mul (show k ≤ 40 by omega) (Nat.pow_le_pow_right (by decide) ha6)) (by decide)
      have hsh : (k : Int) * 2 ^ an % 4294967296 = ((k * 2 ^ an : Nat) : Int) := by
        have e : (k : Int) * 2 ^ an = ((k * 2 ^ an : Nat) : Int) := by push_cast; rfl
        rw [e]; omega
      have hkm : (k : Int) % 4294967296 = k := by omega
      push_cast at hor
      have hiW : W32 ((idx bt an k : Nat) : Int) := ⟨by omega, by omega⟩
      obtain ⟨i, hi⟩ : ∃ i, idx bt an k = i := ⟨_, rfl⟩
      rw [hi] at hor hiW hil
      obtain ⟨dk, hdk⟩ : ∃ d, dgN bt (k * an) an = d := ⟨_, rfl⟩
      rw [hdk] at hor hcd
      have hsc := atL_nd HSZ.out tree q 6 0 (i : Int) sec
      rw [hn1] at hsc
      obtain ⟨T0, hT0⟩ : ∃ T, tellS f.n sd sec tree q bt an k ++ atL f.n sd tree q 6 0 (i : Int) sec = T := ⟨_, rfl⟩
      have hL0 : T0.length = nd * ((an + 1) * k) + nd := by rw [← hT0, List.length_append, tellS_len HSZ.out, hsc, hn1]
      have hnx : tellS f.n sd sec tree q bt an (k + 1) = T0 ++ pathL f.n sd sec tree q i an := by rw [tellS, hi, ← hT0, List.append_assoc]
      have hmul : nd * ((an + 1) * (k + 1)) ≤ 8960 := Nat.le_trans (Nat.mul_le_mul hn32 (Nat.mul_le_mul (show an + 1 ≤ 7 by omega) (show k + 1 ≤ 40 by omega))) (by decide)
      have hsum : nd * ((an + 1) * (k + 1)) = nd * ((an + 1) * k) + nd + nd * an := by rw [Nat.mul_succ, Nat.mul_add, Nat.mul_add nd an 1, Nat.mul_one]; omega
      obtain ⟨n0, hn0⟩ : ∃ n, nd * ((an + 1) * k) + nd = n := ⟨_, rfl⟩
      rw [hn0] at hL0 hsum
      have HN := Lib.hid (And.intro hn0 (And.intro hmul hsum))
      have HX := Lib.hid (And.intro hT0 (And.intro hL0 hnx))
      clear hdk hi hn0 hmul hsum hT0 hL0 hnx hp2
      go_upto_region 10 with fail
      clear hor hsh hkm hcd
      go_wp2_with (first | (refine wpList_blk_yes (t := 67) (T := 67) (by rfl) rfl rfl Tryd.underlying67 rfl (by kernel_rfl) hqp ?_) | (refine wpList_blk_yes (t := 39) (T := 39) (by rfl) rfl rfl Tryd.underlying39 rfl (by kernel_rfl) hqm ?_))
      (with_reducible refine (secret_any f sec sd Asc Asl Asd nsc csc nsl csl nd cd tree q i nd wq ht hq hiW (hr1.bel hbw) hn1 hc1 hb1 (hr2.bel hbw) hnsc hcsc hbsc (by omega) (hTb.bel hbw) hsc).mono ?_)
      rintro e w1 ⟨A1, c1, rfl, hR1, hh1, hb1'⟩
      have hK1 := kbl hK hwl hb1'
      have hOo := hO.below hb1' (Nat.le_refl _)
      have hz1' := hb1'.size
      clear hb1' hO hK hbw hsq hq4 hqp hqm hlqp hlqm hlq4
      go_upto_region 11 with (at_builtin; refine wpList_app rfl (.tmp 47) (.tmp 51) 24 5 .u8 1 rfl Tryd.underlying24 inf_u8 hOo hR1 rfl rfl hsc _ HX.out.1 n0 HX.out.2.1 (by have := HN.out; omega) (by have := HN.out; omega) (by omega) ?_; intro A2 c2 w2 hO2 hg2 hf2)
      have hK2 := hK1.grew hOo hg2 (Nat.le_refl _) (by omega)
      have hz2 := hg2.size
      clear hOo hR1 hg2 hf2 hK1
      have hbw2 : Below v4.heap.size v4 w2 := by rw [HB.out]; exact hK2.below
      have hq4 := cell_bel hc4_4 hbw2 hl4_4
      have hlq4 := Nat.lt_of_lt_of_le hl4_4 hbw2.size
      have hw2l : B ≤ w2.heap.size := by omega
      have HZ := Lib.hid (And.intro hz1' (And.intro hz2 hwl))
      clear hz1' hz2 hbw2 hwl
      go_upto_region 12 with fail
      go_loopg [13, 56] an (fun gk v x wr => TpJ v4 B f.n sd sec tree q T0 n0 i an nd gk v x wr)
      case atStart => exact ⟨0, A2, c2, by rw [Nat.mul_zero, Nat.add_zero], rfl, Nat.zero_le _, rfl, by rw [Nat.mul_zero, Nat.add_zero, pathL, List.append_nil]; exact hO2, hK2⟩
      case round =>
        clear hO2 hK2 hq4 hlq4 hw2l
        obtain ⟨wp, rfl⟩ : ∃ wp : World, wp = wr := ⟨_, rfl⟩
        obtain ⟨g, Ag, cg, rfl, rfl, hg, hgk, hO3, hK3⟩ := hrel
        have HGG := Lib.hid hgk
        have hwl3 : B ≤ wp.heap.size := by have := hK3.size; have := HB.out; omega
        have hbw3 : Below v4.heap.size v4 wp := by rw [HB.out]; exact hK3.below
        clear hgk
        by_cases hlg : g < an
        · have hlgI : (g : Int) < (an : Int) := by omega
          have hsq3 := HS.out.below hbw3
          have hil2 : i / 2 ^ g < 655360 := Nat.lt_of_le_of_lt (Nat.div_le_self _ _) hil
          have hxo := xor_one (i / 2 ^ g) (by omega)
          push_cast at hxo
          have hnl := nei_lt _ hil2
          obtain ⟨m, hm2⟩ : ∃ m, nei (i / 2 ^ g) = m := ⟨_, rfl⟩
          have hpx : T0 ++ pathL f.n sd sec tree q i (g + 1) = (T0 ++ pathL f.n sd sec tree q i g) ++ sumT f.n sd sec tree q g (m : Int) := by rw [pathL, hm2, List.append_assoc]
          rw [hm2] at hxo hnl
          have hmW : W32 (m : Int) := ⟨by omega, by omega⟩
          have hsl := sumT_nd HSZ.out sec tree q g (m : Int)
          rw [hn1] at hsl
          have hLp : (T0 ++ pathL f.n sd sec tree q i (g + 1)).length = n0 + nd * (g + 1) := by rw [List.length_append, HX.out.2.1, pathL_len HSZ.out, hn1]
          have hmg : n0 + nd * (g + 1) ≤ 8960 := by
            have h1 : nd * (g + 1) ≤ nd * an := Nat.mul_le_mul_left _ hlg
            have h2 := HN.out
            omega
          have HP := Lib.hid (And.intro hpx (And.intro hLp hmg))
          clear hm2 hpx hLp hmg hil2
          go_wp2_with fail
          (with_reducible refine (sums_fn f sec sd Asc Asl Asd nsc csc nsl csl nd cd tree q bb (bb + 1) (bb + 2) ht hq hn1 hc1 hb1 hnsc hcsc hbsc (by omega) g (by omega) m nd wp hmW (hr1.bel hbw3) (hr2.bel hbw3) (hTb.bel hbw3) hsq3.p hsq3.m hsq3.f hsq3.lt hsl).mono ?_)
          rintro e w3 ⟨A4, c4, rfl, hR4, hh4, hb4⟩
          have hK4 := kbl hK3 hwl3 hb4
          have hO4 := hO3.below hb4 (Nat.le_refl _)
          have hz4 := hb4.size
          clear hb4 hO3 hK3 hbw3 hsq3 hxo
          go_wp2_with (at_builtin; refine wpList_app rfl (.tmp 59) (.tmp 66) 24 5 .u8 1 rfl Tryd.underlying24 inf_u8 hO4 hR4 rfl rfl hsl _ HP.out.1.symm (n0 + nd * (g + 1)) HP.out.2.1 (by have := HP.out.2.2; omega) (by have := HP.out.2.2; omega) (by omega) ?_; intro A5 c5 w5 hO5 hg5 hf5)
          have hK5 := hK4.grew hO4 hg5 (Nat.le_refl _) (by omega)
          go_roundg (an - (g + 1))
          case measure => have := HGG.out; omega
          case rel => exact ⟨g + 1, A5, c5, rfl, by go_num, by omega, rfl, hO5, hK5⟩
        · have hlgI : ¬ (g : Int) < (an : Int) := by omega
          obtain rfl : g = an := by omega
          clear hbw3
          go_wp2_with fail
          go_roundg (kn - (k + 1))
          case measure => have := HGK.out; omega
          case rel => exact ⟨k + 1, Ag, cg, by rw [HN.out.2.2], by go_num, by omega, rfl, by rw [HX.out.2.2, HN.out.2.2]; exact hO3, hK3⟩
    · have hltI : ¬ (k : Int) < (kn : Int) := by omega
      obtain rfl : k = kn := by omega
      have hKq := bnx hK4 hbw hK4.size
      have hRt := hO.rd
      have hcT := hO.len.2
      rw [tellS_len HSZ.out, hn1] at hcT
      clear hO hK hbw
      go_wp2_with fail
      go_ret
      exact ⟨_, _, rfl, hRt, hcT, hKq⟩
end Go.Proofs.YtfaonieaagepjaaDoor
