/- Layer 17: what told bytes stand for, walked. Conditions: small lengths, words of their kinds, the tables. -/
import Derived.Test.YtfaonieaagepjaaDoorF7O
namespace Go.Proofs.YtfaonieaagepjaaDoor
open Go.RowKit
set_option linter.unusedVariables false
set_option linter.unusedSimpArgs false
theorem wrap_mul (k e lo : Nat) (h : k * e = lo) (hl : lo ≤ 1000000) : IntKind.i64.wrap ((k : Int) * (e : Int)) = (lo : Int) := by
  have e1 : (k : Int) * (e : Int) = (lo : Int) := by rw [← h]; push_cast; rfl
  rw [e1]; exact IntWalk.i64_in _ (by omega)
theorem wrap_mul1 (k e up : Nat) (h : (k + 1) * e = up) (hl : up ≤ 1000000) : IntKind.i64.wrap (((k : Int) + 1) * (e : Int)) = (up : Int) := by
  have e1 : ((k : Int) + 1) * (e : Int) = (up : Int) := by rw [← h]; push_cast; rfl
  rw [e1]; exact IntWalk.i64_in _ (by omega)
theorem wrap_add1 (k : Nat) (h : k ≤ 1000000) : IntKind.i64.wrap ((k : Int) + 1) = (k : Int) + 1 := IntWalk.i64_in _ (by omega)
theorem shl_small (k a kp : Nat) (h : k * 2 ^ a = kp) (hl : kp ≤ 1000000) : IntKind.u32.wrap ((k : Int) * 2 ^ a) = (kp : Int) := by
  have e0 : (k : Int) * 2 ^ a = (kp : Int) := by rw [← h]; push_cast; rfl
  rw [e0]; exact wrap_small _ (by omega) (by omega)
theorem atP (l : List Int) (n k : Nat) : row l n k = (l.take ((k + 1) * n)).drop (k * n) := rfl
set_option maxRecDepth 100000 in
theorem stands_may (f : Fw) (hf : f.ok) (Asd Ab At : Option Addr) (nd cd L cb mt ct : Nat) (tree q : Int) (w : World) (hno : ¬ f.may) :
    Calls Tryd.prog 14 #[.agg f.cs, .slice Asd nd cd, .int .u64 tree, .int .u32 q, .slice Ab L cb, .slice At mt ct] w (NilP w) := by
  have hF := Blk.new w 23 f.cs
  have hK := bal (Below.refl w.heap.size w) (Nat.le_refl _) (.cells f.cs 23)
  have hmx : (200000000 : Nat) ≤ maxLen := by decide
  go_enter Tryd.func14, Tryd.ntmps14
  go_upto_region 1 with fail
  change Code.wp _ _ _ _ (w.alloc (.cells f.cs 23))
  generalize w.alloc (.cells f.cs 23) = w0 at hF hK ⊢
  have h0 := hF.cell 0 (.int .i64 f.n) rfl
  have h3 := hF.cell 3 (.int .i64 f.k) rfl
  have h4 := hF.cell 4 (.int .i64 f.a) rfl
  have hlf := hF.lt
  have hlf0 := hlf
  have hlf3 := hlf
  have hlf4 := hlf
  go_wp2_with (first | (refine wpList_blk_yes (t := 23) (T := 23) (by rfl) rfl rfl Tryd.underlying23 rfl (by kernel_rfl) hF ?_))
  (with_reducible refine (digits_may f Ab L cb w0 hf hno).mono ?_)
  rintro e v1 ⟨rfl, hb1⟩
  have hK1 := bnx hK hb1 hK.size
  have hcf_1 := hF.below hb1 hlf
  have hlf_1 := Nat.lt_of_lt_of_le hlf hb1.size
  have hc0_1 := cell_bel h0 hb1 hlf0
  have hl0_1 := Nat.lt_of_lt_of_le hlf0 hb1.size
  have hc3_1 := cell_bel h3 hb1 hlf3
  have hl3_1 := Nat.lt_of_lt_of_le hlf3 hb1.size
  have hc4_1 := cell_bel h4 hb1 hlf4
  have hl4_1 := Nat.lt_of_lt_of_le hlf4 hb1.size
  clear hK hF hlf h0 hlf0 h3 hlf3 h4 hlf4 hb1
  go_wp2_with fail
  go_ret
  exact ⟨rfl, hK1⟩
set_option maxRecDepth 100000 in
theorem stands_short (f : Fw) (kn an fn : Nat) (hkn : f.k = kn) (han : f.a = an) (hfn : f.n = fn) (hf : f.ok) (Asd Ab At : Option Addr) (nd cd L cb mt ct : Nat) (tree q : Int) (w : World) (hm : f.may) (hL : L ≤ 100000) (hlt8 : 8 * L < kn * an) :
    Calls Tryd.prog 14 #[.agg f.cs, .slice Asd nd cd, .int .u64 tree, .int .u32 q, .slice Ab L cb, .slice At mt ct] w (NilP w) := by
  have hF := Blk.new w 23 f.cs
  have hK := bal (Below.refl w.heap.size w) (Nat.le_refl _) (.cells f.cs 23)
  have hmx : (200000000 : Nat) ≤ maxLen := by decide
  go_enter Tryd.func14, Tryd.ntmps14
  go_upto_region 1 with fail
  change Code.wp _ _ _ _ (w.alloc (.cells f.cs 23))
  generalize w.alloc (.cells f.cs 23) = w0 at hF hK ⊢
  have h0 := hF.cell 0 (.int .i64 f.n) rfl
  have h3 := hF.cell 3 (.int .i64 f.k) rfl
  have h4 := hF.cell 4 (.int .i64 f.a) rfl
  have hlf := hF.lt
  have hlf0 := hlf
  have hlf3 := hlf
  have hlf4 := hlf
  rw [hkn] at h3
  rw [han] at h4
  rw [hfn] at h0
  have hk40 : kn ≤ 40 := by have := hm.k; omega
  have hk1 : 1 ≤ kn := by have := hm.k; omega
  have ha14 : an ≤ 14 := by have := hm.a; omega
  have hn32 : fn ≤ 32 := by have := hm.n; omega
  obtain ⟨ea, he⟩ : ∃ ea, (an + 1) * fn = ea := ⟨_, rfl⟩
  have he480 : ea ≤ 480 := by rw [← he]; exact Nat.le_trans (Nat.mul_le_mul (show an + 1 ≤ 15 by omega) hn32) (by decide)
  have HE := Lib.hid he
  have hw : wrap64 (((an : Int) + 1) * (fn : Int)) = (ea : Int) := mulw an 1 fn ea he (Nat.le_trans he480 (by decide))
  clear he
  go_upto_region 2 with fail
  rw [hw]
  clear hw
  go_wp2_with (first | (refine wpList_blk_yes (t := 23) (T := 23) (by rfl) rfl rfl Tryd.underlying23 rfl (by kernel_rfl) hF ?_))
  (with_reducible refine (digits_short f kn an hkn han Ab L cb w0 hf hm hL hlt8).mono ?_)
  rintro e v1 ⟨rfl, hb1⟩
  have hK1 := bnx hK hb1 hK.size
  have hcf_1 := hF.below hb1 hlf
  have hlf_1 := Nat.lt_of_lt_of_le hlf hb1.size
  have hc0_1 := cell_bel h0 hb1 hlf0
  have hl0_1 := Nat.lt_of_lt_of_le hlf0 hb1.size
  have hc3_1 := cell_bel h3 hb1 hlf3
  have hl3_1 := Nat.lt_of_lt_of_le hlf3 hb1.size
  have hc4_1 := cell_bel h4 hb1 hlf4
  have hl4_1 := Nat.lt_of_lt_of_le hlf4 hb1.size
  clear hK hF hlf h0 hlf0 h3 hlf3 h4 hlf4 hb1
  clear hlt8
  go_wp2_with fail
  go_ret
  exact ⟨rfl, hK1⟩
set_option maxRecDepth 100000 in
theorem stands_seed (f : Fw) (kn an fn : Nat) (hkn : f.k = kn) (han : f.a = an) (hfn : f.n = fn) (hf : f.ok) (Asd Ab At : Option Addr) (nd cd L cb mt ct : Nat) (tree q : Int) (w : World) (hm : f.may) (bt : List Int) (hrb : Rd w w.heap.size .u8 Ab bt) (hLb : bt.length = L) (hLc : L ≤ cb) (hL : L ≤ 100000) (hbb : Bys bt) (hlt8 : ¬ 8 * L < kn * an) (hne : nd ≠ fn) :
    Calls Tryd.prog 14 #[.agg f.cs, .slice Asd nd cd, .int .u64 tree, .int .u32 q, .slice Ab L cb, .slice At mt ct] w (NilP w) := by
  have hF := Blk.new w 23 f.cs
  have hK := bal (Below.refl w.heap.size w) (Nat.le_refl _) (.cells f.cs 23)
  have hmx : (200000000 : Nat) ≤ maxLen := by decide
  go_enter Tryd.func14, Tryd.ntmps14
  go_upto_region 1 with fail
  change Code.wp _ _ _ _ (w.alloc (.cells f.cs 23))
  generalize w.alloc (.cells f.cs 23) = w0 at hF hK ⊢
  have h0 := hF.cell 0 (.int .i64 f.n) rfl
  have h3 := hF.cell 3 (.int .i64 f.k) rfl
  have h4 := hF.cell 4 (.int .i64 f.a) rfl
  have hlf := hF.lt
  have hlf0 := hlf
  have hlf3 := hlf
  have hlf4 := hlf
  rw [hkn] at h3
  rw [han] at h4
  rw [hfn] at h0
  have hk40 : kn ≤ 40 := by have := hm.k; omega
  have hk1 : 1 ≤ kn := by have := hm.k; omega
  have ha14 : an ≤ 14 := by have := hm.a; omega
  have hn32 : fn ≤ 32 := by have := hm.n; omega
  obtain ⟨ea, he⟩ : ∃ ea, (an + 1) * fn = ea := ⟨_, rfl⟩
  have he480 : ea ≤ 480 := by rw [← he]; exact Nat.le_trans (Nat.mul_le_mul (show an + 1 ≤ 15 by omega) hn32) (by decide)
  have HE := Lib.hid he
  have hw : wrap64 (((an : Int) + 1) * (fn : Int)) = (ea : Int) := mulw an 1 fn ea he (Nat.le_trans he480 (by decide))
  clear he
  go_upto_region 2 with fail
  rw [hw]
  clear hw
  go_wp2_with (first | (refine wpList_blk_yes (t := 23) (T := 23) (by rfl) rfl rfl Tryd.underlying23 rfl (by kernel_rfl) hF ?_))
  (with_reducible refine (digits_any f kn an hkn han bt Ab L cb w0 hf hm (hrb.bel hK) hLb hLc hL hlt8 hbb).mono ?_)
  rintro e v1 ⟨Ad, cdd, rfl, hD1, hhd, hb1⟩
  have hK1 := bnx hK hb1 hK.size
  have hcf_1 := hF.below hb1 hlf
  have hlf_1 := Nat.lt_of_lt_of_le hlf hb1.size
  have hc0_1 := cell_bel h0 hb1 hlf0
  have hl0_1 := Nat.lt_of_lt_of_le hlf0 hb1.size
  have hc3_1 := cell_bel h3 hb1 hlf3
  have hl3_1 := Nat.lt_of_lt_of_le hlf3 hb1.size
  have hc4_1 := cell_bel h4 hb1 hlf4
  have hl4_1 := Nat.lt_of_lt_of_le hlf4 hb1.size
  clear hK hF hlf h0 hlf0 h3 hlf3 h4 hlf4 hb1
  have hk0 : ((kn : Int) == 0) = false := beq_eq_false_iff_ne.2 (by omega)
  have hnn : ((nd : Int) != (fn : Int)) = true := bne_iff_ne.2 (by omega)
  clear hlt8 hne
  go_wp2_with fail
  go_ret
  exact ⟨rfl, hK1⟩
set_option maxRecDepth 100000 in
theorem stands_len (f : Fw) (kn an fn : Nat) (hkn : f.k = kn) (han : f.a = an) (hfn : f.n = fn) (hf : f.ok) (Asd Ab At : Option Addr) (nd cd L cb mt ct : Nat) (tree q : Int) (w : World) (hm : f.may) (bt : List Int) (hrb : Rd w w.heap.size .u8 Ab bt) (hLb : bt.length = L) (hLc : L ≤ cb) (hL : L ≤ 100000) (hbb : Bys bt) (hlt8 : ¬ 8 * L < kn * an) (hnd : nd = fn) (hne : mt ≠ kn * ((an + 1) * fn)) :
    Calls Tryd.prog 14 #[.agg f.cs, .slice Asd nd cd, .int .u64 tree, .int .u32 q, .slice Ab L cb, .slice At mt ct] w (NilP w) := by
  subst hnd
  have hF := Blk.new w 23 f.cs
  have hK := bal (Below.refl w.heap.size w) (Nat.le_refl _) (.cells f.cs 23)
  have hmx : (200000000 : Nat) ≤ maxLen := by decide
  go_enter Tryd.func14, Tryd.ntmps14
  go_upto_region 1 with fail
  change Code.wp _ _ _ _ (w.alloc (.cells f.cs 23))
  generalize w.alloc (.cells f.cs 23) = w0 at hF hK ⊢
  have h0 := hF.cell 0 (.int .i64 f.n) rfl
  have h3 := hF.cell 3 (.int .i64 f.k) rfl
  have h4 := hF.cell 4 (.int .i64 f.a) rfl
  have hlf := hF.lt
  have hlf0 := hlf
  have hlf3 := hlf
  have hlf4 := hlf
  rw [hkn] at h3
  rw [han] at h4
  rw [hfn] at h0
  have hk40 : kn ≤ 40 := by have := hm.k; omega
  have hk1 : 1 ≤ kn := by have := hm.k; omega
  have ha14 : an ≤ 14 := by have := hm.a; omega
  have hn32 : nd ≤ 32 := by have := hm.n; omega
  obtain ⟨ea, he⟩ : ∃ ea, (an + 1) * nd = ea := ⟨_, rfl⟩
  have he480 : ea ≤ 480 := by rw [← he]; exact Nat.le_trans (Nat.mul_le_mul (show an + 1 ≤ 15 by omega) hn32) (by decide)
  have HE := Lib.hid he
  have hw : wrap64 (((an : Int) + 1) * (nd : Int)) = (ea : Int) := mulw an 1 nd ea he (Nat.le_trans he480 (by decide))
  clear he
  go_upto_region 2 with fail
  rw [hw]
  clear hw
  go_wp2_with (first | (refine wpList_blk_yes (t := 23) (T := 23) (by rfl) rfl rfl Tryd.underlying23 rfl (by kernel_rfl) hF ?_))
  (with_reducible refine (digits_any f kn an hkn han bt Ab L cb w0 hf hm (hrb.bel hK) hLb hLc hL hlt8 hbb).mono ?_)
  rintro e v1 ⟨Ad, cdd, rfl, hD1, hhd, hb1⟩
  have hK1 := bnx hK hb1 hK.size
  have hcf_1 := hF.below hb1 hlf
  have hlf_1 := Nat.lt_of_lt_of_le hlf hb1.size
  have hc0_1 := cell_bel h0 hb1 hlf0
  have hl0_1 := Nat.lt_of_lt_of_le hlf0 hb1.size
  have hc3_1 := cell_bel h3 hb1 hlf3
  have hl3_1 := Nat.lt_of_lt_of_le hlf3 hb1.size
  have hc4_1 := cell_bel h4 hb1 hlf4
  have hl4_1 := Nat.lt_of_lt_of_le hlf4 hb1.size
  clear hK hF hlf h0 hlf0 h3 hlf3 h4 hlf4 hb1
  rw [HE.out] at hne
  obtain ⟨tt, htt⟩ : ∃ t, kn * ea = t := ⟨_, rfl⟩
  rw [htt] at hne
  have ht2 : tt ≤ 19200 := by rw [← htt]; exact Nat.le_trans (Nat.mul_le_mul hk40 he480) (by decide)
  have hk0 : ((kn : Int) == 0) = false := beq_eq_false_iff_ne.2 (by omega)
  have hnn : ((mt : Int) != wrap64 ((kn : Int) * (ea : Int))) = true := by rw [mulk kn ea tt htt (Nat.le_trans ht2 (by decide))]; exact bne_iff_ne.2 (by omega)
  clear hlt8 hne htt
  go_wp2_with fail
  go_ret
  exact ⟨rfl, hK1⟩
def StJ (w0 : World) (B : Nat) (N : Int) (sd : List Int) (tree q : Int) (told b : List Int) (n a kn gk : Nat) (v x : Value) (w : World) : Prop :=
  ∃ (k : Nat) (A : Option Addr) (c : Nat), v = .slice A (n * k) c ∧ x = .int .i64 k ∧ k ≤ kn ∧ gk = kn - k ∧ Own w B 5 .u8 (.slice A (n * k) c) (standsS N sd tree q told b n a k) ∧ Kept B (fun _ => False) w0 w
set_option maxRecDepth 100000 in
set_option maxHeartbeats 2000000 in
theorem stands_any (f : Fw) (kn an : Nat) (hkn : f.k = kn) (han : f.a = an) (hf : f.ok) (Asd Ab At : Option Addr) (nd cd L cb mt ct : Nat) (tree q : Int) (w : World) (sd told : List Int) (ht : U64 tree) (hq : W32 q) (hm : f.may) (bt : List Int) (hrb : Rd w w.heap.size .u8 Ab bt) (hLb : bt.length = L) (hLc : L ≤ cb) (hL : L ≤ 100000) (hbb : Bys bt) (hlt8 : ¬ 8 * L < kn * an) (hsz : Szd f.n sd) (h1 : Rd w w.heap.size .u8 Asd sd) (hn1 : sd.length = nd) (hc1 : nd ≤ cd) (hb1 : Bys sd)
    (htd : Rd w w.heap.size .u8 At told) (hmt : told.length = mt) (hmc : mt ≤ ct) (hbt : Bys told) (hme : mt = kn * ((an + 1) * nd)) (hT : KTab w) :
    Calls Tryd.prog 14 #[.agg f.cs, .slice Asd nd cd, .int .u64 tree, .int .u32 q, .slice Ab L cb, .slice At mt ct] w (OutR w (standsL f.n sd tree q told bt nd an kn) nd) := by
  have hfn : f.n = nd := by rw [← hn1]; exact hsz.e
  have HM0 := Lib.hid hme
  clear hme
  have hF := Blk.new w 23 f.cs
  have hK := bal (Below.refl w.heap.size w) (Nat.le_refl _) (.cells f.cs 23)
  have hmx : (200000000 : Nat) ≤ maxLen := by decide
  go_enter Tryd.func14, Tryd.ntmps14
  go_upto_region 1 with fail
  change Code.wp _ _ _ _ (w.alloc (.cells f.cs 23))
  generalize w.alloc (.cells f.cs 23) = w0 at hF hK ⊢
  have h0 := hF.cell 0 (.int .i64 f.n) rfl
  have h3 := hF.cell 3 (.int .i64 f.k) rfl
  have h4 := hF.cell 4 (.int .i64 f.a) rfl
  have hlf := hF.lt
  have hlf0 := hlf
  have hlf3 := hlf
  have hlf4 := hlf
  rw [hkn] at h3
  rw [han] at h4
  rw [hfn] at h0
  have hk40 : kn ≤ 40 := by have := hm.k; omega
  have hk1 : 1 ≤ kn := by have := hm.k; omega
  have ha14 : an ≤ 14 := by have := hm.a; omega
  have hn32 : nd ≤ 32 := by have := hm.n; omega
  obtain ⟨ea, he⟩ : ∃ ea, (an + 1) * nd = ea := ⟨_, rfl⟩
  have he480 : ea ≤ 480 := by rw [← he]; exact Nat.le_trans (Nat.mul_le_mul (show an + 1 ≤ 15 by omega) hn32) (by decide)
  have HE := Lib.hid he
  have hw : wrap64 (((an : Int) + 1) * (nd : Int)) = (ea : Int) := mulw an 1 nd ea he (Nat.le_trans he480 (by decide))
  clear he
  go_upto_region 2 with fail
  rw [hw]
  clear hw
  go_wp2_with (first | (refine wpList_blk_yes (t := 23) (T := 23) (by rfl) rfl rfl Tryd.underlying23 rfl (by kernel_rfl) hF ?_))
  (with_reducible refine (digits_any f kn an hkn han bt Ab L cb w0 hf hm (hrb.bel hK) hLb hLc hL hlt8 hbb).mono ?_)
  rintro e v1 ⟨Ad, cdd, rfl, hD1, hhd, hb1⟩
  have hK1 := bnx hK hb1 hK.size
  have hcf_1 := hF.below hb1 hlf
  have hlf_1 := Nat.lt_of_lt_of_le hlf hb1.size
  have hc0_1 := cell_bel h0 hb1 hlf0
  have hl0_1 := Nat.lt_of_lt_of_le hlf0 hb1.size
  have hc3_1 := cell_bel h3 hb1 hlf3
  have hl3_1 := Nat.lt_of_lt_of_le hlf3 hb1.size
  have hc4_1 := cell_bel h4 hb1 hlf4
  have hl4_1 := Nat.lt_of_lt_of_le hlf4 hb1.size
  clear hK hF hlf h0 hlf0 h3 hlf3 h4 hlf4 hb1
  have hme := HM0.out
  rw [HE.out] at hme
  have ht2 : kn * ea ≤ 19200 := Nat.le_trans (Nat.mul_le_mul hk40 he480) (by decide)
  rw [← hme] at ht2
  have hk0 : ((kn : Int) == 0) = false := beq_eq_false_iff_ne.2 (by omega)
  have hnn : ((mt : Int) != wrap64 ((kn : Int) * (ea : Int))) = false := by rw [mulk kn ea mt hme.symm (Nat.le_trans ht2 (by decide))]; simp
  have HME := Lib.hid hme
  clear hlt8 hme
  have hZ := Blk.new v1 67 #[.int .i64 0, .int .i64 0, .int .i64 0, .int .i64 0, .int .i64 0, .slice none 0 0, .int .u64 0, .int .u32 0]
  go_upto_region 6 with (first | (refine wpList_blk_yes (t := 23) (T := 23) (by rfl) rfl rfl Tryd.underlying23 rfl (by kernel_rfl) hcf_1 ?_) | (refine wpList_val_yes (o := ⟨some 50, _, _, _, _, _⟩) (.agg (plc f Asd nd cd tree q)) (by rfl) (by kernel_rfl) ?_) | (refine wpList_store_row (o := ⟨none, _, _, _, _, _⟩) rfl 67 _ _ rfl _ (plc f Asd nd cd tree q) rfl (by kernel_rfl) _ #[.int .i64 0, .int .i64 0, .int .i64 0, .int .i64 0, .int .i64 0, .slice none 0 0, .int .u64 0, .int .u32 0] hZ (by kernel_rfl) rfl (by kernel_rfl) ?_))
  clear hnn hk0
  have hpk := ((Kept.refl v1.heap.size (fun _ => False) v1).alloc (.cells #[.int .i64 0, .int .i64 0, .int .i64 0, .int .i64 0, .int .i64 0, .slice none 0 0, .int .u64 0, .int .u32 0] 67) (Nat.le_refl _)).setRow v1.heap.size (plc f Asd nd cd tree q) (.inl (Nat.le_refl _))
  have hpb := hZ.setRow (plc f Asd nd cd tree q)
  change Code.wp _ _ _ _ ((v1.alloc (.cells #[.int .i64 0, .int .i64 0, .int .i64 0, .int .i64 0, .int .i64 0, .slice none 0 0, .int .u64 0, .int .u32 0] 67)).setRow v1.heap.size (plc f Asd nd cd tree q))
  obtain ⟨bp, hbp⟩ : ∃ b, v1.heap.size = b := ⟨_, rfl⟩
  have hbq := hpk.below
  generalize (v1.alloc (.cells #[.int .i64 0, .int .i64 0, .int .i64 0, .int .i64 0, .int .i64 0, .slice none 0 0, .int .u64 0, .int .u32 0] 67)).setRow v1.heap.size (plc f Asd nd cd tree q) = v2 at hpk hpb hbq ⊢
  have hK2 := bnx hK1 hbq hK1.size
  have hBD_2 := bnx (Below.refl v1.heap.size v1) hbq (Below.refl v1.heap.size v1).size
  have hcf_2 := hcf_1.below hbq hlf_1
  have hlf_2 := Nat.lt_of_lt_of_le hlf_1 hbq.size
  have hc0_2 := cell_bel hc0_1 hbq hl0_1
  have hl0_2 := Nat.lt_of_lt_of_le hl0_1 hbq.size
  have hc3_2 := cell_bel hc3_1 hbq hl3_1
  have hl3_2 := Nat.lt_of_lt_of_le hl3_1 hbq.size
  have hc4_2 := cell_bel hc4_1 hbq hl4_1
  have hl4_2 := Nat.lt_of_lt_of_le hl4_1 hbq.size
  rw [hbp] at hpb ⊢
  have hlp := hpb.lt
  have hDw := (hD1.bel hBD_2)
  clear hpk hbq hZ hbp hK1 hcf_1 hlf_1 hc0_1 hl0_1 hc3_1 hl3_1 hc4_1 hl4_1
  have hr1 := h1.bel hK2
  have hrt := htd.bel hK2
  have hTb := hT.bel hK2
  have hK0 := Kept.refl v2.heap.size (fun _ => False) v2
  obtain ⟨B, hB⟩ : ∃ B, v2.heap.size = B := ⟨_, rfl⟩
  rw [hB] at hK0
  have HB := Lib.hid hB
  have HSZ := Lib.hid hsz
  have HDL := Lib.hid (digsL_gt bt an kn)
  have HDN := Lib.hid (digsL_len bt an kn)
  clear hsz hB
  go_upto_region 8 with fail
  go_loopg [16, 53] kn (fun gk v x wr => StJ v2 B f.n sd tree q told bt nd an kn gk v x wr)
  case atStart => exact ⟨0, none, 0, rfl, rfl, Nat.zero_le _, rfl, Own.nil _ _ _ _, hK0⟩
  case round =>
    clear hK0
    obtain ⟨wq, rfl⟩ : ∃ wq : World, wq = wr := ⟨_, rfl⟩
    obtain ⟨k, Ao, co, rfl, rfl, hk, hgk, hO, hK'⟩ := hrel
    have HGK := Lib.hid hgk
    have hwl : B ≤ wq.heap.size := by have := hK'.size; have := HB.out; omega
    have hbw : Below v2.heap.size v2 wq := by rw [HB.out]; exact hK'.below
    clear hgk
    by_cases hlt : k < kn
    · have hltI : (k : Int) < (kn : Int) := by omega
      obtain ⟨ad, rfl, hadB, hcd⟩ := hDw.at_ (i := k) (by rw [HDN.out]; exact hlt)
      rw [HDL.out k hlt] at hcd
      have hpq := hpb.below hbw hlp
      have hlq := hpq.lt
      have hq4 := cell_bel hc4_2 hbw hl4_2
      have hlq4 := Nat.lt_of_lt_of_le hl4_2 hbw.size
      have hcq : wq.cell? (ad.add k) = some (.int .u32 (dgN bt (k * an) an)) := (World.cell?_of_block (hbw.block (ad.add k).block (by rw [block_plus]; exact hadB))).trans hcd
      have hil := idx_lt bt an k (by omega) (by omega)
      have hor := idx_reckon bt an k (by omega) (by omega)
      have hp2 : k * 2 ^ an ≤ 655360 := Nat.le_trans (Nat.mul_le_mul (show k ≤ 40 by omega) (Nat.pow_le_pow_right (by decide) ha14)) (by decide)
      obtain ⟨kp, hkp⟩ : ∃ x, k * 2 ^ an = x := ⟨_, rfl⟩
      rw [hkp] at hp2 hor
      have HSH := Lib.hid (shl_small k an kp hkp (by omega))
      have HKM := Lib.hid (wrap_small (k : Int) (by omega) (by omega))
      obtain ⟨i, hi⟩ : ∃ i, idx bt an k = i := ⟨_, rfl⟩
      rw [hi] at hor hil
      obtain ⟨dk, hdk⟩ : ∃ d, dgN bt (k * an) an = d := ⟨_, rfl⟩
      rw [hdk] at hor hcd hcq
      obtain ⟨lo, hlo⟩ : ∃ x, k * ea = x := ⟨_, rfl⟩
      obtain ⟨up, hup⟩ : ∃ x, (k + 1) * ea = x := ⟨_, rfl⟩
      have hupm : up ≤ mt := by rw [← hup, HME.out]; exact Nat.mul_le_mul_right _ hlt
      have hlu : up = lo + ea := by rw [← hup, ← hlo, Nat.add_mul, Nat.one_mul]
      have hrw : (told.take up).drop lo = row told ((an + 1) * nd) k := by rw [atP, HE.out, hlo, hup]
      have hup2 : (k + 1) * ((an + 1) * nd) = up := by rw [HE.out, hup]
      have hu1 : up ≤ 1000000 := Nat.le_trans hupm (Nat.le_trans ht2 (by decide))
      have HW1 := Lib.hid (wrap_mul k ea lo hlo (Nat.le_trans (hlu ▸ Nat.le_add_right _ _) hu1))
      have HW2 := Lib.hid (wrap_mul1 k ea up hup hu1)
      have HW3 := Lib.hid (wrap_add1 k (Nat.le_trans (Nat.le_of_lt hlt) (Nat.le_trans hk40 (by decide))))
      have HRW := Lib.hid (And.intro hrw hup2)
      clear hlo hup hrw hup2
      have HOR := Lib.hid hor
      clear hor
      have hsl := cut_any At mt ct lo up ea (by omega) (Nat.le_trans hupm hmc) (by omega)
      obtain ⟨Ax, hAx⟩ : ∃ x, (if ct = lo then At else At.map (·.add lo)) = x := ⟨_, rfl⟩
      have hcut := (hrt.bel hbw).cut lo up ct (by rw [hmt]; exact hupm) (Nat.le_trans hupm hmc)
      rw [hAx] at hsl hcut
      rw [HRW.out.1] at hcut
      have hrl : (row told ((an + 1) * nd) k).length = ea := by rw [row_len _ _ _ (by rw [HRW.out.2, hmt]; exact hupm), HE.out]
      have hcc : ea ≤ ct - lo := by omega
      have hnx : standsS f.n sd tree q told bt nd an (k + 1) = standsS f.n sd tree q told bt nd an k ++ climbL f.n sd tree q (row told ((an + 1) * nd) k) nd i an := by rw [standsS, hi]
      have hcl := climbL_len HSZ.out tree q (row told ((an + 1) * nd) k) nd i an
      rw [hn1] at hcl
      have hLn : (standsS f.n sd tree q told bt nd an (k + 1)).length = nd * (k + 1) := by rw [standsS_len HSZ.out, hn1]
      have hmul : nd * (k + 1) ≤ 1280 := Nat.le_trans (Nat.mul_le_mul hn32 (show k + 1 ≤ 40 by omega)) (by decide)
      have HX := Lib.hid (And.intro hnx (And.intro hLn hmul))
      have hKq := bnx hK2 hbw hK2.size
      have hOd := hO.drew
      have hKd := hK'.drew
      have hcqd : wq.drew.cell? (ad.add k) = some (.int .u32 dk) := hcq
      have hcutd : Rd wq.drew wq.drew.heap.size .u8 Ax (row told ((an + 1) * nd) k) := hcut.drew
      have hwld : B ≤ wq.drew.heap.size := hwl
      clear hkp hi hdk hAx hnx hLn hmul hp2 hlu
      go_upto_region 10 with fail
      refine Ls.start (fun w' => Blk w' bp 67 (plc f Asd nd cd tree q) ∧ w'.cell? ⟨w.heap.size, 4, none⟩ = some (.int .i64 an) ∧ w'.cell? (ad.add k) = some (.int .u32 dk)) [(0, true), (1, true), (2, true), (3, true), (4, true), (5, true), (6, true), (7, true), (8, true), (9, true), (10, true), (11, true), (12, true), (13, true), (14, true), (15, true), (16, true), (17, true), (18, true), (19, true), (20, true), (21, false), (22, false), (23, true)] (by kernel_rfl) (by kernel_rfl) (by kernel_rfl) (by kernel_rfl) ⟨hpq.drew, hq4, hcq⟩ ?_
      (refine Ls.val ?_ rfl (fun _ _ _ h => h) (by kernel_rfl) ?_ ?_; rotate_left 1; focus (intro w hw; go_simp; with_reducible rfl)); (try simp (config := {maxSteps := 2000000}) only [Act.put, List.getElem_toArray, List.getElem_cons_succ, List.getElem_cons_zero, List.setIfInBounds_toArray, List.set_cons_zero, List.set_cons_succ])
      refine Ls.val (.agg (plc f Asd nd cd tree q)) rfl (fun _ _ _ h => h) (by kernel_rfl) (fun w hw => exec_load_row w rfl (by kernel_rfl) Tryd.underlying67 rfl (by kernel_rfl) hw.1) ?_; (try simp (config := {maxSteps := 2000000}) only [Act.put, List.getElem_toArray, List.getElem_cons_succ, List.getElem_cons_zero, List.setIfInBounds_toArray, List.set_cons_zero, List.set_cons_succ])
      (refine Ls.val ?_ rfl (fun _ _ _ h => h) (by kernel_rfl) ?_ ?_; rotate_left 1; focus (intro w hw; go_simp; with_reducible rfl)); (try simp (config := {maxSteps := 2000000}) only [Act.put, List.getElem_toArray, List.getElem_cons_succ, List.getElem_cons_zero, List.setIfInBounds_toArray, List.set_cons_zero, List.set_cons_succ])
      refine Ls.val (.int .u32 (k : Int)) rfl (fun _ _ _ h => h) (by kernel_rfl) (by intro w hw; go_simp; all_goals first | rfl | (rw [HKM.out]) | (simp only [HKM.out])) ?_; (try simp (config := {maxSteps := 2000000}) only [Act.put, List.getElem_toArray, List.getElem_cons_succ, List.getElem_cons_zero, List.setIfInBounds_toArray, List.set_cons_zero, List.set_cons_succ])
      (refine Ls.val ?_ rfl (fun _ _ _ h => h) (by kernel_rfl) ?_ ?_; rotate_left 1; focus (intro w hw; go_simp; with_reducible rfl)); (try simp (config := {maxSteps := 2000000}) only [Act.put, List.getElem_toArray, List.getElem_cons_succ, List.getElem_cons_zero, List.setIfInBounds_toArray, List.set_cons_zero, List.set_cons_succ])
      (refine Ls.val ?_ rfl (fun _ _ _ h => h) (by kernel_rfl) ?_ ?_; rotate_left 1; focus (intro w hw; have hcell := hw.2.1; go_simp; with_reducible rfl)); (try simp (config := {maxSteps := 2000000}) only [Act.put, List.getElem_toArray, List.getElem_cons_succ, List.getElem_cons_zero, List.setIfInBounds_toArray, List.set_cons_zero, List.set_cons_succ])
      refine Ls.val (.int .u32 (kp : Int)) rfl (fun _ _ _ h => h) (by kernel_rfl) (by intro w hw; go_simp; all_goals first | rfl | (rw [HSH.out]) | (simp only [HSH.out])) ?_; (try simp (config := {maxSteps := 2000000}) only [Act.put, List.getElem_toArray, List.getElem_cons_succ, List.getElem_cons_zero, List.setIfInBounds_toArray, List.set_cons_zero, List.set_cons_succ])
      (refine Ls.val ?_ rfl (fun _ _ _ h => h) (by kernel_rfl) ?_ ?_; rotate_left 1; focus (intro w hw; go_simp; with_reducible rfl)); (try simp (config := {maxSteps := 2000000}) only [Act.put, List.getElem_toArray, List.getElem_cons_succ, List.getElem_cons_zero, List.setIfInBounds_toArray, List.set_cons_zero, List.set_cons_succ])
      (refine Ls.val ?_ rfl (fun _ _ _ h => h) (by kernel_rfl) ?_ ?_; rotate_left 1; focus (intro w hw; go_simp; with_reducible rfl)); (try simp (config := {maxSteps := 2000000}) only [Act.put, List.getElem_toArray, List.getElem_cons_succ, List.getElem_cons_zero, List.setIfInBounds_toArray, List.set_cons_zero, List.set_cons_succ])
      refine Ls.val (.pointer (some (ad.add k))) rfl (fun _ _ _ h => h) (by kernel_rfl) (by intro w hw; go_simp; all_goals first | rfl | (simp [hltI])) ?_; (try simp (config := {maxSteps := 2000000}) only [Act.put, List.getElem_toArray, List.getElem_cons_succ, List.getElem_cons_zero, List.setIfInBounds_toArray, List.set_cons_zero, List.set_cons_succ])
      (refine Ls.val ?_ rfl (fun _ _ _ h => h) (by kernel_rfl) ?_ ?_; rotate_left 1; focus (intro w hw; have hcell := hw.2.2; go_simp; with_reducible rfl)); (try simp (config := {maxSteps := 2000000}) only [Act.put, List.getElem_toArray, List.getElem_cons_succ, List.getElem_cons_zero, List.setIfInBounds_toArray, List.set_cons_zero, List.set_cons_succ])
      refine Ls.val (.int .u32 (i : Int)) rfl (fun _ _ _ h => h) (by kernel_rfl) (by intro w hw; go_simp; all_goals first | rfl | (rw [HOR.out]) | (simp only [HOR.out])) ?_; (try simp (config := {maxSteps := 2000000}) only [Act.put, List.getElem_toArray, List.getElem_cons_succ, List.getElem_cons_zero, List.setIfInBounds_toArray, List.set_cons_zero, List.set_cons_succ])
      (refine Ls.val ?_ rfl (fun _ _ _ h => h) (by kernel_rfl) ?_ ?_; rotate_left 1; focus (intro w hw; go_simp; with_reducible rfl)); (try simp (config := {maxSteps := 2000000}) only [Act.put, List.getElem_toArray, List.getElem_cons_succ, List.getElem_cons_zero, List.setIfInBounds_toArray, List.set_cons_zero, List.set_cons_succ])
      (refine Ls.val ?_ rfl (fun _ _ _ h => h) (by kernel_rfl) ?_ ?_; rotate_left 1; focus (intro w hw; go_simp; with_reducible rfl)); (try simp (config := {maxSteps := 2000000}) only [Act.put, List.getElem_toArray, List.getElem_cons_succ, List.getElem_cons_zero, List.setIfInBounds_toArray, List.set_cons_zero, List.set_cons_succ])
      (refine Ls.val ?_ rfl (fun _ _ _ h => h) (by kernel_rfl) ?_ ?_; rotate_left 1; focus (intro w hw; go_simp; with_reducible rfl)); (try simp (config := {maxSteps := 2000000}) only [Act.put, List.getElem_toArray, List.getElem_cons_succ, List.getElem_cons_zero, List.setIfInBounds_toArray, List.set_cons_zero, List.set_cons_succ])
      refine Ls.val (.int .i64 (lo : Int)) rfl (fun _ _ _ h => h) (by kernel_rfl) (by intro w hw; go_simp; all_goals first | rfl | (rw [HW1.out]) | (simp only [HW1.out])) ?_; (try simp (config := {maxSteps := 2000000}) only [Act.put, List.getElem_toArray, List.getElem_cons_succ, List.getElem_cons_zero, List.setIfInBounds_toArray, List.set_cons_zero, List.set_cons_succ])
      (refine Ls.val ?_ rfl (fun _ _ _ h => h) (by kernel_rfl) ?_ ?_; rotate_left 1; focus (intro w hw; go_simp; with_reducible rfl)); (try simp (config := {maxSteps := 2000000}) only [Act.put, List.getElem_toArray, List.getElem_cons_succ, List.getElem_cons_zero, List.setIfInBounds_toArray, List.set_cons_zero, List.set_cons_succ])
      refine Ls.val (.int .i64 ((k : Int) + 1)) rfl (fun _ _ _ h => h) (by kernel_rfl) (by intro w hw; go_simp; all_goals first | rfl | (rw [HW3.out]) | (simp only [HW3.out])) ?_; (try simp (config := {maxSteps := 2000000}) only [Act.put, List.getElem_toArray, List.getElem_cons_succ, List.getElem_cons_zero, List.setIfInBounds_toArray, List.set_cons_zero, List.set_cons_succ])
      (refine Ls.val ?_ rfl (fun _ _ _ h => h) (by kernel_rfl) ?_ ?_; rotate_left 1; focus (intro w hw; go_simp; with_reducible rfl)); (try simp (config := {maxSteps := 2000000}) only [Act.put, List.getElem_toArray, List.getElem_cons_succ, List.getElem_cons_zero, List.setIfInBounds_toArray, List.set_cons_zero, List.set_cons_succ])
      refine Ls.val (.int .i64 (up : Int)) rfl (fun _ _ _ h => h) (by kernel_rfl) (by intro w hw; go_simp; all_goals first | rfl | (rw [HW2.out]) | (simp only [HW2.out])) ?_; (try simp (config := {maxSteps := 2000000}) only [Act.put, List.getElem_toArray, List.getElem_cons_succ, List.getElem_cons_zero, List.setIfInBounds_toArray, List.set_cons_zero, List.set_cons_succ])
      refine Ls.val (.slice Ax ea (ct - lo)) rfl (fun _ _ _ h => h) (by kernel_rfl) (fun w hw => exec_slice rfl (by kernel_rfl) (.slice At mt ct) (.slice Ax ea (ct - lo)) (some (.int .i64 (lo : Int))) (some (.int .i64 (up : Int))) none (by kernel_rfl) (by kernel_rfl) (by kernel_rfl) (by kernel_rfl) (hsl w)) ?_; (try simp (config := {maxSteps := 2000000}) only [Act.put, List.getElem_toArray, List.getElem_cons_succ, List.getElem_cons_zero, List.setIfInBounds_toArray, List.set_cons_zero, List.set_cons_succ])
      have hK21 := bdw hKq
      have hcp_21 := hpq.drew
      have hlp_21 := (show _ < wq.drew.heap.size from hlq)
      have hc4_21 := cdw hq4
      have hl4_21 := (show _ < wq.drew.heap.size from hlq4)
      generalize wq.drew = v21 at hK21 hcp_21 hlp_21 hc4_21 hl4_21 hOd hKd hcqd hcutd hwld ⊢
      clear hKq hpq hlq hq4 hlq4 hO hK' hbw hwl hcq hcut
      have hadv : (ad.add k).block < v21.heap.size := by rw [block_plus]; exact Nat.lt_of_lt_of_le hadB (by have := HB.out; omega)
      refine Ls.call rfl (by kernel_rfl) (by kernel_rfl) (fun _ => (climb_any f an han ha14 sd (row told ((an + 1) * nd) k) Asd Ax nd cd ea (ct - lo) i tree q v21 ht hq (by omega) HSZ.out (h1.bel hK21) hn1 hc1 hb1 hcutd hrl hcc HE.out.symm (row_B hbt _ _) (hT.bel hK21)).mono ?_)
      rintro e v22 ⟨A22, c22, rfl, hF22, hh22, hb22⟩
      have hK22 := bnx hK21 hb22 hK21.size
      have hcp_22 := hcp_21.below hb22 hlp_21
      have hlp_22 := Nat.lt_of_lt_of_le hlp_21 hb22.size
      have hc4_22 := cell_bel hc4_21 hb22 hl4_21
      have hl4_22 := Nat.lt_of_lt_of_le hl4_21 hb22.size
      have hK1 := kbl hKd hwld hb22
      have hO1 := hOd.below hb22 (Nat.le_refl _)
      have hz1 := hb22.size
      have hcqd := (World.cell?_of_block (hb22.block (ad.add k).block hadv)).trans hcqd
      refine ⟨_, rfl, ⟨hcp_22, hc4_22, hcqd⟩, ?_⟩
      (try simp (config := {maxSteps := 2000000}) only [Act.put, List.getElem_toArray, List.getElem_cons_succ, List.getElem_cons_zero, List.setIfInBounds_toArray, List.set_cons_zero, List.set_cons_succ])
      clear hK21 hcp_21 hlp_21 hc4_21 hl4_21 hb22
      refine Ls.app (c := c22) rfl rfl (.tmp 56) (.tmp 77) 24 5 .u8 1 rfl Tryd.underlying24 inf_u8 hO1 hF22 (by kernel_rfl) (by kernel_rfl) hcl _ HX.out.1.symm (nd * (k + 1)) HX.out.2.1 (by have := HX.out.2.2; omega) (by have := HX.out.2.2; omega) (by omega) ?_
      intro _ A9 c9 w9 hO9 hg9 hf9
      have hK9 := hK1.grew hO1 hg9 (Nat.le_refl _) (by omega)
      have hb9 : Below v2.heap.size v2 w9 := by rw [HB.out]; exact hK9.below
      refine ⟨⟨hpb.below hb9 hlp, cell_bel hc4_2 hb9 hl4_2, (World.cell?_of_block (hb9.block (ad.add k).block (by rw [block_plus]; exact hadB))).trans hcd⟩, ?_⟩
      (try simp (config := {maxSteps := 2000000}) only [Act.put, List.getElem_toArray, List.getElem_cons_succ, List.getElem_cons_zero, List.setIfInBounds_toArray, List.set_cons_zero, List.set_cons_succ])
      (refine Ls.val ?_ rfl (fun _ _ _ h => h) (by kernel_rfl) ?_ ?_; rotate_left 1; focus (intro w hw; go_simp; with_reducible rfl)); (try simp (config := {maxSteps := 2000000}) only [Act.put, List.getElem_toArray, List.getElem_cons_succ, List.getElem_cons_zero, List.setIfInBounds_toArray, List.set_cons_zero, List.set_cons_succ])
      refine Ls.done ?_
      intro _
      go_wp2_with fail
      go_roundg (kn - (k + 1))
      case measure => have := HGK.out; omega
      case rel => exact ⟨k + 1, A9, c9, rfl, by go_num, by omega, rfl, hO9, hK9⟩
    · have hltI : ¬ (k : Int) < (kn : Int) := by omega
      obtain rfl : k = kn := by omega
      have hpq := hpb.below hbw hlp
      have hlq := hpq.lt
      have hKq := bnx hK2 hbw hK2.size
      have hRt := hO.rd
      have hcT := hO.len.2
      have hLn : (standsS f.n sd tree q told bt nd an k).length = nd * k := by rw [standsS_len HSZ.out, hn1]
      have hmul : nd * k ≤ 1280 := Nat.le_trans (Nat.mul_le_mul hn32 hk40) (by decide)
      rw [hLn] at hcT
      have hfl : [standsS f.n sd tree q told bt nd an k].flatten = standsS f.n sd tree q told bt nd an k := by simp
      have hMM : (atL f.n sd tree q 4 0 0 [standsS f.n sd tree q told bt nd an k].flatten).length = nd := by rw [atL_nd HSZ.out, hn1]
      obtain ⟨nT, hnT⟩ : ∃ q, nd * k = q := ⟨_, rfl⟩
      rw [hnT] at hcT hLn hmul ⊢
      have hP := parts_of (w := wq) (T := 24) [.slice Ao nT co] [standsS f.n sd tree q told bt nd an k] rfl (fun i hi => match i, hi with | 0, _ => hRt.pt hLn hcT | m + 1, h => absurd h (by simp))
      have hKz := bal hKq hKq.size (.cells #[.slice Ao nT co] 24)
      have hz : (wq.alloc (.cells #[.slice Ao nT co] 24)).heap.size = wq.heap.size + 1 := by simp
      clear hO hK' hnT
      go_wp2_with (refine wpList_blk_yes (t := 67) (T := 67) (by rfl) rfl rfl Tryd.underlying67 rfl (by kernel_rfl) hpq ?_)
      change Calls _ _ _ (wq.alloc (.cells #[.slice Ao nT co] 24)) _
      change Parts (wq.alloc (.cells #[.slice Ao nT co] 24)) _ _ _ at hP
      generalize wq.alloc (.cells #[.slice Ao nT co] 24) = wz at hP hKz hz ⊢
      (with_reducible refine (tweak_any f sd Asd nd cd tree q 4 0 0 [standsS f.n sd tree q told bt nd an k] (some ⟨wq.heap.size, 0, none⟩) 1 1 nd (wq.heap.size + 1) wz ht hq (W32.small (by decide) (by decide)) W32.z W32.z (h1.bel hKz) hn1 hc1 hb1 hP (by omega) rfl (by decide) (by decide) (by rw [hfl]; omega) (by rw [hfl]; exact standsS_B _ _ _ _ _ _ _ _ _) (hT.bel hKz) hMM).mono ?_)
      rintro e w3 ⟨A3, c3, rfl, hR3, hh3, hb3⟩
      rw [hfl] at hR3
      have hK3 := bnx hKz hb3 hKz.size
      go_wp2_with fail
      go_ret
      exact ⟨_, _, rfl, hR3, hh3, hK3⟩
end Go.Proofs.YtfaonieaagepjaaDoor
