/- Layer 17, the reference: what told bytes stand for, walked. Conditions: small lengths, words of their kinds. -/
import Derived.Test.YtfaonieaagepjaaDoorF7P
namespace Go.Proofs.YtfaonieaagepjaaDoor
open Go.RowKit
set_option linter.unusedVariables false
set_option linter.unusedSimpArgs false
theorem row_row (l : List Int) (a n k j : Nat) (hj : j < a) (p : Nat) (hp : k * (a * n) = p) : row (row l (a * n) k) n j = (l.take (p + n * (j + 1))).drop (p + n * j) := by
  unfold row
  have e : (k + 1) * (a * n) = p + a * n := by rw [Nat.succ_mul, hp]
  have h : (j + 1) * n ≤ a * n := Nat.mul_le_mul_right _ hj
  rw [e, hp, List.take_drop, List.drop_drop, List.take_take, Nat.min_eq_left (by omega), Nat.mul_comm n, Nat.mul_comm n]
theorem mulr3 (k a n p t : Nat) (h : k * (a + 1) = p) (h2 : p * n = t) (hp : p ≤ 1000000) (ht : t ≤ 1000000) : wrap64 (wrap64 ((k : Int) * ((a : Int) + 1)) * (n : Int)) = (t : Int) := by
  have e1 : (k : Int) * ((a : Int) + 1) = (p : Int) := by rw [← h]; push_cast; rfl
  rw [e1, IntWalk.wrap64_in (p : Int) ⟨by omega, by omega⟩]
  have e2 : (p : Int) * (n : Int) = (t : Int) := by rw [← h2]; push_cast; rfl
  rw [e2]; exact IntWalk.wrap64_in _ ⟨by omega, by omega⟩
set_option maxRecDepth 100000 in
theorem rstands_may (f : Fw) (hf : f.ok) (Asd Ab At : Option Addr) (nd cd L cb mt ct : Nat) (tree q : Int) (w : World) (hno : ¬ f.may) :
    Calls Tryd.prog 15 #[.agg f.cs, .slice Asd nd cd, .int .u64 tree, .int .u32 q, .slice Ab L cb, .slice At mt ct] w (NilP w) := by
  have hF := Blk.new w 23 f.cs
  have hK := bal (Below.refl w.heap.size w) (Nat.le_refl _) (.cells f.cs 23)
  have hmx : (200000000 : Nat) ≤ maxLen := by decide
  go_enter Tryd.func15, Tryd.ntmps15
  go_upto_region 1 with fail
  change Code.wp _ _ _ _ (w.alloc (.cells f.cs 23))
  generalize w.alloc (.cells f.cs 23) = w0 at hF hK ⊢
  have h0 := hF.cell 0 (.int .i64 f.n) rfl
  have h3 := hF.cell 3 (.int .i64 f.k) rfl
  have h4 := hF.cell 4 (.int .i64 f.a) rfl
  have hlf := hF.lt
  have hlf0 := hlf
  have hlf3 := hlf
  have hlf4 := hlf
  go_wp2_with (first | (refine wpList_blk_yes (t := 23) (T := 23) (by rfl) rfl rfl Tryd.underlying23 rfl (by kernel_rfl) hF ?_))
  (with_reducible refine (rdigits_may f Ab L cb w0 hf hno).mono ?_)
  rintro e v1 ⟨rfl, hb1⟩
  have hK1 := bnx hK hb1 hK.size
  have hcf_1 := hF.below hb1 hlf
  have hlf_1 := Nat.lt_of_lt_of_le hlf hb1.size
  have hc0_1 := cell_bel h0 hb1 hlf0
  have hl0_1 := Nat.lt_of_lt_of_le hlf0 hb1.size
  have hc3_1 := cell_bel h3 hb1 hlf3
  have hl3_1 := Nat.lt_of_lt_of_le hlf3 hb1.size
  have hc4_1 := cell_bel h4 hb1 hlf4
  have hl4_1 := Nat.lt_of_lt_of_le hlf4 hb1.size
  clear hK hF hlf h0 hlf0 h3 hlf3 h4 hlf4 hb1
  go_wp2_with fail
  go_ret
  exact ⟨rfl, hK1⟩
set_option maxRecDepth 100000 in
theorem rstands_short (f : Fw) (kn an fn : Nat) (hkn : f.k = kn) (han : f.a = an) (hfn : f.n = fn) (hf : f.ok) (Asd Ab At : Option Addr) (nd cd L cb mt ct : Nat) (tree q : Int) (w : World) (hm : f.may) (hL : L ≤ 100000) (hlt8 : 8 * L < kn * an) :
    Calls Tryd.prog 15 #[.agg f.cs, .slice Asd nd cd, .int .u64 tree, .int .u32 q, .slice Ab L cb, .slice At mt ct] w (NilP w) := by
  have hF := Blk.new w 23 f.cs
  have hK := bal (Below.refl w.heap.size w) (Nat.le_refl _) (.cells f.cs 23)
  have hmx : (200000000 : Nat) ≤ maxLen := by decide
  go_enter Tryd.func15, Tryd.ntmps15
  go_upto_region 1 with fail
  change Code.wp _ _ _ _ (w.alloc (.cells f.cs 23))
  generalize w.alloc (.cells f.cs 23) = w0 at hF hK ⊢
  have h0 := hF.cell 0 (.int .i64 f.n) rfl
  have h3 := hF.cell 3 (.int .i64 f.k) rfl
  have h4 := hF.cell 4 (.int .i64 f.a) rfl
  have hlf := hF.lt
  have hlf0 := hlf
  have hlf3 := hlf
  have hlf4 := hlf
  rw [hkn] at h3
  rw [han] at h4
  rw [hfn] at h0
  have hk40 : kn ≤ 40 := by have := hm.k; omega
  have hk1 : 1 ≤ kn := by have := hm.k; omega
  have ha14 : an ≤ 14 := by have := hm.a; omega
  have hn32 : fn ≤ 32 := by have := hm.n; omega
  obtain ⟨ea, he⟩ : ∃ e, (an + 1) * fn = e := ⟨_, rfl⟩
  have he480 : ea ≤ 480 := by rw [← he]; exact Nat.le_trans (Nat.mul_le_mul (show an + 1 ≤ 15 by omega) hn32) (by decide)
  have HE := Lib.hid he
  obtain ⟨pa, hpa⟩ : ∃ p, kn * (an + 1) = p := ⟨_, rfl⟩
  have hp600 : pa ≤ 600 := by rw [← hpa]; exact Nat.le_trans (Nat.mul_le_mul hk40 (show an + 1 ≤ 15 by omega)) (by decide)
  obtain ⟨tt, htt⟩ : ∃ t, pa * fn = t := ⟨_, rfl⟩
  have ht2 : tt ≤ 19200 := by rw [← htt]; exact Nat.le_trans (Nat.mul_le_mul hp600 hn32) (by decide)
  have hte : tt = kn * ea := by rw [← htt, ← hpa, ← he, Nat.mul_assoc]
  have HTT := Lib.hid (And.intro hpa (And.intro htt hte))
  clear he hpa htt hte
  go_wp2_with (first | (refine wpList_blk_yes (t := 23) (T := 23) (by rfl) rfl rfl Tryd.underlying23 rfl (by kernel_rfl) hF ?_))
  (with_reducible refine (rdigits_short f kn an hkn han Ab L cb w0 hf hm hL hlt8).mono ?_)
  rintro e v1 ⟨rfl, hb1⟩
  have hK1 := bnx hK hb1 hK.size
  have hcf_1 := hF.below hb1 hlf
  have hlf_1 := Nat.lt_of_lt_of_le hlf hb1.size
  have hc0_1 := cell_bel h0 hb1 hlf0
  have hl0_1 := Nat.lt_of_lt_of_le hlf0 hb1.size
  have hc3_1 := cell_bel h3 hb1 hlf3
  have hl3_1 := Nat.lt_of_lt_of_le hlf3 hb1.size
  have hc4_1 := cell_bel h4 hb1 hlf4
  have hl4_1 := Nat.lt_of_lt_of_le hlf4 hb1.size
  clear hK hF hlf h0 hlf0 h3 hlf3 h4 hlf4 hb1
  clear hlt8
  go_wp2_with fail
  go_ret
  exact ⟨rfl, hK1⟩
set_option maxRecDepth 100000 in
theorem rstands_seed (f : Fw) (kn an fn : Nat) (hkn : f.k = kn) (han : f.a = an) (hfn : f.n = fn) (hf : f.ok) (Asd Ab At : Option Addr) (nd cd L cb mt ct : Nat) (tree q : Int) (w : World) (hm : f.may) (bt : List Int) (hrb : Rd w w.heap.size .u8 Ab bt) (hLb : bt.length = L) (hLc : L ≤ cb) (hL : L ≤ 100000) (hbb : Bys bt) (hlt8 : ¬ 8 * L < kn * an) (hne : nd ≠ fn) :
    Calls Tryd.prog 15 #[.agg f.cs, .slice Asd nd cd, .int .u64 tree, .int .u32 q, .slice Ab L cb, .slice At mt ct] w (NilP w) := by
  have hF := Blk.new w 23 f.cs
  have hK := bal (Below.refl w.heap.size w) (Nat.le_refl _) (.cells f.cs 23)
  have hmx : (200000000 : Nat) ≤ maxLen := by decide
  go_enter Tryd.func15, Tryd.ntmps15
  go_upto_region 1 with fail
  change Code.wp _ _ _ _ (w.alloc (.cells f.cs 23))
  generalize w.alloc (.cells f.cs 23) = w0 at hF hK ⊢
  have h0 := hF.cell 0 (.int .i64 f.n) rfl
  have h3 := hF.cell 3 (.int .i64 f.k) rfl
  have h4 := hF.cell 4 (.int .i64 f.a) rfl
  have hlf := hF.lt
  have hlf0 := hlf
  have hlf3 := hlf
  have hlf4 := hlf
  rw [hkn] at h3
  rw [han] at h4
  rw [hfn] at h0
  have hk40 : kn ≤ 40 := by have := hm.k; omega
  have hk1 : 1 ≤ kn := by have := hm.k; omega
  have ha14 : an ≤ 14 := by have := hm.a; omega
  have hn32 : fn ≤ 32 := by have := hm.n; omega
  obtain ⟨ea, he⟩ : ∃ e, (an + 1) * fn = e := ⟨_, rfl⟩
  have he480 : ea ≤ 480 := by rw [← he]; exact Nat.le_trans (Nat.mul_le_mul (show an + 1 ≤ 15 by omega) hn32) (by decide)
  have HE := Lib.hid he
  obtain ⟨pa, hpa⟩ : ∃ p, kn * (an + 1) = p := ⟨_, rfl⟩
  have hp600 : pa ≤ 600 := by rw [← hpa]; exact Nat.le_trans (Nat.mul_le_mul hk40 (show an + 1 ≤ 15 by omega)) (by decide)
  obtain ⟨tt, htt⟩ : ∃ t, pa * fn = t := ⟨_, rfl⟩
  have ht2 : tt ≤ 19200 := by rw [← htt]; exact Nat.le_trans (Nat.mul_le_mul hp600 hn32) (by decide)
  have hte : tt = kn * ea := by rw [← htt, ← hpa, ← he, Nat.mul_assoc]
  have HTT := Lib.hid (And.intro hpa (And.intro htt hte))
  clear he hpa htt hte
  go_wp2_with (first | (refine wpList_blk_yes (t := 23) (T := 23) (by rfl) rfl rfl Tryd.underlying23 rfl (by kernel_rfl) hF ?_))
  (with_reducible refine (rdigits_any f kn an hkn han bt Ab L cb w0 hf hm (hrb.bel hK) hLb hLc hL hlt8 hbb).mono ?_)
  rintro e v1 ⟨Adg, cdd, rfl, hD1, hhd, hb1⟩
  have hK1 := bnx hK hb1 hK.size
  have hcf_1 := hF.below hb1 hlf
  have hlf_1 := Nat.lt_of_lt_of_le hlf hb1.size
  have hc0_1 := cell_bel h0 hb1 hlf0
  have hl0_1 := Nat.lt_of_lt_of_le hlf0 hb1.size
  have hc3_1 := cell_bel h3 hb1 hlf3
  have hl3_1 := Nat.lt_of_lt_of_le hlf3 hb1.size
  have hc4_1 := cell_bel h4 hb1 hlf4
  have hl4_1 := Nat.lt_of_lt_of_le hlf4 hb1.size
  clear hK hF hlf h0 hlf0 h3 hlf3 h4 hlf4 hb1
  have hk0 : ((kn : Int) == 0) = false := beq_eq_false_iff_ne.2 (by omega)
  have hnn : ((nd : Int) != (fn : Int)) = true := bne_iff_ne.2 (by omega)
  clear hlt8 hne
  go_wp2_with fail
  go_ret
  exact ⟨rfl, hK1⟩
set_option maxRecDepth 100000 in
theorem rstands_len (f : Fw) (kn an fn : Nat) (hkn : f.k = kn) (han : f.a = an) (hfn : f.n = fn) (hf : f.ok) (Asd Ab At : Option Addr) (nd cd L cb mt ct : Nat) (tree q : Int) (w : World) (hm : f.may) (bt : List Int) (hrb : Rd w w.heap.size .u8 Ab bt) (hLb : bt.length = L) (hLc : L ≤ cb) (hL : L ≤ 100000) (hbb : Bys bt) (hlt8 : ¬ 8 * L < kn * an) (hnd : nd = fn) (hne : mt ≠ kn * ((an + 1) * fn)) :
    Calls Tryd.prog 15 #[.agg f.cs, .slice Asd nd cd, .int .u64 tree, .int .u32 q, .slice Ab L cb, .slice At mt ct] w (NilP w) := by
  subst hnd
  have hF := Blk.new w 23 f.cs
  have hK := bal (Below.refl w.heap.size w) (Nat.le_refl _) (.cells f.cs 23)
  have hmx : (200000000 : Nat) ≤ maxLen := by decide
  go_enter Tryd.func15, Tryd.ntmps15
  go_upto_region 1 with fail
  change Code.wp _ _ _ _ (w.alloc (.cells f.cs 23))
  generalize w.alloc (.cells f.cs 23) = w0 at hF hK ⊢
  have h0 := hF.cell 0 (.int .i64 f.n) rfl
  have h3 := hF.cell 3 (.int .i64 f.k) rfl
  have h4 := hF.cell 4 (.int .i64 f.a) rfl
  have hlf := hF.lt
  have hlf0 := hlf
  have hlf3 := hlf
  have hlf4 := hlf
  rw [hkn] at h3
  rw [han] at h4
  rw [hfn] at h0
  have hk40 : kn ≤ 40 := by have := hm.k; omega
  have hk1 : 1 ≤ kn := by have := hm.k; omega
  have ha14 : an ≤ 14 := by have := hm.a; omega
  have hn32 : nd ≤ 32 := by have := hm.n; omega
  obtain ⟨ea, he⟩ : ∃ e, (an + 1) * nd = e := ⟨_, rfl⟩
  have he480 : ea ≤ 480 := by rw [← he]; exact Nat.le_trans (Nat.mul_le_mul (show an + 1 ≤ 15 by omega) hn32) (by decide)
  have HE := Lib.hid he
  obtain ⟨pa, hpa⟩ : ∃ p, kn * (an + 1) = p := ⟨_, rfl⟩
  have hp600 : pa ≤ 600 := by rw [← hpa]; exact Nat.le_trans (Nat.mul_le_mul hk40 (show an + 1 ≤ 15 by omega)) (by decide)
  obtain ⟨tt, htt⟩ : ∃ t, pa * nd = t := ⟨_, rfl⟩
  have ht2 : tt ≤ 19200 := by rw [← htt]; exact Nat.le_trans (Nat.mul_le_mul hp600 hn32) (by decide)
  have hte : tt = kn * ea := by rw [← htt, ← hpa, ← he, Nat.mul_assoc]
  have HTT := Lib.hid (And.intro hpa (And.intro htt hte))
  clear he hpa htt hte
  go_wp2_with (first | (refine wpList_blk_yes (t := 23) (T := 23) (by rfl) rfl rfl Tryd.underlying23 rfl (by kernel_rfl) hF ?_))
  (with_reducible refine (rdigits_any f kn an hkn han bt Ab L cb w0 hf hm (hrb.bel hK) hLb hLc hL hlt8 hbb).mono ?_)
  rintro e v1 ⟨Adg, cdd, rfl, hD1, hhd, hb1⟩
  have hK1 := bnx hK hb1 hK.size
  have hcf_1 := hF.below hb1 hlf
  have hlf_1 := Nat.lt_of_lt_of_le hlf hb1.size
  have hc0_1 := cell_bel h0 hb1 hlf0
  have hl0_1 := Nat.lt_of_lt_of_le hlf0 hb1.size
  have hc3_1 := cell_bel h3 hb1 hlf3
  have hl3_1 := Nat.lt_of_lt_of_le hlf3 hb1.size
  have hc4_1 := cell_bel h4 hb1 hlf4
  have hl4_1 := Nat.lt_of_lt_of_le hlf4 hb1.size
  clear hK hF hlf h0 hlf0 h3 hlf3 h4 hlf4 hb1
  rw [HE.out, ← HTT.out.2.2] at hne
  have hk0 : ((kn : Int) == 0) = false := beq_eq_false_iff_ne.2 (by omega)
  have hnn : ((mt : Int) != wrap64 (wrap64 ((kn : Int) * ((an : Int) + 1)) * (nd : Int))) = true := by rw [mulr3 kn an nd pa tt HTT.out.1 HTT.out.2.1 (by omega) (by omega)]; exact bne_iff_ne.2 (by omega)
  clear hlt8 hne
  go_wp2_with fail
  go_ret
  exact ⟨rfl, hK1⟩
def RStJ (w0 : World) (B : Nat) (N : Int) (sd : List Int) (tree q : Int) (told b : List Int) (n a e kn gk : Nat) (v y x : Value) (w : World) : Prop :=
  ∃ (k : Nat) (A : Option Addr) (c : Nat), v = .slice A (n * k) c ∧ x = .int .i64 k ∧ y = .int .i64 ((k * e : Nat) : Int) ∧ k ≤ kn ∧ gk = kn - k ∧ Own w B 5 .u8 (.slice A (n * k) c) (standsS N sd tree q told b n a k) ∧ Kept B (fun _ => False) w0 w
def RClJ (w0 : World) (B : Nat) (N : Int) (sd : List Int) (tree q : Int) (S row' : List Int) (Ao : Option Addr) (m co n p0 i a gk : Nat) (y z x g' : Value) (w : World) : Prop :=
  ∃ (g : Nat) (A : Option Addr) (c : Nat), x = .slice A n c ∧ g' = .int .i64 ((g + 1 : Nat) : Int) ∧ z = .int .u32 ((i / 2 ^ g : Nat) : Int) ∧ y = .int .i64 ((p0 + n * (g + 1) : Nat) : Int) ∧ g ≤ a ∧ gk = a - g ∧ Rd w w.heap.size .u8 A (climbL N sd tree q row' n i g) ∧ n ≤ c ∧
    Own w B 5 .u8 (.slice Ao m co) S ∧ Kept B (fun _ => False) w0 w
set_option maxRecDepth 100000 in
set_option maxHeartbeats 4000000 in
theorem rstands_any (f : Fw) (kn an : Nat) (hkn : f.k = kn) (han : f.a = an) (hf : f.ok) (Asd Ab At : Option Addr) (nd cd L cb mt ct : Nat) (tree q : Int) (w : World) (sd told : List Int) (ht : U64 tree) (hq : W32 q) (hm : f.may) (bt : List Int) (hrb : Rd w w.heap.size .u8 Ab bt) (hLb : bt.length = L) (hLc : L ≤ cb) (hL : L ≤ 100000) (hbb : Bys bt) (hlt8 : ¬ 8 * L < kn * an) (hsz : Szd f.n sd) (h1 : Rd w w.heap.size .u8 Asd sd) (hn1 : sd.length = nd) (hc1 : nd ≤ cd) (hb1 : Bys sd)
    (htd : Rd w w.heap.size .u8 At told) (hmt : told.length = mt) (hmc : mt ≤ ct) (hbt : Bys told) (hme : mt = kn * ((an + 1) * nd)) :
    Calls Tryd.prog 15 #[.agg f.cs, .slice Asd nd cd, .int .u64 tree, .int .u32 q, .slice Ab L cb, .slice At mt ct] w (OutR w (standsL f.n sd tree q told bt nd an kn) nd) := by
  have hfn : f.n = nd := by rw [← hn1]; exact hsz.e
  have HM0 := Lib.hid hme
  clear hme
  have hF := Blk.new w 23 f.cs
  have hK := bal (Below.refl w.heap.size w) (Nat.le_refl _) (.cells f.cs 23)
  have hmx : (200000000 : Nat) ≤ maxLen := by decide
  go_enter Tryd.func15, Tryd.ntmps15
  go_upto_region 1 with fail
  change Code.wp _ _ _ _ (w.alloc (.cells f.cs 23))
  generalize w.alloc (.cells f.cs 23) = w0 at hF hK ⊢
  have h0 := hF.cell 0 (.int .i64 f.n) rfl
  have h3 := hF.cell 3 (.int .i64 f.k) rfl
  have h4 := hF.cell 4 (.int .i64 f.a) rfl
  have hlf := hF.lt
  have hlf0 := hlf
  have hlf3 := hlf
  have hlf4 := hlf
  rw [hkn] at h3
  rw [han] at h4
  rw [hfn] at h0
  have hk40 : kn ≤ 40 := by have := hm.k; omega
  have hk1 : 1 ≤ kn := by have := hm.k; omega
  have ha14 : an ≤ 14 := by have := hm.a; omega
  have hn32 : nd ≤ 32 := by have := hm.n; omega
  obtain ⟨ea, he⟩ : ∃ e, (an + 1) * nd = e := ⟨_, rfl⟩
  have he480 : ea ≤ 480 := by rw [← he]; exact Nat.le_trans (Nat.mul_le_mul (show an + 1 ≤ 15 by omega) hn32) (by decide)
  have HE := Lib.hid he
  obtain ⟨pa, hpa⟩ : ∃ p, kn * (an + 1) = p := ⟨_, rfl⟩
  have hp600 : pa ≤ 600 := by rw [← hpa]; exact Nat.le_trans (Nat.mul_le_mul hk40 (show an + 1 ≤ 15 by omega)) (by decide)
  obtain ⟨tt, htt⟩ : ∃ t, pa * nd = t := ⟨_, rfl⟩
  have ht2 : tt ≤ 19200 := by rw [← htt]; exact Nat.le_trans (Nat.mul_le_mul hp600 hn32) (by decide)
  have hte : tt = kn * ea := by rw [← htt, ← hpa, ← he, Nat.mul_assoc]
  have HTT := Lib.hid (And.intro hpa (And.intro htt hte))
  clear he hpa htt hte
  go_wp2_with (first | (refine wpList_blk_yes (t := 23) (T := 23) (by rfl) rfl rfl Tryd.underlying23 rfl (by kernel_rfl) hF ?_))
  (with_reducible refine (rdigits_any f kn an hkn han bt Ab L cb w0 hf hm (hrb.bel hK) hLb hLc hL hlt8 hbb).mono ?_)
  rintro e v1 ⟨Adg, cdd, rfl, hD1, hhd, hb1⟩
  have hK1 := bnx hK hb1 hK.size
  have hcf_1 := hF.below hb1 hlf
  have hlf_1 := Nat.lt_of_lt_of_le hlf hb1.size
  have hc0_1 := cell_bel h0 hb1 hlf0
  have hl0_1 := Nat.lt_of_lt_of_le hlf0 hb1.size
  have hc3_1 := cell_bel h3 hb1 hlf3
  have hl3_1 := Nat.lt_of_lt_of_le hlf3 hb1.size
  have hc4_1 := cell_bel h4 hb1 hlf4
  have hl4_1 := Nat.lt_of_lt_of_le hlf4 hb1.size
  clear hK hF hlf h0 hlf0 h3 hlf3 h4 hlf4 hb1
  have hme := HM0.out
  rw [HE.out, ← HTT.out.2.2] at hme
  have hk0 : ((kn : Int) == 0) = false := beq_eq_false_iff_ne.2 (by omega)
  have hnn : ((mt : Int) != wrap64 (wrap64 ((kn : Int) * ((an : Int) + 1)) * (nd : Int))) = false := by rw [mulr3 kn an nd pa tt HTT.out.1 HTT.out.2.1 (by omega) (by omega), hme]; simp
  have hmt2 : mt ≤ 19200 := by omega
  have HME := Lib.hid (hme.trans HTT.out.2.2)
  clear hlt8 hme
  have hZ := Blk.new v1 46 #[.int .u32 0, .int .u64 0, .int .u32 0, .int .u32 0, .int .u32 0, .int .u32 0]
  go_upto_region 6 with (first | (refine wpList_val_yes (o := ⟨some 52, _, _, _, _, _⟩) (.agg (Ad.cs ⟨0, tree, 0, q, 0, 0⟩)) (by rfl) (by kernel_rfl) ?_) | (refine wpList_store_row (o := ⟨none, _, _, _, _, _⟩) rfl 46 _ _ rfl _ (Ad.cs ⟨0, tree, 0, q, 0, 0⟩) rfl (by kernel_rfl) _ #[.int .u32 0, .int .u64 0, .int .u32 0, .int .u32 0, .int .u32 0, .int .u32 0] hZ (by kernel_rfl) rfl (by kernel_rfl) ?_))
  clear hnn hk0
  have hpk := ((Kept.refl v1.heap.size (fun _ => False) v1).alloc (.cells #[.int .u32 0, .int .u64 0, .int .u32 0, .int .u32 0, .int .u32 0, .int .u32 0] 46) (Nat.le_refl _)).setRow v1.heap.size (Ad.cs ⟨0, tree, 0, q, 0, 0⟩) (.inl (Nat.le_refl _))
  have hpb := hZ.setRow (Ad.cs ⟨0, tree, 0, q, 0, 0⟩)
  change Code.wp _ _ _ _ ((v1.alloc (.cells #[.int .u32 0, .int .u64 0, .int .u32 0, .int .u32 0, .int .u32 0, .int .u32 0] 46)).setRow v1.heap.size (Ad.cs ⟨0, tree, 0, q, 0, 0⟩))
  obtain ⟨ba, hba⟩ : ∃ b, v1.heap.size = b := ⟨_, rfl⟩
  have hbq := hpk.below
  generalize (v1.alloc (.cells #[.int .u32 0, .int .u64 0, .int .u32 0, .int .u32 0, .int .u32 0, .int .u32 0] 46)).setRow v1.heap.size (Ad.cs ⟨0, tree, 0, q, 0, 0⟩) = v2 at hpk hpb hbq ⊢
  have hK2 := bnx hK1 hbq hK1.size
  have hBD_2 := bnx (Below.refl v1.heap.size v1) hbq (Below.refl v1.heap.size v1).size
  have hcf_2 := hcf_1.below hbq hlf_1
  have hlf_2 := Nat.lt_of_lt_of_le hlf_1 hbq.size
  have hc0_2 := cell_bel hc0_1 hbq hl0_1
  have hl0_2 := Nat.lt_of_lt_of_le hl0_1 hbq.size
  have hc3_2 := cell_bel hc3_1 hbq hl3_1
  have hl3_2 := Nat.lt_of_lt_of_le hl3_1 hbq.size
  have hc4_2 := cell_bel hc4_1 hbq hl4_1
  have hl4_2 := Nat.lt_of_lt_of_le hl4_1 hbq.size
  rw [hba] at hpb ⊢
  have hlp := hpb.lt
  have hDw := (hD1.bel hBD_2)
  clear hpk hbq hZ hba hK1 hcf_1 hlf_1 hc0_1 hl0_1 hc3_1 hl3_1 hc4_1 hl4_1
  have hr1 := h1.bel hK2
  have hrt := htd.bel hK2
  have hK0 := Kept.refl v2.heap.size (fun _ => False) v2
  obtain ⟨B, hB⟩ : ∃ B, v2.heap.size = B := ⟨_, rfl⟩
  rw [hB] at hK0
  have HB := Lib.hid hB
  have HSZ := Lib.hid hsz
  have HDL := Lib.hid (digsL_gt bt an kn)
  have HDN := Lib.hid (digsL_len bt an kn)
  have hn0 : 16 ≤ nd := by have := hsz.n; omega
  clear hsz hB
  go_upto_region 8 with fail
  go_loopg [13, 16, 17] kn (fun gk v y x wr => RStJ v2 B f.n sd tree q told bt nd an ea kn gk v y x wr)
  case atStart => exact ⟨0, none, 0, rfl, rfl, by rw [Nat.zero_mul]; rfl, Nat.zero_le _, rfl, Own.nil _ _ _ _, hK0⟩
  case round =>
    clear hK0
    obtain ⟨wq, rfl⟩ : ∃ wq : World, wq = wr := ⟨_, rfl⟩
    obtain ⟨k, Ao, co, rfl, rfl, rfl, hk, hgk, hO, hK'⟩ := hrel
    have HGK := Lib.hid hgk
    have hwl : B ≤ wq.heap.size := by have := hK'.size; have := HB.out; omega
    have hbw : Below v2.heap.size v2 wq := by rw [HB.out]; exact hK'.below
    clear hgk
    by_cases hlt : k < kn
    · have hltI : (k : Int) < (kn : Int) := by omega
      obtain ⟨ad, rfl, hadB, hcd⟩ := (hDw.bel hbw).at_ (i := k) (by rw [HDN.out]; exact hlt)
      rw [HDL.out k hlt] at hcd
      have hq4 := cell_bel hc4_2 hbw hl4_2
      have hq3 := cell_bel hc3_2 hbw hl3_2
      have hq0 := cell_bel hc0_2 hbw hl0_2
      have hil := idx_lt bt an k (by omega) (by omega)
      have hdl := dgN_lt bt (k * an) an
      have hdn := dgN_nat bt (k * an) an
      obtain ⟨p, hp⟩ : ∃ p, 2 ^ an = p := ⟨_, rfl⟩
      have hp64 : p ≤ 16384 := by rw [← hp]; exact Nat.le_trans (Nat.pow_le_pow_right (by decide) ha14) (by decide)
      have hie : idx bt an k = k * p + (dgN bt (k * an) an).toNat := by rw [idx, hp]
      obtain ⟨dk, hdk⟩ : ∃ d, (dgN bt (k * an) an).toNat = d := ⟨_, rfl⟩
      rw [hdk] at hdn hie hdl
      rw [← hdn] at hcd
      obtain ⟨i, hi⟩ : ∃ i, idx bt an k = i := ⟨_, rfl⟩
      rw [hi] at hil hie
      obtain ⟨kp, hkp⟩ : ∃ x, k * p = x := ⟨_, rfl⟩
      rw [hkp] at hie
      have hkm := wrap_small (k : Int) (by omega) (by omega)
      have hmu : IntKind.u32.wrap ((k : Int) * (p : Int)) = (kp : Int) := by
        have e : (k : Int) * (p : Int) = (kp : Int) := by rw [← hkp]; push_cast; rfl
        rw [e]; exact wrap_small _ (by omega) (by omega)
      have had : IntKind.u32.wrap ((kp : Int) + (dk : Int)) = (i : Int) := by
        have e : (kp : Int) + (dk : Int) = (i : Int) := by rw [hie]; push_cast; rfl
        rw [e]; exact wrap_small _ (by omega) (by omega)
      have hiW : W32 (i : Int) := ⟨by omega, by omega⟩
      have hpw : ∀ wx, Calls Tryd.prog 48 #[.int .i64 an] wx fun e w' => e = .returned (.int .u32 (p : Int)) ∧ w' = wx := fun wx => by
        have h := pow_any an wx ha14
        rw [hp] at h; exact h
      obtain ⟨p0, hp0⟩ : ∃ x, k * ea = x := ⟨_, rfl⟩
      have hpe : p0 + ea ≤ mt := by rw [← hp0, HME.out]; have h5 : (k + 1) * ea ≤ kn * ea := Nat.mul_le_mul_right _ hlt; rw [Nat.succ_mul] at h5; exact h5
      obtain ⟨R, hR⟩ : ∃ R, row told ((an + 1) * nd) k = R := ⟨_, rfl⟩
      have hnx : standsS f.n sd tree q told bt nd an (k + 1) = standsS f.n sd tree q told bt nd an k ++ climbL f.n sd tree q R nd i an := by rw [standsS, hi, hR]
      have hrow : ∀ j, j ≤ an → (told.take (p0 + nd * (j + 1))).drop (p0 + nd * j) = row R nd j := fun j hj => by rw [← hR]; exact (row_row told (an + 1) nd k j (by omega) p0 (by rw [HE.out]; exact hp0)).symm
      have HP0 := Lib.hid hp0
      have HROW := Lib.hid (And.intro hnx hrow)
      rw [hp0]
      clear hdk hi hie hkp hdl hdn hp hp0 hR hnx hrow
      go_upto_region 10 with fail
      go_quiet ((go_at_call 48; exact Calls.quiet_of_same (hpw _)))
      have hO' := hO.drewN nq
      have hK9 := hK'.drewN nq
      have hwl' : B ≤ (wq.drewN nq).heap.size := hwl
      change Exit.then _ _ _ _ (wq.drewN nq)
      generalize wq.drewN nq = wu at hO' hK9 hwl' ⊢
      have hbu : Below v2.heap.size v2 wu := by rw [HB.out]; exact hK9.below
      have huf := hcf_2.below hbu hlf_2
      have hua := hpb.below hbu hlp
      have hu0 := cell_bel hc0_2 hbu hl0_2
      have hluf := huf.lt
      have hlua := hua.lt
      have hlu0 := Nat.lt_of_lt_of_le hl0_2 hbu.size
      clear hO hK' hbw hwl hq4 hq3 hq0 hkm hmu had hcd hpw
      obtain ⟨up, hup⟩ : ∃ x, p0 + nd = x := ⟨_, rfl⟩
      have hea : nd ≤ ea := by rw [← HE.out, Nat.add_mul, Nat.one_mul]; exact Nat.le_add_left _ _
      have hsl := cut_any At mt ct p0 up nd (by omega) (by omega) (by omega)
      obtain ⟨Ax, hAx⟩ : ∃ x, (if ct = p0 then At else At.map (·.add p0)) = x := ⟨_, rfl⟩
      have hcut := (hrt.bel hbu).cut p0 up ct (by omega) (by omega)
      rw [hAx] at hsl hcut
      have hr0 := HROW.out.2 0 (Nat.zero_le _)
      rw [show p0 + nd * (0 + 1) = up by rw [Nat.zero_add, Nat.mul_one]; exact hup, show p0 + nd * 0 = p0 by rw [Nat.mul_zero, Nat.add_zero]] at hr0
      rw [hr0] at hcut
      have hrl : (row R nd 0).length = nd := by rw [← hr0, List.length_drop, List.length_take, hmt, Nat.min_eq_left (by omega)]; omega
      have hcl : nd ≤ ct - p0 := by omega
      have hrB : Bys (row R nd 0) := by rw [← hr0]; exact (hbt.take _).drop _
      have HW1 := Lib.hid (show IntKind.i64.wrap ((p0 : Int) + (nd : Int)) = (up : Int) by rw [IntWalk.i64_in _ (by omega)]; omega)
      have hKq := bnx hK2 hbu hK2.size
      have hOd := hO'.drew
      have hKd := hK9.drew
      have hcutd : Rd wu.drew wu.drew.heap.size .u8 Ax (row R nd 0) := hcut.drew
      have hwld : B ≤ wu.drew.heap.size := hwl'
      clear hAx hr0
      go_upto_region 11 with fail
      refine Ls.start (fun w' => Blk w' w.heap.size 23 f.cs ∧ Blk w' ba 46 (Ad.cs ⟨0, tree, 0, q, 0, 0⟩) ∧ w'.cell? ⟨w.heap.size, 0, none⟩ = some (.int .i64 nd)) [(0, true), (1, true), (2, true), (3, true), (4, true), (5, true), (6, true), (7, true), (8, true), (9, true), (10, true), (11, false), (12, true)] (by kernel_rfl) (by kernel_rfl) (by kernel_rfl) (by kernel_rfl) ⟨huf.drew, hua.drew, hu0⟩ ?_
      refine Ls.val (.agg f.cs) rfl (fun _ _ _ h => h) (by kernel_rfl) (fun w hw => exec_load_row w rfl (by kernel_rfl) Tryd.underlying23 rfl (by kernel_rfl) hw.1) ?_; (try simp (config := {maxSteps := 2000000}) only [Act.put, List.getElem_toArray, List.getElem_cons_succ, List.getElem_cons_zero, List.setIfInBounds_toArray, List.set_cons_zero, List.set_cons_succ])
      (refine Ls.val ?_ rfl (fun _ _ _ h => h) (by kernel_rfl) ?_ ?_; rotate_left 1; focus (intro w hw; go_simp; with_reducible rfl)); (try simp (config := {maxSteps := 2000000}) only [Act.put, List.getElem_toArray, List.getElem_cons_succ, List.getElem_cons_zero, List.setIfInBounds_toArray, List.set_cons_zero, List.set_cons_succ])
      refine Ls.val (.agg (Ad.cs ⟨0, tree, 0, q, 0, 0⟩)) rfl (fun _ _ _ h => h) (by kernel_rfl) (fun w hw => exec_load_row w rfl (by kernel_rfl) Tryd.underlying46 rfl (by kernel_rfl) hw.2.1) ?_; (try simp (config := {maxSteps := 2000000}) only [Act.put, List.getElem_toArray, List.getElem_cons_succ, List.getElem_cons_zero, List.setIfInBounds_toArray, List.set_cons_zero, List.set_cons_succ])
      (refine Ls.val ?_ rfl (fun _ _ _ h => h) (by kernel_rfl) ?_ ?_; rotate_left 1; focus (intro w hw; go_simp; with_reducible rfl)); (try simp (config := {maxSteps := 2000000}) only [Act.put, List.getElem_toArray, List.getElem_cons_succ, List.getElem_cons_zero, List.setIfInBounds_toArray, List.set_cons_zero, List.set_cons_succ])
      (refine Ls.val ?_ rfl (fun _ _ _ h => h) (by kernel_rfl) ?_ ?_; rotate_left 1; focus (intro w hw; go_simp; with_reducible rfl)); (try simp (config := {maxSteps := 2000000}) only [Act.put, List.getElem_toArray, List.getElem_cons_succ, List.getElem_cons_zero, List.setIfInBounds_toArray, List.set_cons_zero, List.set_cons_succ])
      (refine Ls.val ?_ rfl (fun _ _ _ h => h) (by kernel_rfl) ?_ ?_; rotate_left 1; focus (intro w hw; go_simp; with_reducible rfl)); (try simp (config := {maxSteps := 2000000}) only [Act.put, List.getElem_toArray, List.getElem_cons_succ, List.getElem_cons_zero, List.setIfInBounds_toArray, List.set_cons_zero, List.set_cons_succ])
      (refine Ls.val ?_ rfl (fun _ _ _ h => h) (by kernel_rfl) ?_ ?_; rotate_left 1; focus (intro w hw; go_simp; with_reducible rfl)); (try simp (config := {maxSteps := 2000000}) only [Act.put, List.getElem_toArray, List.getElem_cons_succ, List.getElem_cons_zero, List.setIfInBounds_toArray, List.set_cons_zero, List.set_cons_succ])
      (refine Ls.val ?_ rfl (fun _ _ _ h => h) (by kernel_rfl) ?_ ?_; rotate_left 1; focus (intro w hw; go_simp; with_reducible rfl)); (try simp (config := {maxSteps := 2000000}) only [Act.put, List.getElem_toArray, List.getElem_cons_succ, List.getElem_cons_zero, List.setIfInBounds_toArray, List.set_cons_zero, List.set_cons_succ])
      (refine Ls.val ?_ rfl (fun _ _ _ h => h) (by kernel_rfl) ?_ ?_; rotate_left 1; focus (intro w hw; have hcell := hw.2.2; go_simp; with_reducible rfl)); (try simp (config := {maxSteps := 2000000}) only [Act.put, List.getElem_toArray, List.getElem_cons_succ, List.getElem_cons_zero, List.setIfInBounds_toArray, List.set_cons_zero, List.set_cons_succ])
      refine Ls.val (.int .i64 (up : Int)) rfl (fun _ _ _ h => h) (by kernel_rfl) (by intro w hw; go_simp; all_goals first | rfl | (rw [HW1.out]) | (simp only [HW1.out])) ?_; (try simp (config := {maxSteps := 2000000}) only [Act.put, List.getElem_toArray, List.getElem_cons_succ, List.getElem_cons_zero, List.setIfInBounds_toArray, List.set_cons_zero, List.set_cons_succ])
      refine Ls.val (.slice Ax nd (ct - p0)) rfl (fun _ _ _ h => h) (by kernel_rfl) (fun w hw => exec_slice rfl (by kernel_rfl) (.slice At mt ct) (.slice Ax nd (ct - p0)) (some (.int .i64 (p0 : Int))) (some (.int .i64 (up : Int))) none (by kernel_rfl) (by kernel_rfl) (by kernel_rfl) (by kernel_rfl) (hsl w)) ?_; (try simp (config := {maxSteps := 2000000}) only [Act.put, List.getElem_toArray, List.getElem_cons_succ, List.getElem_cons_zero, List.setIfInBounds_toArray, List.set_cons_zero, List.set_cons_succ])
      have hK21 := bdw hKq
      have hcf_21 := huf.drew
      have hlf_21 := (show _ < wu.drew.heap.size from hluf)
      have hca_21 := hua.drew
      have hla_21 := (show _ < wu.drew.heap.size from hlua)
      have hc0_21 := cdw hu0
      have hl0_21 := (show _ < wu.drew.heap.size from hlu0)
      generalize wu.drew = v21 at hK21 hcf_21 hlf_21 hca_21 hla_21 hc0_21 hl0_21 hOd hKd hcutd hwld ⊢
      clear hKq huf hluf hua hlua hu0 hlu0 hO' hK9 hbu hwl' hcut
      refine Ls.call rfl (by kernel_rfl) (by kernel_rfl) (fun _ => (rat_0 f sd Asd nd cd tree q 3 0 0 0 i (row R nd 0) Ax nd (ct - p0) nd v21 ht hq (W32.small (by decide) (by decide)) hiW (h1.bel hK21) hn1 hc1 hb1 hcutd hrl hcl (by omega) hrB (by rw [atL_nd HSZ.out, hn1])).mono ?_)
      rintro e v22 ⟨A22, c22, rfl, hF22, hh22, hb22⟩
      have hK22 := bnx hK21 hb22 hK21.size
      have hcf_22 := hcf_21.below hb22 hlf_21
      have hlf_22 := Nat.lt_of_lt_of_le hlf_21 hb22.size
      have hca_22 := hca_21.below hb22 hla_21
      have hla_22 := Nat.lt_of_lt_of_le hla_21 hb22.size
      have hc0_22 := cell_bel hc0_21 hb22 hl0_21
      have hl0_22 := Nat.lt_of_lt_of_le hl0_21 hb22.size
      have hK1 := kbl hKd hwld hb22
      have hO1 := hOd.below hb22 (Nat.le_refl _)
      have hz1 := hb22.size
      refine ⟨_, rfl, ⟨hcf_22, hca_22, hc0_22⟩, ?_⟩
      (try simp (config := {maxSteps := 2000000}) only [Act.put, List.getElem_toArray, List.getElem_cons_succ, List.getElem_cons_zero, List.setIfInBounds_toArray, List.set_cons_zero, List.set_cons_succ])
      clear hK21 hcf_21 hlf_21 hca_21 hla_21 hc0_21 hl0_21 hb22 hOd hKd
      (refine Ls.val ?_ rfl (fun _ _ _ h => h) (by kernel_rfl) ?_ ?_; rotate_left 1; focus (intro w hw; go_simp; with_reducible rfl)); (try simp (config := {maxSteps := 2000000}) only [Act.put, List.getElem_toArray, List.getElem_cons_succ, List.getElem_cons_zero, List.setIfInBounds_toArray, List.set_cons_zero, List.set_cons_succ])
      refine Ls.done ?_
      intro _
      go_wp2_with fail
      have hbv : Below v2.heap.size v2 v22 := by rw [HB.out]; exact hK1.below
      have hv0 := cell_bel hc0_2 hbv hl0_2
      have hv4 := cell_bel hc4_2 hbv hl4_2
      have hlv0 := Nat.lt_of_lt_of_le hl0_2 hbv.size
      have hlv4 := Nat.lt_of_lt_of_le hl4_2 hbv.size
      have hup2 : up = p0 + nd * (0 + 1) := by rw [Nat.zero_add, Nat.mul_one]; exact hup.symm
      have HUP := Lib.hid (And.intro hup hup2)
      have hS0 := hF22
      have hhS := hh22
      clear hup hup2 hF22 hh22 hbv
      go_loopg [16, 18, 19, 20] an (fun gk y z x g' wr => RClJ v2 B f.n sd tree q (standsS f.n sd tree q told bt nd an k) R Ao (nd * k) co nd p0 i an gk y z x g' wr)
      case atStart => exact ⟨0, _, _, rfl, rfl, by rw [Nat.pow_zero, Nat.div_one], by rw [← HUP.out.2, ← HUP.out.1]; first | rfl | (push_cast; rfl), Nat.zero_le _, rfl, hS0, hhS, hO1, hK1⟩
      case round =>
        clear hS0 hO1 hK1 hv0 hv4 hlv0 hlv4 hsl
        obtain ⟨wp, rfl⟩ : ∃ wp : World, wp = wr := ⟨_, rfl⟩
        obtain ⟨g, Ag, cg, rfl, rfl, rfl, rfl, hg, hgk, hX, hcg, hO3, hK3⟩ := hrel
        have HGG := Lib.hid hgk
        have hwl3 : B ≤ wp.heap.size := by have := hK3.size; have := HB.out; omega
        have hbw3 : Below v2.heap.size v2 wp := by rw [HB.out]; exact hK3.below
        clear hgk
        have hp4 := cell_bel hc4_2 hbw3 hl4_2
        have hpf := hcf_2.below hbw3 hlf_2
        have hp0 := cell_bel hc0_2 hbw3 hl0_2
        have hpa := hpb.below hbw3 hlp
        by_cases hlg : g < an
        · obtain ⟨G, hG⟩ : ∃ G, g + 1 = G := ⟨_, rfl⟩
          have hlgI : (G : Int) ≤ (an : Int) := by omega
          obtain ⟨y, hyy⟩ : ∃ y, i / 2 ^ g = y := ⟨_, rfl⟩
          have hil2 : y < 655360 := by rw [← hyy]; exact Nat.lt_of_le_of_lt (Nat.div_le_self _ _) hil
          obtain ⟨P1, hP1⟩ : ∃ x, p0 + nd * (g + 1) = x := ⟨_, rfl⟩
          have hP2 : p0 + nd * (g + 1 + 1) = P1 + nd := by rw [Nat.mul_add nd (g + 1) 1, Nat.mul_one, ← Nat.add_assoc, hP1]
          have hmulg : nd * (g + 1 + 1) ≤ ea := by rw [← HE.out, Nat.mul_comm]; exact Nat.mul_le_mul_right _ (by omega)
          have hPm : P1 + nd ≤ mt := by rw [← hP2]; omega
          have hrw := HROW.out.2 (g + 1) (by omega)
          rw [hP2, hP1, hG] at hrw
          obtain ⟨x, hx⟩ : ∃ x, climbL f.n sd tree q R nd i g = x := ⟨_, rfl⟩
          have hxl : x.length = nd := by rw [← hx, climbL_len HSZ.out, hn1]
          have hxB : Bys x := by rw [← hx]; exact climbL_B _ _ _ _ _ _ _ _
          rw [hx] at hX
          obtain ⟨r, hr⟩ : ∃ r, row R nd G = r := ⟨_, rfl⟩
          rw [hr] at hrw
          have hnx : climbL f.n sd tree q R nd i G = atL f.n sd tree q 3 (G : Int) (((y / 2 : Nat)) : Int) (if y % 2 = 1 then r ++ x else x ++ r) := by
            rw [← hG, climbL, hyy, hx, hG, hr]
            have e2 : (i : Int) / 2 ^ G = ((y / 2 : Nat) : Int) := by rw [← hyy, half_again, hG]; push_cast; rfl
            have e3 : (g : Int) + 1 = (G : Int) := by rw [← hG]; push_cast; rfl
            rw [e2, e3]
          have hyn : i / 2 ^ G = y / 2 := by rw [← hG, ← half_again, hyy]
          rw [hP1, hG, hyy]
          obtain ⟨up2, hu2⟩ : ∃ x, P1 + nd = x := ⟨_, rfl⟩
          rw [hu2] at hPm hrw hP2
          have hsl := cut_any At mt ct P1 up2 nd (by omega) (by omega) (by omega)
          obtain ⟨Ax2, hAx⟩ : ∃ x, (if ct = P1 then At else At.map (·.add P1)) = x := ⟨_, rfl⟩
          have hcut := (hrt.bel hbw3).cut P1 up2 ct (by omega) (by omega)
          rw [hAx] at hsl hcut
          rw [hrw] at hcut
          have hrl2 : r.length = nd := by rw [← hrw, List.length_drop, List.length_take, hmt, Nat.min_eq_left (by omega)]; omega
          have hrB2 : Bys r := by rw [← hrw]; exact (hbt.take _).drop _
          have hcl2 : nd ≤ ct - P1 := by omega
          have hsum : (P1 : Int) + (nd : Int) = (up2 : Int) := by omega
          have hGW : G ≤ 100 := by omega
          have hyW : W32 ((y / 2 : Nat) : Int) := ⟨by omega, by omega⟩
          have hhy : (y : Int) / 2 = ((y / 2 : Nat) : Int) := by push_cast; rfl
          have HG := Lib.hid (And.intro hG (And.intro hyn (And.intro hP2 hnx)))
          clear hG hyy hP1 hP2 hmulg hx hr hnx hyn hu2 hAx hrw
          have hOea := Own.lit (b := wp.heap.size) (e := 5) (k := .u8) wp [] (Nat.le_refl _) (Nat.zero_le _)
          have hKea := (Kept.refl wp.heap.size (fun _ => False) wp).alloc (.cells (U .u8 []) 5) (Nat.le_refl _)
          have hR1a := ((hX).below hKea.below).more (B' := (wp.alloc (.cells (U .u8 []) 5)).heap.size) hKea.size
          go_upto_region 18 with fail
          go_upto_region 19 with (first
            | (
                at_builtin
                refine wpList_app rfl (.tmp 105) (.tmp 106) 24 5 .u8 1 rfl Tryd.underlying24 inf_u8 hO1a hR2a rfl rfl hrl2 (x ++ r) rfl (nd + nd) (by rw [List.length_append, hxl, hrl2]) (by omega) (by omega) hs1a ?_
                intro Aca cca wca hOca hgca hfca)
            | (
                at_builtin
                refine wpList_app rfl (.tmp 103) (.tmp 104) 24 5 .u8 1 rfl Tryd.underlying24 inf_u8 hOea hR1a rfl rfl hxl x rfl nd hxl (by omega) (by omega) (by simp) ?_
                intro Aba cba wba hO1a hgba hfba
                have K1a := hKea.grew hOea hgba (Nat.le_refl _) (by simp)
                have hR2a := ((hcut).below K1a.below).more (B' := wba.heap.size) (Nat.le_trans hKea.size hgba.size)
                have hs1a : wp.heap.size ≤ wba.heap.size := Nat.le_trans hKea.size hgba.size))
          have K2a := K1a.grew hO1a hgca (Nat.le_refl _) hs1a
          have hbz := K2a.below
          have hKz := kbl hK3 hwl3 hbz
          have hO3z := hO3.below hbz (Nat.le_refl _)
          have hwlz : B ≤ wca.heap.size := by have := hbz.size; omega
          have hbw4 : Below v2.heap.size v2 wca := by rw [HB.out]; exact hKz.below
          have hzf := hcf_2.below hbw4 hlf_2
          have hz0 := cell_bel hc0_2 hbw4 hl0_2
          have hza := hpb.below hbw4 hlp
          have hXz := hX.bel hbz
          have hcz := hcut.bel hbz
          have hTr := hOca.rd
          have hTc := hOca.len.2
          rw [List.length_append, hxl, hrl2] at hTc
          clear hOea hKea hR1a hO1a hgba hfba K1a hR2a hs1a hgca hfca K2a hO3 hK3 hbw3 hp4 hpf hp0 hpa hX hcut hOca hsl
          by_cases hy : y % 2 = 1
          · have hyI : (((y : Int) % 2) == 1) = true := beq_iff_eq.2 (by omega)
            have hOeb := Own.lit (b := wca.heap.size) (e := 5) (k := .u8) wca [] (Nat.le_refl _) (Nat.zero_le _)
            have hKeb := (Kept.refl wca.heap.size (fun _ => False) wca).alloc (.cells (U .u8 []) 5) (Nat.le_refl _)
            have hR1b := ((hcz).below hKeb.below).more (B' := (wca.alloc (.cells (U .u8 []) 5)).heap.size) hKeb.size
            go_upto_region 21 with (first
            | (
                at_builtin
                refine wpList_app rfl (.tmp 113) (.tmp 114) 24 5 .u8 1 rfl Tryd.underlying24 inf_u8 hO1b hR2b rfl rfl hxl (r ++ x) rfl (nd + nd) (by rw [List.length_append, hrl2, hxl]) (by omega) (by omega) hs1b ?_
                intro Acb ccb wcb hOcb hgcb hfcb)
            | (
                at_builtin
                refine wpList_app rfl (.tmp 111) (.tmp 112) 24 5 .u8 1 rfl Tryd.underlying24 inf_u8 hOeb hR1b rfl rfl hrl2 r rfl nd hrl2 (by omega) (by omega) (by simp) ?_
                intro Abb cbb wbb hO1b hgbb hfbb
                have K1b := hKeb.grew hOeb hgbb (Nat.le_refl _) (by simp)
                have hR2b := ((hXz).below K1b.below).more (B' := wbb.heap.size) (Nat.le_trans hKeb.size hgbb.size)
                have hs1b : wca.heap.size ≤ wbb.heap.size := Nat.le_trans hKeb.size hgbb.size))
            have K2b := K1b.grew hO1b hgcb (Nat.le_refl _) hs1b
            have hby := K2b.below
            have hKy := kbl hKz hwlz hby
            have hO3y := hO3z.below hby (Nat.le_refl _)
            have hwly : B ≤ wcb.heap.size := by have := hby.size; omega
            have hbw5 : Below v2.heap.size v2 wcb := by rw [HB.out]; exact hKy.below
            have hyf := hcf_2.below hbw5 hlf_2
            have hy0 := cell_bel hc0_2 hbw5 hl0_2
            have hya := hpb.below hbw5 hlp
            have hTr2 := hOcb.rd
            have hTc2 := hOcb.len.2
            rw [List.length_append, hxl, hrl2] at hTc2
            have hM2 : (atL f.n sd tree q 3 (G : Int) ((y : Int) / 2) (r ++ x)).length = nd := by rw [atL_nd HSZ.out, hn1]
            have hcg2 : atL f.n sd tree q 3 (G : Int) ((y : Int) / 2) (r ++ x) = climbL f.n sd tree q R nd i (g + 1) := by rw [HG.out.1, HG.out.2.2.2, if_pos hy, hhy]
            have HC := Lib.hid (And.intro hcg2 hhy)
            have hyW2 : W32 ((y : Int) / 2) := by rw [hhy]; exact hyW
            clear hOeb hKeb hR1b hO1b hgbb hfbb K1b hR2b hs1b hgcb hfcb K2b hO3z hKz hbw4 hzf hz0 hza hXz hcz hOcb hTr hTc hcg2 hhy hy hyI
            go_wp2_with (first | (refine wpList_blk_yes (t := 23) (T := 23) (by rfl) rfl rfl Tryd.underlying23 rfl (by kernel_rfl) hyf ?_) | (refine wpList_blk_yes (t := 46) (T := 46) (by rfl) rfl rfl Tryd.underlying46 rfl (by kernel_rfl) hya ?_))
            (with_reducible refine (rat_any f sd Asd nd cd tree q 3 0 0 0 ((y : Int) / 2) G (r ++ x) _ (nd + nd) _ nd wcb ht hq (W32.small (by decide) (by decide)) hGW hyW2 (hr1.bel hbw5) hn1 hc1 hb1 hTr2 (by rw [List.length_append, hrl2, hxl]) hTc2 (by omega) (hrB2.append hxB) hM2).mono ?_)
            rintro e w9 ⟨A9, c9, rfl, hR9, hh9, hb9⟩
            rw [HC.out.1] at hR9
            have hK10 := kbl hKy hwly hb9
            have hO10 := hO3y.below hb9 (Nat.le_refl _)
            clear hb9 hO3y hKy hbw5 hyf hy0 hya hTr2
            go_wp2_with fail
            go_roundg (an - (g + 1))
            case measure => have := HGG.out; omega
            case rel => exact ⟨g + 1, A9, c9, rfl, by rw [HG.out.1]; first | rfl | go_num | (push_cast; rfl), by rw [HG.out.1, HG.out.2.1]; first | rw [HC.out.2] | rfl | (push_cast; rfl), by rw [HG.out.2.2.1], by omega, rfl, hR9, hh9, hO10, hK10⟩
          · have hyI : (((y : Int) % 2) == 1) = false := beq_eq_false_iff_ne.2 (by omega)
            have hM2 : (atL f.n sd tree q 3 (G : Int) ((y : Int) / 2) (x ++ r)).length = nd := by rw [atL_nd HSZ.out, hn1]
            have hcg2 : atL f.n sd tree q 3 (G : Int) ((y : Int) / 2) (x ++ r) = climbL f.n sd tree q R nd i (g + 1) := by rw [HG.out.1, HG.out.2.2.2, if_neg hy, hhy]
            have HC := Lib.hid (And.intro hcg2 hhy)
            have hyW2 : W32 ((y : Int) / 2) := by rw [hhy]; exact hyW
            clear hcg2 hhy hy hXz hcz
            go_upto_region 21 with fail
            clear hyI
            go_wp2_with (first | (refine wpList_blk_yes (t := 23) (T := 23) (by rfl) rfl rfl Tryd.underlying23 rfl (by kernel_rfl) hzf ?_) | (refine wpList_blk_yes (t := 46) (T := 46) (by rfl) rfl rfl Tryd.underlying46 rfl (by kernel_rfl) hza ?_))
            (with_reducible refine (rat_any f sd Asd nd cd tree q 3 0 0 0 ((y : Int) / 2) G (x ++ r) _ (nd + nd) _ nd wca ht hq (W32.small (by decide) (by decide)) hGW hyW2 (hr1.bel hbw4) hn1 hc1 hb1 hTr (by rw [List.length_append, hrl2, hxl]) hTc (by omega) (hxB.append hrB2) hM2).mono ?_)
            rintro e w9 ⟨A9, c9, rfl, hR9, hh9, hb9⟩
            rw [HC.out.1] at hR9
            have hK10 := kbl hKz hwlz hb9
            have hO10 := hO3z.below hb9 (Nat.le_refl _)
            clear hb9 hO3z hKz hbw4 hzf hz0 hza hTr
            go_wp2_with fail
            go_roundg (an - (g + 1))
            case measure => have := HGG.out; omega
            case rel => exact ⟨g + 1, A9, c9, rfl, by rw [HG.out.1]; first | rfl | go_num | (push_cast; rfl), by rw [HG.out.1, HG.out.2.1]; first | rw [HC.out.2] | rfl | (push_cast; rfl), by rw [HG.out.2.2.1], by omega, rfl, hR9, hh9, hO10, hK10⟩
        · obtain rfl : g = an := by omega
          have hlgI : ¬ ((g + 1 : Nat) : Int) ≤ (g : Int) := by omega
          have hcl := climbL_len HSZ.out tree q R nd i g
          rw [hn1] at hcl
          have hLn : (standsS f.n sd tree q told bt nd g (k + 1)).length = nd * (k + 1) := by rw [standsS_len HSZ.out, hn1]
          have hmul : nd * (k + 1) ≤ 1280 := Nat.le_trans (Nat.mul_le_mul hn32 (show k + 1 ≤ 40 by omega)) (by decide)
          have hpn : p0 + nd * (g + 1) = (k + 1) * ea := by rw [Nat.succ_mul, HP0.out, Nat.mul_comm nd, HE.out]
          have HL := Lib.hid (And.intro hLn (And.intro hmul hpn))
          have hwn : B ≤ wp.heap.size := hwl3
          clear hLn hmul hpn hbw3
          go_wp2_with (at_builtin; refine wpList_app rfl (.tmp 125) (.tmp 126) 24 5 .u8 1 rfl Tryd.underlying24 inf_u8 hO3 hX rfl rfl hcl _ HROW.out.1.symm (nd * (k + 1)) HL.out.1 (by have := HL.out.2.1; omega) (by have := HL.out.2.1; omega) hwn ?_; intro A2 c2 w2 hO2 hg2 hf2)
          have hK2 := hK3.grew hO3 hg2 (Nat.le_refl _) hwn
          go_roundg (kn - (k + 1))
          case measure => have := HGK.out; omega
          case rel => exact ⟨k + 1, A2, c2, rfl, by go_num, by rw [← HL.out.2.2]; first | rfl | (push_cast; rfl), by omega, rfl, hO2, hK2⟩
    · have hltI : ¬ (k : Int) < (kn : Int) := by omega
      obtain rfl : k = kn := by omega
      have hqf := hcf_2.below hbw hlf_2
      have hqa := hpb.below hbw hlp
      have hq3 := cell_bel hc3_2 hbw hl3_2
      have hKq := bnx hK2 hbw hK2.size
      have hRt := hO.rd
      have hcT := hO.len.2
      have hLn : (standsS f.n sd tree q told bt nd an k).length = nd * k := by rw [standsS_len HSZ.out, hn1]
      have hmul : nd * k ≤ 1280 := Nat.le_trans (Nat.mul_le_mul hn32 hk40) (by decide)
      rw [hLn] at hcT
      have hMM : (atL f.n sd tree q 4 0 0 (standsS f.n sd tree q told bt nd an k)).length = nd := by rw [atL_nd HSZ.out, hn1]
      obtain ⟨nT, hnT⟩ : ∃ q, nd * k = q := ⟨_, rfl⟩
      rw [hnT] at hcT hLn hmul ⊢
      clear hO hK' hnT
      go_wp2_with (first | (refine wpList_blk_yes (t := 23) (T := 23) (by rfl) rfl rfl Tryd.underlying23 rfl (by kernel_rfl) hqf ?_) | (refine wpList_blk_yes (t := 46) (T := 46) (by rfl) rfl rfl Tryd.underlying46 rfl (by kernel_rfl) hqa ?_))
      (with_reducible refine (rat_0 f sd Asd nd cd tree q 4 0 0 0 0 (standsS f.n sd tree q told bt nd an k) Ao nT co nd wq ht hq (W32.small (by decide) (by decide)) W32.z (h1.bel hKq) hn1 hc1 hb1 hRt hLn hcT (by omega) (standsS_B _ _ _ _ _ _ _ _ _) hMM).mono ?_)
      rintro e w3 ⟨A3, c3, rfl, hR3, hh3, hb3⟩
      have hK3 := bnx hKq hb3 hKq.size
      go_wp2_with fail
      go_ret
      exact ⟨_, _, rfl, hR3, hh3, hK3⟩
end Go.Proofs.YtfaonieaagepjaaDoor
