/- Layer 17: one contract for each function, whatever comes in. Conditions: small lengths, words of their kinds, the tables. -/
import Derived.Test.YtfaonieaagepjaaDoorF7S
namespace Go.Proofs.YtfaonieaagepjaaDoor
open Go.RowKit
set_option linter.unusedVariables false
set_option linter.unusedSimpArgs false
set_option maxRecDepth 100000 in
theorem whole_non (f : Fw) (hf : f.ok) (Asc Asl Asd : Option Addr) (nsc csc nsl csl nd cd : Nat) (tree q : Int) (w : World) (hno : ¬ f.made nsc nsl nd) :
    Calls Tryd.prog 24 #[.agg f.cs, .agg #[.slice Asc nsc csc, .slice Asl nsl csl, .slice Asd nd cd], .int .u64 tree, .int .u32 q] w (NilP w) := by
  have hF := (Blk.new w 23 f.cs).alloc (.cells #[.slice Asc nsc csc, .slice Asl nsl csl, .slice Asd nd cd] 39)
  have hM := Blk.new (w.alloc (.cells f.cs 23)) 39 #[.slice Asc nsc csc, .slice Asl nsl csl, .slice Asd nd cd]
  have hK := bal (bal (Below.refl w.heap.size w) (Nat.le_refl _) (.cells f.cs 23)) (by simp) (.cells #[.slice Asc nsc csc, .slice Asl nsl csl, .slice Asd nd cd] 39)
  have hz : (w.alloc (.cells f.cs 23)).heap.size = w.heap.size + 1 := by simp
  have hmx : (200000000 : Nat) ≤ maxLen := by decide
  go_enter Tryd.func24, Tryd.ntmps24
  go_upto_region 1 with fail
  change Code.wp _ _ _ _ ((w.alloc (.cells f.cs 23)).alloc (.cells #[.slice Asc nsc csc, .slice Asl nsl csl, .slice Asd nd cd] 39))
  generalize (w.alloc (.cells f.cs 23)).alloc (.cells #[.slice Asc nsc csc, .slice Asl nsl csl, .slice Asd nd cd] 39) = w0 at hF hM hK ⊢
  rw [hz] at hM
  clear hz
  have h3 := hF.cell 3 (.int .i64 f.k) rfl
  have h4 := hF.cell 4 (.int .i64 f.a) rfl
  have hlf := hF.lt
  have hlf3 := hlf
  have hlf4 := hlf
  have m2 := hM.cell 2 (.slice Asd nd cd) rfl
  have hlm := hM.lt
  have hlm2 := hlm
  go_wp2_with (first | (refine wpList_blk_yes (t := 23) (T := 23) (by rfl) rfl rfl Tryd.underlying23 rfl (by kernel_rfl) hF ?_) | (refine wpList_blk_yes (t := 39) (T := 39) (by rfl) rfl rfl Tryd.underlying39 rfl (by kernel_rfl) hM ?_))
  (with_reducible refine (made_no f Asc Asl Asd nsc csc nsl csl nd cd w0 hf hno).mono ?_)
  rintro e v1 ⟨rfl, hb1⟩
  have hK1 := bnx hK hb1 hK.size
  have hcf_1 := hF.below hb1 hlf
  have hlf_1 := Nat.lt_of_lt_of_le hlf hb1.size
  have hcm_1 := hM.below hb1 hlm
  have hlm_1 := Nat.lt_of_lt_of_le hlm hb1.size
  have hc3_1 := cell_bel h3 hb1 hlf3
  have hl3_1 := Nat.lt_of_lt_of_le hlf3 hb1.size
  have hc4_1 := cell_bel h4 hb1 hlf4
  have hl4_1 := Nat.lt_of_lt_of_le hlf4 hb1.size
  have hc2_1 := cell_bel m2 hb1 hlm2
  have hl2_1 := Nat.lt_of_lt_of_le hlm2 hb1.size
  clear hK hF hlf hM hlm h3 hlf3 h4 hlf4 m2 hlm2 hb1
  go_wp2_with fail
  go_ret
  exact ⟨rfl, hK1⟩
set_option maxRecDepth 100000 in
theorem rwhole_non (f : Fw) (hf : f.ok) (Asc Asl Asd : Option Addr) (nsc csc nsl csl nd cd : Nat) (tree q : Int) (w : World) (hno : ¬ f.made nsc nsl nd) :
    Calls Tryd.prog 25 #[.agg f.cs, .agg #[.slice Asc nsc csc, .slice Asl nsl csl, .slice Asd nd cd], .int .u64 tree, .int .u32 q] w (NilP w) := by
  have hF := (Blk.new w 23 f.cs).alloc (.cells #[.slice Asc nsc csc, .slice Asl nsl csl, .slice Asd nd cd] 39)
  have hM := Blk.new (w.alloc (.cells f.cs 23)) 39 #[.slice Asc nsc csc, .slice Asl nsl csl, .slice Asd nd cd]
  have hK := bal (bal (Below.refl w.heap.size w) (Nat.le_refl _) (.cells f.cs 23)) (by simp) (.cells #[.slice Asc nsc csc, .slice Asl nsl csl, .slice Asd nd cd] 39)
  have hz : (w.alloc (.cells f.cs 23)).heap.size = w.heap.size + 1 := by simp
  have hmx : (200000000 : Nat) ≤ maxLen := by decide
  go_enter Tryd.func25, Tryd.ntmps25
  go_upto_region 1 with fail
  change Code.wp _ _ _ _ ((w.alloc (.cells f.cs 23)).alloc (.cells #[.slice Asc nsc csc, .slice Asl nsl csl, .slice Asd nd cd] 39))
  generalize (w.alloc (.cells f.cs 23)).alloc (.cells #[.slice Asc nsc csc, .slice Asl nsl csl, .slice Asd nd cd] 39) = w0 at hF hM hK ⊢
  rw [hz] at hM
  clear hz
  have h3 := hF.cell 3 (.int .i64 f.k) rfl
  have h4 := hF.cell 4 (.int .i64 f.a) rfl
  have hlf := hF.lt
  have hlf3 := hlf
  have hlf4 := hlf
  have m2 := hM.cell 2 (.slice Asd nd cd) rfl
  have hlm := hM.lt
  have hlm2 := hlm
  go_wp2_with (first | (refine wpList_blk_yes (t := 23) (T := 23) (by rfl) rfl rfl Tryd.underlying23 rfl (by kernel_rfl) hF ?_) | (refine wpList_blk_yes (t := 39) (T := 39) (by rfl) rfl rfl Tryd.underlying39 rfl (by kernel_rfl) hM ?_))
  (with_reducible refine (rmade_no f Asc Asl Asd nsc csc nsl csl nd cd w0 hf hno).mono ?_)
  rintro e v1 ⟨rfl, hb1⟩
  have hK1 := bnx hK hb1 hK.size
  have hcf_1 := hF.below hb1 hlf
  have hlf_1 := Nat.lt_of_lt_of_le hlf hb1.size
  have hcm_1 := hM.below hb1 hlm
  have hlm_1 := Nat.lt_of_lt_of_le hlm hb1.size
  have hc3_1 := cell_bel h3 hb1 hlf3
  have hl3_1 := Nat.lt_of_lt_of_le hlf3 hb1.size
  have hc4_1 := cell_bel h4 hb1 hlf4
  have hl4_1 := Nat.lt_of_lt_of_le hlf4 hb1.size
  have hc2_1 := cell_bel m2 hb1 hlm2
  have hl2_1 := Nat.lt_of_lt_of_le hlm2 hb1.size
  clear hK hF hlf hM hlm h3 hlf3 h4 hlf4 m2 hlm2 hb1
  go_wp2_with fail
  go_ret
  exact ⟨rfl, hK1⟩
set_option maxRecDepth 100000 in
theorem tell_non (f : Fw) (hf : f.ok) (Asc Asl Asd Ab : Option Addr) (nsc csc nsl csl nd cd L cb : Nat) (tree q : Int) (w : World) (hno : ¬ f.made nsc nsl nd) :
    Calls Tryd.prog 26 #[.agg f.cs, .agg #[.slice Asc nsc csc, .slice Asl nsl csl, .slice Asd nd cd], .int .u64 tree, .int .u32 q, .slice Ab L cb] w (NilP w) := by
  have hF := (Blk.new w 23 f.cs).alloc (.cells #[.slice Asc nsc csc, .slice Asl nsl csl, .slice Asd nd cd] 39)
  have hM := Blk.new (w.alloc (.cells f.cs 23)) 39 #[.slice Asc nsc csc, .slice Asl nsl csl, .slice Asd nd cd]
  have hK := bal (bal (Below.refl w.heap.size w) (Nat.le_refl _) (.cells f.cs 23)) (by simp) (.cells #[.slice Asc nsc csc, .slice Asl nsl csl, .slice Asd nd cd] 39)
  have hz : (w.alloc (.cells f.cs 23)).heap.size = w.heap.size + 1 := by simp
  have hmx : (200000000 : Nat) ≤ maxLen := by decide
  go_enter Tryd.func26, Tryd.ntmps26
  go_upto_region 1 with fail
  change Code.wp _ _ _ _ ((w.alloc (.cells f.cs 23)).alloc (.cells #[.slice Asc nsc csc, .slice Asl nsl csl, .slice Asd nd cd] 39))
  generalize (w.alloc (.cells f.cs 23)).alloc (.cells #[.slice Asc nsc csc, .slice Asl nsl csl, .slice Asd nd cd] 39) = w0 at hF hM hK ⊢
  rw [hz] at hM
  clear hz
  have h3 := hF.cell 3 (.int .i64 f.k) rfl
  have h4 := hF.cell 4 (.int .i64 f.a) rfl
  have hlf := hF.lt
  have hlf3 := hlf
  have hlf4 := hlf
  have m2 := hM.cell 2 (.slice Asd nd cd) rfl
  have hlm := hM.lt
  have hlm2 := hlm
  go_wp2_with (first | (refine wpList_blk_yes (t := 23) (T := 23) (by rfl) rfl rfl Tryd.underlying23 rfl (by kernel_rfl) hF ?_) | (refine wpList_blk_yes (t := 39) (T := 39) (by rfl) rfl rfl Tryd.underlying39 rfl (by kernel_rfl) hM ?_))
  (with_reducible refine (made_no f Asc Asl Asd nsc csc nsl csl nd cd w0 hf hno).mono ?_)
  rintro e v1 ⟨rfl, hb1⟩
  have hK1 := bnx hK hb1 hK.size
  have hcf_1 := hF.below hb1 hlf
  have hlf_1 := Nat.lt_of_lt_of_le hlf hb1.size
  have hcm_1 := hM.below hb1 hlm
  have hlm_1 := Nat.lt_of_lt_of_le hlm hb1.size
  have hc3_1 := cell_bel h3 hb1 hlf3
  have hl3_1 := Nat.lt_of_lt_of_le hlf3 hb1.size
  have hc4_1 := cell_bel h4 hb1 hlf4
  have hl4_1 := Nat.lt_of_lt_of_le hlf4 hb1.size
  have hc2_1 := cell_bel m2 hb1 hlm2
  have hl2_1 := Nat.lt_of_lt_of_le hlm2 hb1.size
  clear hK hF hlf hM hlm h3 hlf3 h4 hlf4 m2 hlm2 hb1
  go_wp2_with fail
  go_ret
  exact ⟨rfl, hK1⟩
set_option maxRecDepth 100000 in
theorem rtell_non (f : Fw) (hf : f.ok) (Asc Asl Asd Ab : Option Addr) (nsc csc nsl csl nd cd L cb : Nat) (tree q : Int) (w : World) (hno : ¬ f.made nsc nsl nd) :
    Calls Tryd.prog 27 #[.agg f.cs, .agg #[.slice Asc nsc csc, .slice Asl nsl csl, .slice Asd nd cd], .int .u64 tree, .int .u32 q, .slice Ab L cb] w (NilP w) := by
  have hF := (Blk.new w 23 f.cs).alloc (.cells #[.slice Asc nsc csc, .slice Asl nsl csl, .slice Asd nd cd] 39)
  have hM := Blk.new (w.alloc (.cells f.cs 23)) 39 #[.slice Asc nsc csc, .slice Asl nsl csl, .slice Asd nd cd]
  have hK := bal (bal (Below.refl w.heap.size w) (Nat.le_refl _) (.cells f.cs 23)) (by simp) (.cells #[.slice Asc nsc csc, .slice Asl nsl csl, .slice Asd nd cd] 39)
  have hz : (w.alloc (.cells f.cs 23)).heap.size = w.heap.size + 1 := by simp
  have hmx : (200000000 : Nat) ≤ maxLen := by decide
  go_enter Tryd.func27, Tryd.ntmps27
  go_upto_region 1 with fail
  change Code.wp _ _ _ _ ((w.alloc (.cells f.cs 23)).alloc (.cells #[.slice Asc nsc csc, .slice Asl nsl csl, .slice Asd nd cd] 39))
  generalize (w.alloc (.cells f.cs 23)).alloc (.cells #[.slice Asc nsc csc, .slice Asl nsl csl, .slice Asd nd cd] 39) = w0 at hF hM hK ⊢
  rw [hz] at hM
  clear hz
  have h3 := hF.cell 3 (.int .i64 f.k) rfl
  have h4 := hF.cell 4 (.int .i64 f.a) rfl
  have hlf := hF.lt
  have hlf3 := hlf
  have hlf4 := hlf
  have m0 := hM.cell 0 (.slice Asc nsc csc) rfl
  have m2 := hM.cell 2 (.slice Asd nd cd) rfl
  have hlm := hM.lt
  have hlm0 := hlm
  have hlm2 := hlm
  go_wp2_with (first | (refine wpList_blk_yes (t := 23) (T := 23) (by rfl) rfl rfl Tryd.underlying23 rfl (by kernel_rfl) hF ?_) | (refine wpList_blk_yes (t := 39) (T := 39) (by rfl) rfl rfl Tryd.underlying39 rfl (by kernel_rfl) hM ?_))
  (with_reducible refine (rmade_no f Asc Asl Asd nsc csc nsl csl nd cd w0 hf hno).mono ?_)
  rintro e v1 ⟨rfl, hb1⟩
  have hK1 := bnx hK hb1 hK.size
  have hcf_1 := hF.below hb1 hlf
  have hlf_1 := Nat.lt_of_lt_of_le hlf hb1.size
  have hcm_1 := hM.below hb1 hlm
  have hlm_1 := Nat.lt_of_lt_of_le hlm hb1.size
  have hc3_1 := cell_bel h3 hb1 hlf3
  have hl3_1 := Nat.lt_of_lt_of_le hlf3 hb1.size
  have hc4_1 := cell_bel h4 hb1 hlf4
  have hl4_1 := Nat.lt_of_lt_of_le hlf4 hb1.size
  have hc0_1 := cell_bel m0 hb1 hlm0
  have hl0_1 := Nat.lt_of_lt_of_le hlm0 hb1.size
  have hc2_1 := cell_bel m2 hb1 hlm2
  have hl2_1 := Nat.lt_of_lt_of_le hlm2 hb1.size
  clear hK hF hlf hM hlm h3 hlf3 h4 hlf4 m0 hlm0 m2 hlm2 hb1
  go_wp2_with fail
  go_ret
  exact ⟨rfl, hK1⟩
open Classical in
noncomputable def mayV (f : Fw) : Bool := decide f.may
open Classical in
noncomputable def madeV (f : Fw) (nsc nsl nd : Nat) : Bool := decide (f.made nsc nsl nd)
open Classical in
noncomputable def digO (f : Fw) (b : List Int) : List Int := if f.may ∧ ¬ 8 * b.length < f.k.toNat * f.a.toNat then digsL b f.a.toNat f.k.toNat else []
open Classical in
noncomputable def wholeO (f : Fw) (nsl : Nat) (sd sec : List Int) (tree q : Int) : List Int := if f.made sec.length nsl sd.length then wholeL f.n sd sec tree q f.a.toNat f.k.toNat else []
open Classical in
noncomputable def tellO (f : Fw) (nsl : Nat) (sd sec : List Int) (tree q : Int) (b : List Int) : List Int := if f.made sec.length nsl sd.length ∧ ¬ 8 * b.length < f.k.toNat * f.a.toNat then tellS f.n sd sec tree q b f.a.toNat f.k.toNat else []
open Classical in
noncomputable def standsO (f : Fw) (sd : List Int) (tree q : Int) (b told : List Int) : List Int :=
  if (f.may ∧ ¬ 8 * b.length < f.k.toNat * f.a.toNat) ∧ f.n = sd.length ∧ told.length = f.k.toNat * ((f.a.toNat + 1) * sd.length) then standsL f.n sd tree q told b sd.length f.a.toNat f.k.toNat else []
theorem Fw.may.nk {f : Fw} (h : f.may) : f.k = (f.k.toNat : Nat) := by have := h.k; omega
theorem Fw.may.na {f : Fw} (h : f.may) : f.a = (f.a.toNat : Nat) := by have := h.a; omega
theorem Fw.may.nn {f : Fw} (h : f.may) : f.n = (f.n.toNat : Nat) := by have := h.n; omega
theorem OutW.nil {w : World} {e : Ending} {w' : World} {L : List Int} {n : Nat} (h : NilP w e w') (hL : L = []) (hn : L.length = n) : OutW w L n e w' := by
  subst hL hn
  exact ⟨none, 0, h.1, Rd.nil, Nat.le_refl _, h.2⟩
theorem OutR.nil {w : World} {e : Ending} {w' : World} {L : List Int} {n : Nat} (h : NilP w e w') (hL : L = []) (hn : L.length = n) : OutR w L n e w' := by
  subst hL hn
  exact ⟨none, 0, h.1, Rd.nil, Nat.le_refl _, h.2⟩
theorem may_o (f : Fw) (w : World) (hf : f.ok) : Calls Tryd.prog 19 #[.agg f.cs] w fun e w' => e = .returned (.bool (mayV f)) ∧ Below w.heap.size w w' := by
  by_cases h : f.may
  · rw [show mayV f = true from by simp [mayV, madeV, h]]; exact may_yes f w hf h
  · rw [show mayV f = false from by simp [mayV, madeV, h]]; exact may_no f w hf h
theorem made_o (f : Fw) (Asc Asl Asd : Option Addr) (nsc csc nsl csl nd cd : Nat) (w : World) (hf : f.ok) : Calls Tryd.prog 20 #[.agg f.cs, .agg #[.slice Asc nsc csc, .slice Asl nsl csl, .slice Asd nd cd]] w fun e w' => e = .returned (.bool (madeV f nsc nsl nd)) ∧ Below w.heap.size w w' := by
  by_cases h : f.made nsc nsl nd
  · rw [show madeV f nsc nsl nd = true from by simp [mayV, madeV, h]]; exact made_yes f Asc Asl Asd nsc csc nsl csl nd cd w hf h
  · rw [show madeV f nsc nsl nd = false from by simp [mayV, madeV, h]]; exact made_no f Asc Asl Asd nsc csc nsl csl nd cd w hf h
theorem digits_o (f : Fw) (b : List Int) (A : Option Addr) (L c n : Nat) (w : World) (hf : f.ok) (hr : Rd w w.heap.size .u8 A b) (hL0 : b.length = L) (hLc : L ≤ c) (hL : L ≤ 100000) (hb : Bys b) (hn : (digO f b).length = n) :
    Calls Tryd.prog 16 #[.agg f.cs, .slice A L c] w (OutW w (digO f b) n) := by
  by_cases hm : f.may
  · by_cases hs : 8 * L < f.k.toNat * f.a.toNat
    · exact (digits_short f _ _ hm.nk hm.na A L c w hf hm hL hs).mono fun e w' h => OutW.nil h (if_neg (fun hh => hh.2 (by rw [hL0]; exact hs))) hn
    · have e1 : digO f b = digsL b f.a.toNat f.k.toNat := if_pos ⟨hm, by rw [hL0]; exact hs⟩
      rw [e1] at hn ⊢
      rw [digsL_len] at hn
      subst hn
      exact digits_any f _ _ hm.nk hm.na b A L c w hf hm hr hL0 hLc hL hs hb
  · exact (digits_may f A L c w hf hm).mono fun e w' h => OutW.nil h (if_neg (fun hh => hm hh.1)) hn
theorem whole_o (f : Fw) (sec sd : List Int) (Asc Asl Asd : Option Addr) (nsc csc nsl csl nd cd M : Nat) (tree q : Int) (w : World) (hf : f.ok) (ht : U64 tree) (hq : W32 q) (h1 : Rd w w.heap.size .u8 Asd sd) (hn1 : sd.length = nd) (hc1 : nd ≤ cd) (hb1 : Bys sd) (hsec : Rd w w.heap.size .u8 Asc sec) (hnsc : sec.length = nsc) (hcsc : nsc ≤ csc) (hbsc : Bys sec) (hT : KTab w) (hM : (wholeO f nsl sd sec tree q).length = M) :
    Calls Tryd.prog 24 #[.agg f.cs, .agg #[.slice Asc nsc csc, .slice Asl nsl csl, .slice Asd nd cd], .int .u64 tree, .int .u32 q] w (OutR w (wholeO f nsl sd sec tree q) M) := by
  by_cases hm : f.made nsc nsl nd
  · have e1 : wholeO f nsl sd sec tree q = wholeL f.n sd sec tree q f.a.toNat f.k.toNat := if_pos (by rw [hnsc, hn1]; exact hm)
    rw [e1] at hM ⊢
    obtain rfl : nd = M := by rw [← hM]; unfold wholeL; rw [atL_nd (hm.szd hn1), hn1]
    exact whole_any f _ _ hm.may.nk hm.may.na hf sec sd Asc Asl Asd nsc csc nsl csl nd cd tree q w ht hq hm h1 hn1 hc1 hb1 hsec hnsc hcsc hbsc hT
  · exact (whole_non f hf Asc Asl Asd nsc csc nsl csl nd cd tree q w hm).mono fun e w' h => OutR.nil h (if_neg (by rw [hnsc, hn1]; exact hm)) hM
theorem tell_o (f : Fw) (sec sd bt : List Int) (Asc Asl Asd Ab : Option Addr) (nsc csc nsl csl nd cd L cb M : Nat) (tree q : Int) (w : World) (hf : f.ok) (ht : U64 tree) (hq : W32 q) (h1 : Rd w w.heap.size .u8 Asd sd) (hn1 : sd.length = nd) (hc1 : nd ≤ cd) (hb1 : Bys sd) (hsec : Rd w w.heap.size .u8 Asc sec) (hnsc : sec.length = nsc) (hcsc : nsc ≤ csc) (hbsc : Bys sec) (hrb : Rd w w.heap.size .u8 Ab bt) (hLb : bt.length = L) (hLc : L ≤ cb) (hL : L ≤ 100000) (hbb : Bys bt) (hT : KTab w) (hM : (tellO f nsl sd sec tree q bt).length = M) :
    Calls Tryd.prog 26 #[.agg f.cs, .agg #[.slice Asc nsc csc, .slice Asl nsl csl, .slice Asd nd cd], .int .u64 tree, .int .u32 q, .slice Ab L cb] w (OutR w (tellO f nsl sd sec tree q bt) M) := by
  by_cases hm : f.made nsc nsl nd
  · by_cases hs : 8 * L < f.k.toNat * f.a.toNat
    · exact (tell_short f _ _ hm.may.nk hm.may.na hf Asc Asl Asd Ab nsc csc nsl csl nd cd L cb tree q w hm hL hs).mono fun e w' h => OutR.nil h (if_neg (fun hh => hh.2 (by rw [hLb]; exact hs))) hM
    · have e1 : tellO f nsl sd sec tree q bt = tellS f.n sd sec tree q bt f.a.toNat f.k.toNat := if_pos ⟨by rw [hnsc, hn1]; exact hm, by rw [hLb]; exact hs⟩
      rw [e1] at hM ⊢
      rw [tellS_len (hm.szd hn1), hn1] at hM
      subst hM
      exact tell_any f _ _ hm.may.nk hm.may.na hf sec sd bt Asc Asl Asd Ab nsc csc nsl csl nd cd L cb tree q w ht hq hm h1 hn1 hc1 hb1 hsec hnsc hcsc hbsc hrb hLb hLc hL hbb hs hT
  · exact (tell_non f hf Asc Asl Asd Ab nsc csc nsl csl nd cd L cb tree q w hm).mono fun e w' h => OutR.nil h (if_neg (fun hh => hm (by have := hh.1; rw [hnsc, hn1] at this; exact this))) hM
theorem rmay_o (f : Fw) (w : World) (hf : f.ok) : Calls Tryd.prog 17 #[.agg f.cs] w fun e w' => e = .returned (.bool (mayV f)) ∧ Below w.heap.size w w' := by
  by_cases h : f.may
  · rw [show mayV f = true from by simp [mayV, madeV, h]]; exact rmay_yes f w hf h
  · rw [show mayV f = false from by simp [mayV, madeV, h]]; exact rmay_no f w hf h
theorem rmade_o (f : Fw) (Asc Asl Asd : Option Addr) (nsc csc nsl csl nd cd : Nat) (w : World) (hf : f.ok) : Calls Tryd.prog 21 #[.agg f.cs, .agg #[.slice Asc nsc csc, .slice Asl nsl csl, .slice Asd nd cd]] w fun e w' => e = .returned (.bool (madeV f nsc nsl nd)) ∧ Below w.heap.size w w' := by
  by_cases h : f.made nsc nsl nd
  · rw [show madeV f nsc nsl nd = true from by simp [mayV, madeV, h]]; exact rmade_yes f Asc Asl Asd nsc csc nsl csl nd cd w hf h
  · rw [show madeV f nsc nsl nd = false from by simp [mayV, madeV, h]]; exact rmade_no f Asc Asl Asd nsc csc nsl csl nd cd w hf h
theorem rdigits_o (f : Fw) (b : List Int) (A : Option Addr) (L c n : Nat) (w : World) (hf : f.ok) (hr : Rd w w.heap.size .u8 A b) (hL0 : b.length = L) (hLc : L ≤ c) (hL : L ≤ 100000) (hb : Bys b) (hn : (digO f b).length = n) :
    Calls Tryd.prog 23 #[.agg f.cs, .slice A L c] w (OutW w (digO f b) n) := by
  by_cases hm : f.may
  · by_cases hs : 8 * L < f.k.toNat * f.a.toNat
    · exact (rdigits_short f _ _ hm.nk hm.na A L c w hf hm hL hs).mono fun e w' h => OutW.nil h (if_neg (fun hh => hh.2 (by rw [hL0]; exact hs))) hn
    · have e1 : digO f b = digsL b f.a.toNat f.k.toNat := if_pos ⟨hm, by rw [hL0]; exact hs⟩
      rw [e1] at hn ⊢
      rw [digsL_len] at hn
      subst hn
      exact rdigits_any f _ _ hm.nk hm.na b A L c w hf hm hr hL0 hLc hL hs hb
  · exact (rdigits_may f A L c w hf hm).mono fun e w' h => OutW.nil h (if_neg (fun hh => hm hh.1)) hn
theorem rwhole_o (f : Fw) (sec sd : List Int) (Asc Asl Asd : Option Addr) (nsc csc nsl csl nd cd M : Nat) (tree q : Int) (w : World) (hf : f.ok) (ht : U64 tree) (hq : W32 q) (h1 : Rd w w.heap.size .u8 Asd sd) (hn1 : sd.length = nd) (hc1 : nd ≤ cd) (hb1 : Bys sd) (hsec : Rd w w.heap.size .u8 Asc sec) (hnsc : sec.length = nsc) (hcsc : nsc ≤ csc) (hbsc : Bys sec) (hT : KTab w) (hM : (wholeO f nsl sd sec tree q).length = M) :
    Calls Tryd.prog 25 #[.agg f.cs, .agg #[.slice Asc nsc csc, .slice Asl nsl csl, .slice Asd nd cd], .int .u64 tree, .int .u32 q] w (OutR w (wholeO f nsl sd sec tree q) M) := by
  by_cases hm : f.made nsc nsl nd
  · have e1 : wholeO f nsl sd sec tree q = wholeL f.n sd sec tree q f.a.toNat f.k.toNat := if_pos (by rw [hnsc, hn1]; exact hm)
    rw [e1] at hM ⊢
    obtain rfl : nd = M := by rw [← hM]; unfold wholeL; rw [atL_nd (hm.szd hn1), hn1]
    exact rwhole_any f _ _ hm.may.nk hm.may.na hf sec sd Asc Asl Asd nsc csc nsl csl nd cd tree q w ht hq hm h1 hn1 hc1 hb1 hsec hnsc hcsc hbsc
  · exact (rwhole_non f hf Asc Asl Asd nsc csc nsl csl nd cd tree q w hm).mono fun e w' h => OutR.nil h (if_neg (by rw [hnsc, hn1]; exact hm)) hM
theorem rtell_o (f : Fw) (sec sd bt : List Int) (Asc Asl Asd Ab : Option Addr) (nsc csc nsl csl nd cd L cb M : Nat) (tree q : Int) (w : World) (hf : f.ok) (ht : U64 tree) (hq : W32 q) (h1 : Rd w w.heap.size .u8 Asd sd) (hn1 : sd.length = nd) (hc1 : nd ≤ cd) (hb1 : Bys sd) (hsec : Rd w w.heap.size .u8 Asc sec) (hnsc : sec.length = nsc) (hcsc : nsc ≤ csc) (hbsc : Bys sec) (hrb : Rd w w.heap.size .u8 Ab bt) (hLb : bt.length = L) (hLc : L ≤ cb) (hL : L ≤ 100000) (hbb : Bys bt) (hT : KTab w) (hM : (tellO f nsl sd sec tree q bt).length = M) :
    Calls Tryd.prog 27 #[.agg f.cs, .agg #[.slice Asc nsc csc, .slice Asl nsl csl, .slice Asd nd cd], .int .u64 tree, .int .u32 q, .slice Ab L cb] w (OutR w (tellO f nsl sd sec tree q bt) M) := by
  by_cases hm : f.made nsc nsl nd
  · by_cases hs : 8 * L < f.k.toNat * f.a.toNat
    · exact (rtell_short f _ _ hm.may.nk hm.may.na hf Asc Asl Asd Ab nsc csc nsl csl nd cd L cb tree q w hm hL hs).mono fun e w' h => OutR.nil h (if_neg (fun hh => hh.2 (by rw [hLb]; exact hs))) hM
    · have e1 : tellO f nsl sd sec tree q bt = tellS f.n sd sec tree q bt f.a.toNat f.k.toNat := if_pos ⟨by rw [hnsc, hn1]; exact hm, by rw [hLb]; exact hs⟩
      rw [e1] at hM ⊢
      rw [tellS_len (hm.szd hn1), hn1] at hM
      subst hM
      exact rtell_any f _ _ hm.may.nk hm.may.na hf sec sd bt Asc Asl Asd Ab nsc csc nsl csl nd cd L cb tree q w ht hq hm h1 hn1 hc1 hb1 hsec hnsc hcsc hbsc hrb hLb hLc hL hbb hs
  · exact (rtell_non f hf Asc Asl Asd Ab nsc csc nsl csl nd cd L cb tree q w hm).mono fun e w' h => OutR.nil h (if_neg (fun hh => hm (by have := hh.1; rw [hnsc, hn1] at this; exact this))) hM
end Go.Proofs.YtfaonieaagepjaaDoor
