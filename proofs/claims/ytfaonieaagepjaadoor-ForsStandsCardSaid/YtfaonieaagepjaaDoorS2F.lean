/- The reference's Turn of layer 2, walked. Conditions: a state of 8 words, a block of 64 bytes. -/
import Derived.Test.YtfaonieaagepjaaDoorS2E
import Derived.Test.YtfaonieaagepjaaDoorZA
import Derived.Deep.LoopGhost
import Derived.Deep.DeepCutAuto
import Derived.Deep.CutBlock
import Derived.Deep.MidRow
namespace Go.Proofs.YtfaonieaagepjaaDoor
open Go.RowKit
set_option linter.unusedVariables false
set_option linter.unusedSimpArgs false

theorem schw_zero (b : List Int) (i : Nat) (hi : i < 64) : ∀ t, t ≤ i → gt (schw b t) i = 0
  | 0, _ => gt_rep _ _ _ hi
  | t + 1, h => by rw [schw, gt_st _ _ _ _ (by rw [schw_len]; omega), if_neg (by omega), schw_zero b i hi t (by omega)]
theorem beNw_drop (b : List Int) (o j : Nat) : beN (b.drop o) (j + 1) = beN (b.drop o) j * 256 + gt b (o + j) := by rw [beN, gt_drop]
theorem max32 : (if IntKind.u32.signed = true then (-1 : Int) else IntKind.u32.max) = 4294967295 := by rfl
theorem notw_max (e : Int) : Xw e 4294967295 = notw e := by rw [Xw_comm, notw, max32]
def mixRw (l : List Int) (t : Nat) : Int := aw (aw (aw (sw1 (gt l (t - 2))) (gt l (t - 7))) (sw0 (gt l (t - 15)))) (gt l (t - 16))
theorem mixRw_eq (l : List Int) (t : Nat) : mixRw l t = mixW l t := by
  unfold mixRw mixW aw
  generalize gt l (t - 7) = a
  generalize gt l (t - 16) = b
  generalize sw1 (gt l (t - 2)) = c
  generalize sw0 (gt l (t - 15)) = d
  simp only [IntKind.wrap_u32]
  omega
def turnRw (s z : List Int) : List Int := [aw (gt s 0) (gt z 0), aw (gt s 1) (gt z 1), aw (gt s 2) (gt z 2), aw (gt s 3) (gt z 3), aw (gt s 4) (gt z 4), aw (gt s 5) (gt z 5), aw (gt s 6) (gt z 6), aw (gt s 7) (gt z 7)]
theorem aw_comm (a b : Int) : aw a b = aw b a := by unfold aw; rw [Int.add_comm]
theorem turnRw_eq (s z : List Int) (hz : z.length = 8) : turnRw s z = addw s z 8 := by
  apply ext_gt _ _ (by rw [addw_len, hz]; rfl)
  intro i hi
  have hi8 : i < 8 := hi
  rw [gt_addw s z i 8 (by omega), if_pos hi8, aw_comm]
  match i, hi8 with
  | 0, _ => rfl
  | 1, _ => rfl
  | 2, _ => rfl
  | 3, _ => rfl
  | 4, _ => rfl
  | 5, _ => rfl
  | 6, _ => rfl
  | 7, _ => rfl
structure Vw (w0 : World) (B C : Nat) (s v : List Int) (w : World) : Prop where
  a0 : Arr w B 96 .u32 s
  a1 : Arr w (B + 1) 96 .u32 (List.replicate 8 0)
  ak : Arr w C 111 .u32 k2L
  aw : Arr w (C + 1) 111 .u32 v
  k : Kept B (fun _ => False) w0 w
theorem Vw.drewN {w0 w : World} {B C : Nat} {s v : List Int} (h : Vw w0 B C s v w) (q : Nat) : Vw w0 B C s v (w.drewN q) := ⟨h.a0, h.a1, h.ak, h.aw, h.k.drewN q⟩
theorem Vw.setW {w0 w : World} {B C : Nat} {s v : List Int} (h : Vw w0 B C s v w) (hC : B + 2 ≤ C) (i : Nat) (x : Int) : Vw w0 B C s (st v i x) (w.setCell ⟨C + 1, i, none⟩ (.int .u32 x)) :=
  ⟨h.a0.other _ _ _ (by omega), h.a1.other _ _ _ (by omega), h.ak.other _ _ _ (by omega), h.aw.set i x, h.k.set _ _ _ (.inl (by omega))⟩
def Pw1 (w0 : World) (B C : Nat) (s b : List Int) (gk : Nat) (x : Value) (w : World) : Prop :=
  ∃ t : Nat, x = .int .i64 t ∧ t ≤ 16 ∧ gk = 16 - t ∧ Vw w0 B C s (schw b t) w
def Pw3 (w0 : World) (B C : Nat) (s b : List Int) (gk : Nat) (x : Value) (w : World) : Prop :=
  ∃ t : Nat, x = .int .i64 t ∧ 16 ≤ t ∧ t ≤ 64 ∧ gk = 64 - t ∧ Vw w0 B C s (schw b t) w
def Pw4 (w0 : World) (B C : Nat) (s b v : List Int) (gk : Nat) (xa xb xc xd xe xf xg xh x : Value) (w : World) : Prop :=
  ∃ (t : Nat) (z : List Int), rndsw b s t = z ∧ x = .int .i64 t ∧ t ≤ 64 ∧ gk = 64 - t ∧ xa = .int .u32 (gt z 0) ∧ xb = .int .u32 (gt z 1) ∧ xc = .int .u32 (gt z 2) ∧ xd = .int .u32 (gt z 3) ∧
    xe = .int .u32 (gt z 4) ∧ xf = .int .u32 (gt z 5) ∧ xg = .int .u32 (gt z 6) ∧ xh = .int .u32 (gt z 7) ∧ Vw w0 B C s v w
theorem zero8w : #[Value.int .u32 0, .int .u32 0, .int .u32 0, .int .u32 0, .int .u32 0, .int .u32 0, .int .u32 0, .int .u32 0] = U .u32 (List.replicate 8 0) := rfl
theorem inf_a8w : (Tryd.prog.info? 96).map (·.size) = some 8 := by kernel_rfl
set_option maxRecDepth 100000 in
set_option maxHeartbeats 4000000 in
theorem rturn2_any (s b F : List Int) (A : Option Addr) (c BB : Nat) (w : World) (hF : turn2 s b = F) (hs : s.length = 8) (hsw : Ww s) (hr : Rd w BB .u8 A b) (hBB : BB ≤ w.heap.size) (hb : Bys b) (hbl : b.length = 64) :
    Calls Tryd.prog 75 #[.agg (U .u32 s), .slice A 64 c] w fun e w' => e = .returned (.agg (U .u32 F)) ∧ Below w.heap.size w w' := by
  have z64 := zero64r
  have hA1 := (Arr.new w 96 .u32 s).alloc (.cells (U .u32 (List.replicate 8 0)) 96)
  have hN1 := Arr.new (w.alloc (.cells (U .u32 s) 96)) 96 .u32 (List.replicate 8 0)
  have hK1 := ((Kept.refl w.heap.size (fun _ => False) w).alloc (.cells (U .u32 s) 96) (Nat.le_refl _)).alloc (.cells (U .u32 (List.replicate 8 0)) 96) (by simp)
  obtain ⟨B, hB⟩ : ∃ B, w.heap.size = B := ⟨_, rfl⟩
  rw [hB] at hA1 hK1
  rw [show (w.alloc (.cells (U .u32 s) 96)).heap.size = B + 1 by simp [hB]] at hN1
  have hs1 : ((w.alloc (.cells (U .u32 s) 96)).alloc (.cells (U .u32 (List.replicate 8 0)) 96)).heap.size = B + 2 := by simp [hB]
  have hHB := Lib.hid hB
  rw [hB] at hBB
  go_enter Tryd.func75, Tryd.ntmps75
  go_upto_region 1 with fail
  change Code.wp _ _ _ _ ((w.alloc (.cells (U .u32 s) 96)).alloc (.cells (U .u32 (List.replicate 8 0)) 96))
  generalize (w.alloc (.cells (U .u32 s) 96)).alloc (.cells (U .u32 (List.replicate 8 0)) 96) = w1 at hA1 hN1 hK1 hs1 ⊢
  go_wp2_with fail
  (with_reducible refine (constsw_any w1).mono ?_)
  rintro e w2 ⟨rfl, hb2⟩
  have hA2 := hA1.below hb2 hA1.lt
  have hN2 := hN1.below hb2 hN1.lt
  have hK2 := hK1.trans (S' := fun _ => False) (Kept.of_below hb2) (by omega) (fun _ _ h => h)
  obtain ⟨C, hC⟩ : ∃ C, w2.heap.size = C := ⟨_, rfl⟩
  have hBC : B + 2 ≤ C := by have := hb2.size; omega
  have hA3 := hA2.alloc (.cells (U .u32 zr64) 111)
  have hN3 := hN2.alloc (.cells (U .u32 zr64) 111)
  have hC3 := Arr.new w2 111 .u32 zr64
  have hK3 := hK2.alloc (.cells (U .u32 zr64) 111) (by omega)
  rw [hC] at hC3
  have hs3 : (w2.alloc (.cells (U .u32 zr64) 111)).heap.size = C + 1 := by simp [hC]
  clear hA1 hN1 hK1 hA2 hN2 hK2 hb2
  go_upto_region 2 with (refine wpList_store_arr (o := ⟨none, _, _, _, _, _⟩) rfl 111 _ _ rfl rfl rfl hC3 64 inf_a64r k2_len rfl ?_)
  have hA4 := hA3.otherRow C (U .u32 k2L) (by omega)
  have hN4 := hN3.otherRow C (U .u32 k2L) (by omega)
  have hC4 := hC3.setRow k2L
  have hK4 := hK3.setRow C (U .u32 k2L) (.inl (by omega))
  have hs4 : ((w2.alloc (.cells (U .u32 zr64) 111)).setRow C (U .u32 k2L)).heap.size = C + 1 := by simp [hC]
  change Code.wp _ _ _ _ ((w2.alloc (.cells (U .u32 zr64) 111)).setRow C (U .u32 k2L))
  generalize (w2.alloc (.cells (U .u32 zr64) 111)).setRow C (U .u32 k2L) = w4 at hA4 hN4 hC4 hK4 hs4 ⊢
  have h0 : Vw w B C s zr64 (w4.alloc (.cells (U .u32 zr64) 111)) :=
    ⟨hA4.alloc _, hN4.alloc _, hC4.alloc _, by have := Arr.new w4 111 .u32 zr64; rwa [hs4] at this, hK4.alloc _ (by omega)⟩
  clear hA3 hN3 hC3 hK3 hs3 hA4 hN4 hC4 hK4 hs1 hC
  go_upto_region 3 with fail
  generalize w4.alloc (.cells (U .u32 zr64) 111) = w5 at h0 ⊢
  clear hs4 z64 hB
  have HSW := Lib.hid hsw
  have HBB := Lib.hid hb
  have HBL := Lib.hid hbl
  have HF := Lib.hid hF
  clear hsw hb hbl hF
  go_wp2_with fail
  go_loopg [7] 16 (fun gk x wr => Pw1 w B C s b gk x wr)
  case atStart => exact ⟨0, rfl, Nat.zero_le _, rfl, h0⟩
  case round =>
    clear h0
    obtain ⟨t, rfl, ht, hgk, hV⟩ := hrel
    have HGK := Lib.hid hgk
    clear hgk
    by_cases hlt : t < 16
    · have hltI : (t : Int) < 16 := by omega
      obtain ⟨ad, rfl, _, _⟩ := (hr.kept hV.k hBB (fun _ _ h => h)).at_ (i := 0) (by rw [HBL.out]; omega)
      have hcb : ∀ v p, p < 64 → ∀ w9, Vw w B C s v w9 → w9.cell? (ad.add p) = some (.int .u8 (gt b p)) := fun v p hp w9 h9 => by
        obtain ⟨ad2, e, _, h⟩ := (hr.kept h9.k hBB (fun _ _ h => h)).at_ (i := p) (by rw [HBL.out]; exact hp)
        injection e with e
        subst e
        exact h
      obtain ⟨p0, hp0⟩ : ∃ p : Nat, 4 * t + 0 = p := ⟨_, rfl⟩
      obtain ⟨y0, hy0⟩ : ∃ y, gt b p0 = y := ⟨_, rfl⟩
      have yb0 : B8 y0 := hy0 ▸ HBB.out.gt p0
      obtain ⟨ya0, yz0⟩ := yb0
      have hc0 := hcb (schw b t) p0 (by omega)
      rw [hy0] at hc0
      obtain ⟨p1, hp1⟩ : ∃ p : Nat, 4 * t + 1 = p := ⟨_, rfl⟩
      obtain ⟨y1, hy1⟩ : ∃ y, gt b p1 = y := ⟨_, rfl⟩
      have yb1 : B8 y1 := hy1 ▸ HBB.out.gt p1
      obtain ⟨ya1, yz1⟩ := yb1
      have hc1 := hcb (schw b t) p1 (by omega)
      rw [hy1] at hc1
      obtain ⟨p2, hp2⟩ : ∃ p : Nat, 4 * t + 2 = p := ⟨_, rfl⟩
      obtain ⟨y2, hy2⟩ : ∃ y, gt b p2 = y := ⟨_, rfl⟩
      have yb2 : B8 y2 := hy2 ▸ HBB.out.gt p2
      obtain ⟨ya2, yz2⟩ := yb2
      have hc2 := hcb (schw b t) p2 (by omega)
      rw [hy2] at hc2
      obtain ⟨p3, hp3⟩ : ∃ p : Nat, 4 * t + 3 = p := ⟨_, rfl⟩
      obtain ⟨y3, hy3⟩ : ∃ y, gt b p3 = y := ⟨_, rfl⟩
      have yb3 : B8 y3 := hy3 ▸ HBB.out.gt p3
      obtain ⟨ya3, yz3⟩ := yb3
      have hc3 := hcb (schw b t) p3 (by omega)
      rw [hy3] at hc3
      have hval : ((y0 * 256 + y1) * 256 + y2) * 256 + y3 = beN (b.drop (4 * t)) 4 := by
        rw [beNw_drop, beNw_drop, beNw_drop, beNw_drop, hp0, hp1, hp2, hp3, hy0, hy1, hy2, hy3]
        show _ = (((0 * 256 + y0) * 256 + y1) * 256 + y2) * 256 + y3
        omega
      obtain ⟨l, hl⟩ : ∃ l, schw b t = l := ⟨_, rfl⟩
      have hll : l.length = 64 := by rw [← hl, schw_len]
      rw [hl] at hV hc0 hc1 hc2 hc3
      have HN : Hid (schw b (t + 1) = st l t (((y0 * 256 + y1) * 256 + y2) * 256 + y3)) := by show schw b (t + 1) = _; rw [schw, if_pos hlt, hl, hval]
      have HL := Lib.hid hll
      clear hy0 hy1 hy2 hy3 hval hl hll hcb
      go_wp2_with fail
      refine wp_region_hold_tail 35 (fun w9 => Vw w B C s l w9) (by kernel_rfl) (by kernel_rfl) (hV.drewN 1) ?_
      simp only [List.take_succ_cons, List.take_zero, List.drop_succ_cons, List.drop_zero]
      refine Hd.val (.int .i64 (t : Nat)) (by kernel_rfl) (fun w => by kernel_rfl) ?_
      refine Hd.val (.slice (some ad) 64 c) (by kernel_rfl) (fun w => by kernel_rfl) ?_
      refine Hd.val (.int .i64 (t : Nat)) (by kernel_rfl) (fun w => by kernel_rfl) ?_
      refine Hd.val (.int .i64 ((p0 : Int))) (by kernel_rfl) (fun w => Eq.trans (b := .ok (.value (.int .i64 (IntKind.i64.wrap (4 * (t : Int))))) w) (by kernel_rfl) (okI (by rw [IntWalk.i64_in _ (by omega)]; omega))) ?_
      refine Hd.val (.pointer (some (ad.add p0))) (by kernel_rfl) (fun w => exec_index (k := .i64) (n := 64) (c := c) (ad := ad) (p0) w rfl (by kernel_rfl) (by kernel_rfl) (by kernel_rfl) (by kernel_rfl) (by omega)) ?_
      refine Hd.cell (.int .u8 y0) ((ad.add p0)) (by kernel_rfl) rfl (by kernel_rfl) Tryd.underlying5 rfl (fun w hw => hc0 w hw) ?_
      refine Hd.val (.int .u32 (y0)) (by kernel_rfl) (fun w => Eq.trans (b := .ok (.value (.int .u32 (IntKind.u32.wrap (y0)))) w) (by kernel_rfl) (okI (by rw [IntKind.wrap_u32]; omega))) ?_
      refine Hd.val (.int .u32 (y0 * 16777216)) (by kernel_rfl) (fun w => Eq.trans (b := .ok (.value (.int .u32 (IntKind.u32.wrap (y0 * 16777216)))) w) (by kernel_rfl) (okI (by rw [IntKind.wrap_u32]; omega))) ?_
      refine Hd.val (.slice (some ad) 64 c) (by kernel_rfl) (fun w => by kernel_rfl) ?_
      refine Hd.val (.int .i64 (t : Nat)) (by kernel_rfl) (fun w => by kernel_rfl) ?_
      refine Hd.val (.int .i64 ((p0 : Int))) (by kernel_rfl) (fun w => Eq.trans (b := .ok (.value (.int .i64 (IntKind.i64.wrap (4 * (t : Int))))) w) (by kernel_rfl) (okI (by rw [IntWalk.i64_in _ (by omega)]; omega))) ?_
      refine Hd.val (.int .i64 ((p1 : Int))) (by kernel_rfl) (fun w => Eq.trans (b := .ok (.value (.int .i64 (IntKind.i64.wrap ((p0 : Int) + 1)))) w) (by kernel_rfl) (okI (by rw [IntWalk.i64_in _ (by omega)]; omega))) ?_
      refine Hd.val (.pointer (some (ad.add p1))) (by kernel_rfl) (fun w => exec_index (k := .i64) (n := 64) (c := c) (ad := ad) (p1) w rfl (by kernel_rfl) (by kernel_rfl) (by kernel_rfl) (by kernel_rfl) (by omega)) ?_
      refine Hd.cell (.int .u8 y1) ((ad.add p1)) (by kernel_rfl) rfl (by kernel_rfl) Tryd.underlying5 rfl (fun w hw => hc1 w hw) ?_
      refine Hd.val (.int .u32 (y1)) (by kernel_rfl) (fun w => Eq.trans (b := .ok (.value (.int .u32 (IntKind.u32.wrap (y1)))) w) (by kernel_rfl) (okI (by rw [IntKind.wrap_u32]; omega))) ?_
      refine Hd.val (.int .u32 (y1 * 65536)) (by kernel_rfl) (fun w => Eq.trans (b := .ok (.value (.int .u32 (IntKind.u32.wrap (y1 * 65536)))) w) (by kernel_rfl) (okI (by rw [IntKind.wrap_u32]; omega))) ?_
      refine Hd.val (.int .u32 (y0 * 16777216 + y1 * 65536)) (by kernel_rfl) (fun w => Eq.trans (b := .ok (.value (.int .u32 (IntKind.u32.wrap (y0 * 16777216 + y1 * 65536)))) w) (by kernel_rfl) (okI (by rw [IntKind.wrap_u32]; omega))) ?_
      refine Hd.val (.slice (some ad) 64 c) (by kernel_rfl) (fun w => by kernel_rfl) ?_
      refine Hd.val (.int .i64 (t : Nat)) (by kernel_rfl) (fun w => by kernel_rfl) ?_
      refine Hd.val (.int .i64 ((p0 : Int))) (by kernel_rfl) (fun w => Eq.trans (b := .ok (.value (.int .i64 (IntKind.i64.wrap (4 * (t : Int))))) w) (by kernel_rfl) (okI (by rw [IntWalk.i64_in _ (by omega)]; omega))) ?_
      refine Hd.val (.int .i64 ((p2 : Int))) (by kernel_rfl) (fun w => Eq.trans (b := .ok (.value (.int .i64 (IntKind.i64.wrap ((p0 : Int) + 2)))) w) (by kernel_rfl) (okI (by rw [IntWalk.i64_in _ (by omega)]; omega))) ?_
      refine Hd.val (.pointer (some (ad.add p2))) (by kernel_rfl) (fun w => exec_index (k := .i64) (n := 64) (c := c) (ad := ad) (p2) w rfl (by kernel_rfl) (by kernel_rfl) (by kernel_rfl) (by kernel_rfl) (by omega)) ?_
      refine Hd.cell (.int .u8 y2) ((ad.add p2)) (by kernel_rfl) rfl (by kernel_rfl) Tryd.underlying5 rfl (fun w hw => hc2 w hw) ?_
      refine Hd.val (.int .u32 (y2)) (by kernel_rfl) (fun w => Eq.trans (b := .ok (.value (.int .u32 (IntKind.u32.wrap (y2)))) w) (by kernel_rfl) (okI (by rw [IntKind.wrap_u32]; omega))) ?_
      refine Hd.val (.int .u32 (y2 * 256)) (by kernel_rfl) (fun w => Eq.trans (b := .ok (.value (.int .u32 (IntKind.u32.wrap (y2 * 256)))) w) (by kernel_rfl) (okI (by rw [IntKind.wrap_u32]; omega))) ?_
      refine Hd.val (.int .u32 (y0 * 16777216 + y1 * 65536 + y2 * 256)) (by kernel_rfl) (fun w => Eq.trans (b := .ok (.value (.int .u32 (IntKind.u32.wrap (y0 * 16777216 + y1 * 65536 + y2 * 256)))) w) (by kernel_rfl) (okI (by rw [IntKind.wrap_u32]; omega))) ?_
      refine Hd.val (.slice (some ad) 64 c) (by kernel_rfl) (fun w => by kernel_rfl) ?_
      refine Hd.val (.int .i64 (t : Nat)) (by kernel_rfl) (fun w => by kernel_rfl) ?_
      refine Hd.val (.int .i64 ((p0 : Int))) (by kernel_rfl) (fun w => Eq.trans (b := .ok (.value (.int .i64 (IntKind.i64.wrap (4 * (t : Int))))) w) (by kernel_rfl) (okI (by rw [IntWalk.i64_in _ (by omega)]; omega))) ?_
      refine Hd.val (.int .i64 ((p3 : Int))) (by kernel_rfl) (fun w => Eq.trans (b := .ok (.value (.int .i64 (IntKind.i64.wrap ((p0 : Int) + 3)))) w) (by kernel_rfl) (okI (by rw [IntWalk.i64_in _ (by omega)]; omega))) ?_
      refine Hd.val (.pointer (some (ad.add p3))) (by kernel_rfl) (fun w => exec_index (k := .i64) (n := 64) (c := c) (ad := ad) (p3) w rfl (by kernel_rfl) (by kernel_rfl) (by kernel_rfl) (by kernel_rfl) (by omega)) ?_
      refine Hd.cell (.int .u8 y3) ((ad.add p3)) (by kernel_rfl) rfl (by kernel_rfl) Tryd.underlying5 rfl (fun w hw => hc3 w hw) ?_
      refine Hd.val (.int .u32 (y3)) (by kernel_rfl) (fun w => Eq.trans (b := .ok (.value (.int .u32 (IntKind.u32.wrap (y3)))) w) (by kernel_rfl) (okI (by rw [IntKind.wrap_u32]; omega))) ?_
      refine Hd.val (.int .u32 (((y0 * 256 + y1) * 256 + y2) * 256 + y3)) (by kernel_rfl) (fun w => Eq.trans (b := .ok (.value (.int .u32 (IntKind.u32.wrap (y0 * 16777216 + y1 * 65536 + y2 * 256 + y3)))) w) (by kernel_rfl) (okI (by rw [IntKind.wrap_u32]; omega))) ?_
      refine Hd.val (.pointer (some ⟨C + 1, t, none⟩)) (by kernel_rfl) (fun w => exec_index_arr (k := .i64) (b := C + 1) (t) 64 w rfl (by kernel_rfl) (by kernel_rfl) (by kernel_rfl) (by kernel_rfl) (by kernel_rfl) (by omega)) ?_
      refine wpHold_nil ?_
      simp only [Act.put, List.setIfInBounds_toArray, List.set_cons_zero, List.set_cons_succ]
      intro w9 hV9
      have hfw := hV9.aw.free t
      have hcw := hV9.aw.cell t (by rw [HL.out]; omega)
      clear hc0 hc1 hc2 hc3
      go_wp2_with fail
      go_roundg (16 - (t + 1))
      case measure => have := HGK.out; omega
      case rel => exact ⟨t + 1, by go_num, by omega, rfl, by rw [HN.out]; exact hV9.setW hBC t _⟩
    · have hltI : ¬ (t : Int) < 16 := by omega
      have hV16 : Vw w B C s (schw b 16) wr := by have ht16 : t = 16 := by omega
                                                  rw [← ht16]; exact hV
      clear hV HGK
      go_wp2_with fail
      go_loopg [8] 48 (fun gk x wr => Pw3 w B C s b gk x wr)
      case atStart => exact ⟨16, rfl, Nat.le_refl _, by omega, rfl, hV16⟩
      case round =>
        clear hV16
        obtain ⟨t3, rfl, h16, h80, hgk, hV⟩ := hrel
        have HGK := Lib.hid hgk
        clear hgk
        by_cases hlt3 : t3 < 64
        · have hlt3I : (t3 : Int) < 64 := by omega
          obtain ⟨a15, e15⟩ : ∃ a, t3 - 15 = a := ⟨_, rfl⟩
          obtain ⟨a16, e16⟩ : ∃ a, t3 - 16 = a := ⟨_, rfl⟩
          obtain ⟨a7, e7⟩ : ∃ a, t3 - 7 = a := ⟨_, rfl⟩
          obtain ⟨a2, e2⟩ : ∃ a, t3 - 2 = a := ⟨_, rfl⟩
          have f15 : IntKind.i64.wrap ((t3 : Int) - 15) = (a15 : Int) := by rw [IntWalk.i64_in _ (by omega)]; omega
          have f16 : IntKind.i64.wrap ((t3 : Int) - 16) = (a16 : Int) := by rw [IntWalk.i64_in _ (by omega)]; omega
          have f7 : IntKind.i64.wrap ((t3 : Int) - 7) = (a7 : Int) := by rw [IntWalk.i64_in _ (by omega)]; omega
          have f2 : IntKind.i64.wrap ((t3 : Int) - 2) = (a2 : Int) := by rw [IntWalk.i64_in _ (by omega)]; omega
          obtain ⟨v, hv⟩ : ∃ v, schw b t3 = v := ⟨_, rfl⟩
          rw [hv] at hV
          have hvl : v.length = 64 := by rw [← hv, schw_len]
          have hvw : Ww v := hv ▸ schw_W HBB.out t3
          have b15 : a15 < 64 := by omega
          have b16 : a16 < 64 := by omega
          have b7 : a7 < 64 := by omega
          have b2 : a2 < 64 := by omega
          have E : Hid (schw b (t3 + 1) = st v t3 (aw (aw (aw (sw1 (gt v a2)) (gt v a7)) (sw0 (gt v a15))) (gt v a16))) := by show schw b (t3 + 1) = _; rw [schw, if_neg (by omega), hv, ← mixRw_eq, mixRw, e15, e16, e7, e2]
          have HVW := Lib.hid hvw
          have HVL := Lib.hid hvl
          clear e15 e16 e7 e2 hv hvw hvl
          go_wp2_with fail
          refine wp_region_hold (fun w9 => Vw w B C s v w9) (by kernel_rfl) (by kernel_rfl) (hV.drewN 1) ?_
          refine Hd.val (.int .i64 (t3 : Nat)) (by kernel_rfl) (fun w => by kernel_rfl) ?_
          refine Hd.val (.int .i64 ((a15 : Int))) (by kernel_rfl) (fun w => Eq.trans (b := .ok (.value (.int .i64 (IntKind.i64.wrap ((t3 : Int) - 15)))) w) (by kernel_rfl) (okI (f15))) ?_
          refine Hd.val (.pointer (some ⟨C + 1, a15, none⟩)) (by kernel_rfl) (fun w => exec_index_arr (k := .i64) (b := C + 1) (a15) 64 w rfl (by kernel_rfl) (by kernel_rfl) (by kernel_rfl) (by kernel_rfl) (by kernel_rfl) (by omega)) ?_
          refine Hd.cell (.int .u32 (gt v a15)) (⟨C + 1, a15, none⟩) (by kernel_rfl) rfl (by kernel_rfl) Tryd.underlying26 rfl (fun w hw => hw.aw.cell a15 (by rw [HVL.out]; omega)) ?_
          refine Hd.call (f := 86) (args := #[.int .u32 (gt v a15), .int .u32 7]) (.int .u32 (rw2 (gt v a15) 7)) (by kernel_rfl) (fun w => by kernel_rfl) (fun w hw => (rrotw_any _ _ _ (HVW.out.gt _) (by decide) (by decide)).mono fun e w' h => ⟨h.1, h.2 ▸ hw⟩) ?_
          refine Hd.val (.int .i64 (t3 : Nat)) (by kernel_rfl) (fun w => by kernel_rfl) ?_
          refine Hd.val (.int .i64 ((a15 : Int))) (by kernel_rfl) (fun w => Eq.trans (b := .ok (.value (.int .i64 (IntKind.i64.wrap ((t3 : Int) - 15)))) w) (by kernel_rfl) (okI (f15))) ?_
          refine Hd.val (.pointer (some ⟨C + 1, a15, none⟩)) (by kernel_rfl) (fun w => exec_index_arr (k := .i64) (b := C + 1) (a15) 64 w rfl (by kernel_rfl) (by kernel_rfl) (by kernel_rfl) (by kernel_rfl) (by kernel_rfl) (by omega)) ?_
          refine Hd.cell (.int .u32 (gt v a15)) (⟨C + 1, a15, none⟩) (by kernel_rfl) rfl (by kernel_rfl) Tryd.underlying26 rfl (fun w hw => hw.aw.cell a15 (by rw [HVL.out]; omega)) ?_
          refine Hd.call (f := 86) (args := #[.int .u32 (gt v a15), .int .u32 18]) (.int .u32 (rw2 (gt v a15) 18)) (by kernel_rfl) (fun w => by kernel_rfl) (fun w hw => (rrotw_any _ _ _ (HVW.out.gt _) (by decide) (by decide)).mono fun e w' h => ⟨h.1, h.2 ▸ hw⟩) ?_
          refine Hd.val (.int .u32 (Xw (rw2 (gt v a15) 7) (rw2 (gt v a15) 18))) (by kernel_rfl) (fun w => by kernel_rfl) ?_
          refine Hd.val (.int .i64 (t3 : Nat)) (by kernel_rfl) (fun w => by kernel_rfl) ?_
          refine Hd.val (.int .i64 ((a15 : Int))) (by kernel_rfl) (fun w => Eq.trans (b := .ok (.value (.int .i64 (IntKind.i64.wrap ((t3 : Int) - 15)))) w) (by kernel_rfl) (okI (f15))) ?_
          refine Hd.val (.pointer (some ⟨C + 1, a15, none⟩)) (by kernel_rfl) (fun w => exec_index_arr (k := .i64) (b := C + 1) (a15) 64 w rfl (by kernel_rfl) (by kernel_rfl) (by kernel_rfl) (by kernel_rfl) (by kernel_rfl) (by omega)) ?_
          refine Hd.cell (.int .u32 (gt v a15)) (⟨C + 1, a15, none⟩) (by kernel_rfl) rfl (by kernel_rfl) Tryd.underlying26 rfl (fun w hw => hw.aw.cell a15 (by rw [HVL.out]; omega)) ?_
          refine Hd.val (.int .u32 (gt v a15 / 8)) (by kernel_rfl) (fun w => Eq.trans (b := .ok (.value (.int .u32 ((gt v a15).fdiv 8))) w) (by kernel_rfl) (okI (Int.fdiv_eq_ediv_of_nonneg _ (by decide)))) ?_
          refine Hd.val (.int .u32 (sw0 (gt v a15))) (by kernel_rfl) (fun w => by kernel_rfl) ?_
          refine Hd.val (.int .u32 (sw0 (gt v a15))) (by kernel_rfl) (fun w => by kernel_rfl) ?_
          refine wpHold_nil ?_
          simp only [Act.put, List.setIfInBounds_toArray, List.set_cons_zero, List.set_cons_succ]
          intro w6 hV6
          clear hV
          go_wp2_with fail
          refine wp_region_hold (fun w9 => Vw w B C s v w9) (by kernel_rfl) (by kernel_rfl) (hV6.drewN 1) ?_
          refine Hd.val (.int .i64 (t3 : Nat)) (by kernel_rfl) (fun w => by kernel_rfl) ?_
          refine Hd.val (.int .i64 ((a2 : Int))) (by kernel_rfl) (fun w => Eq.trans (b := .ok (.value (.int .i64 (IntKind.i64.wrap ((t3 : Int) - 2)))) w) (by kernel_rfl) (okI (f2))) ?_
          refine Hd.val (.pointer (some ⟨C + 1, a2, none⟩)) (by kernel_rfl) (fun w => exec_index_arr (k := .i64) (b := C + 1) (a2) 64 w rfl (by kernel_rfl) (by kernel_rfl) (by kernel_rfl) (by kernel_rfl) (by kernel_rfl) (by omega)) ?_
          refine Hd.cell (.int .u32 (gt v a2)) (⟨C + 1, a2, none⟩) (by kernel_rfl) rfl (by kernel_rfl) Tryd.underlying26 rfl (fun w hw => hw.aw.cell a2 (by rw [HVL.out]; omega)) ?_
          refine Hd.call (f := 86) (args := #[.int .u32 (gt v a2), .int .u32 17]) (.int .u32 (rw2 (gt v a2) 17)) (by kernel_rfl) (fun w => by kernel_rfl) (fun w hw => (rrotw_any _ _ _ (HVW.out.gt _) (by decide) (by decide)).mono fun e w' h => ⟨h.1, h.2 ▸ hw⟩) ?_
          refine Hd.val (.int .i64 (t3 : Nat)) (by kernel_rfl) (fun w => by kernel_rfl) ?_
          refine Hd.val (.int .i64 ((a2 : Int))) (by kernel_rfl) (fun w => Eq.trans (b := .ok (.value (.int .i64 (IntKind.i64.wrap ((t3 : Int) - 2)))) w) (by kernel_rfl) (okI (f2))) ?_
          refine Hd.val (.pointer (some ⟨C + 1, a2, none⟩)) (by kernel_rfl) (fun w => exec_index_arr (k := .i64) (b := C + 1) (a2) 64 w rfl (by kernel_rfl) (by kernel_rfl) (by kernel_rfl) (by kernel_rfl) (by kernel_rfl) (by omega)) ?_
          refine Hd.cell (.int .u32 (gt v a2)) (⟨C + 1, a2, none⟩) (by kernel_rfl) rfl (by kernel_rfl) Tryd.underlying26 rfl (fun w hw => hw.aw.cell a2 (by rw [HVL.out]; omega)) ?_
          refine Hd.call (f := 86) (args := #[.int .u32 (gt v a2), .int .u32 19]) (.int .u32 (rw2 (gt v a2) 19)) (by kernel_rfl) (fun w => by kernel_rfl) (fun w hw => (rrotw_any _ _ _ (HVW.out.gt _) (by decide) (by decide)).mono fun e w' h => ⟨h.1, h.2 ▸ hw⟩) ?_
          refine Hd.val (.int .u32 (Xw (rw2 (gt v a2) 17) (rw2 (gt v a2) 19))) (by kernel_rfl) (fun w => by kernel_rfl) ?_
          refine Hd.val (.int .i64 (t3 : Nat)) (by kernel_rfl) (fun w => by kernel_rfl) ?_
          refine Hd.val (.int .i64 ((a2 : Int))) (by kernel_rfl) (fun w => Eq.trans (b := .ok (.value (.int .i64 (IntKind.i64.wrap ((t3 : Int) - 2)))) w) (by kernel_rfl) (okI (f2))) ?_
          refine Hd.val (.pointer (some ⟨C + 1, a2, none⟩)) (by kernel_rfl) (fun w => exec_index_arr (k := .i64) (b := C + 1) (a2) 64 w rfl (by kernel_rfl) (by kernel_rfl) (by kernel_rfl) (by kernel_rfl) (by kernel_rfl) (by omega)) ?_
          refine Hd.cell (.int .u32 (gt v a2)) (⟨C + 1, a2, none⟩) (by kernel_rfl) rfl (by kernel_rfl) Tryd.underlying26 rfl (fun w hw => hw.aw.cell a2 (by rw [HVL.out]; omega)) ?_
          refine Hd.val (.int .u32 (gt v a2 / 1024)) (by kernel_rfl) (fun w => Eq.trans (b := .ok (.value (.int .u32 ((gt v a2).fdiv 1024))) w) (by kernel_rfl) (okI (Int.fdiv_eq_ediv_of_nonneg _ (by decide)))) ?_
          refine Hd.val (.int .u32 (sw1 (gt v a2))) (by kernel_rfl) (fun w => by kernel_rfl) ?_
          refine Hd.val (.int .u32 (sw1 (gt v a2))) (by kernel_rfl) (fun w => by kernel_rfl) ?_
          refine wpHold_nil ?_
          simp only [Act.put, List.setIfInBounds_toArray, List.set_cons_zero, List.set_cons_succ]
          intro w7 hV7
          clear hV6
          go_wp2_with fail
          refine wp_region_hold_tail 15 (fun w9 => Vw w B C s v w9) (by kernel_rfl) (by kernel_rfl) (hV7.drewN 1) ?_
          simp only [List.take_succ_cons, List.take_zero, List.drop_succ_cons, List.drop_zero]
          refine Hd.val (.int .i64 (t3 : Nat)) (by kernel_rfl) (fun w => by kernel_rfl) ?_
          refine Hd.val (.int .u32 (sw1 (gt v a2))) (by kernel_rfl) (fun w => by kernel_rfl) ?_
          refine Hd.val (.int .i64 (t3 : Nat)) (by kernel_rfl) (fun w => by kernel_rfl) ?_
          refine Hd.val (.int .i64 ((a7 : Int))) (by kernel_rfl) (fun w => Eq.trans (b := .ok (.value (.int .i64 (IntKind.i64.wrap ((t3 : Int) - 7)))) w) (by kernel_rfl) (okI (f7))) ?_
          refine Hd.val (.pointer (some ⟨C + 1, a7, none⟩)) (by kernel_rfl) (fun w => exec_index_arr (k := .i64) (b := C + 1) (a7) 64 w rfl (by kernel_rfl) (by kernel_rfl) (by kernel_rfl) (by kernel_rfl) (by kernel_rfl) (by omega)) ?_
          refine Hd.cell (.int .u32 (gt v a7)) (⟨C + 1, a7, none⟩) (by kernel_rfl) rfl (by kernel_rfl) Tryd.underlying26 rfl (fun w hw => hw.aw.cell a7 (by rw [HVL.out]; omega)) ?_
          refine Hd.val (.int .u32 (aw (sw1 (gt v a2)) (gt v a7))) (by kernel_rfl) (fun w => by kernel_rfl) ?_
          refine Hd.val (.int .u32 (sw0 (gt v a15))) (by kernel_rfl) (fun w => by kernel_rfl) ?_
          refine Hd.val (.int .u32 (aw (aw (sw1 (gt v a2)) (gt v a7)) (sw0 (gt v a15)))) (by kernel_rfl) (fun w => by kernel_rfl) ?_
          refine Hd.val (.int .i64 (t3 : Nat)) (by kernel_rfl) (fun w => by kernel_rfl) ?_
          refine Hd.val (.int .i64 ((a16 : Int))) (by kernel_rfl) (fun w => Eq.trans (b := .ok (.value (.int .i64 (IntKind.i64.wrap ((t3 : Int) - 16)))) w) (by kernel_rfl) (okI (f16))) ?_
          refine Hd.val (.pointer (some ⟨C + 1, a16, none⟩)) (by kernel_rfl) (fun w => exec_index_arr (k := .i64) (b := C + 1) (a16) 64 w rfl (by kernel_rfl) (by kernel_rfl) (by kernel_rfl) (by kernel_rfl) (by kernel_rfl) (by omega)) ?_
          refine Hd.cell (.int .u32 (gt v a16)) (⟨C + 1, a16, none⟩) (by kernel_rfl) rfl (by kernel_rfl) Tryd.underlying26 rfl (fun w hw => hw.aw.cell a16 (by rw [HVL.out]; omega)) ?_
          refine Hd.val (.int .u32 (aw (aw (aw (sw1 (gt v a2)) (gt v a7)) (sw0 (gt v a15))) (gt v a16))) (by kernel_rfl) (fun w => by kernel_rfl) ?_
          refine Hd.val (.pointer (some ⟨C + 1, t3, none⟩)) (by kernel_rfl) (fun w => exec_index_arr (k := .i64) (b := C + 1) (t3) 64 w rfl (by kernel_rfl) (by kernel_rfl) (by kernel_rfl) (by kernel_rfl) (by kernel_rfl) (by omega)) ?_
          refine wpHold_nil ?_
          simp only [Act.put, List.setIfInBounds_toArray, List.set_cons_zero, List.set_cons_succ]
          intro w9 hV9
          have hfw := hV9.aw.free t3
          have hcw := hV9.aw.cell t3 (by rw [HVL.out]; omega)
          clear hV7 f15 f16 f7 f2
          go_wp2_with fail
          go_roundg (64 - (t3 + 1))
          case measure => have := HGK.out; omega
          case rel => exact ⟨t3 + 1, by go_num, by omega, by omega, rfl, by rw [E.out]; exact hV9.setW hBC t3 _⟩
        · have hlt3I : ¬ (t3 : Int) < 64 := by omega
          have h80' : t3 = 64 := by omega
          obtain ⟨v, hv⟩ : ∃ v, schw b t3 = v := ⟨_, rfl⟩
          have hV80 : Vw w B C s v wr := hv ▸ hV
          have hkeep : ∀ t, t < 64 → gt v t = gt (schw b (t + 1)) t := fun t ht => by rw [← hv]; exact schw_keep b t t3 (by omega) (by omega)
          have hvl : v.length = 64 := by rw [← hv, schw_len]
          have HKP := Lib.hid hkeep
          have HVL := Lib.hid hvl
          have d0 := hV80.a0.cell 0 (by omega)
          have d1 := hV80.a0.cell 1 (by omega)
          have d2 := hV80.a0.cell 2 (by omega)
          have d3 := hV80.a0.cell 3 (by omega)
          have d4 := hV80.a0.cell 4 (by omega)
          have d5 := hV80.a0.cell 5 (by omega)
          have d6 := hV80.a0.cell 6 (by omega)
          have d7 := hV80.a0.cell 7 (by omega)
          clear hV h80' HGK hv hkeep hvl
          go_wp2_with fail
          go_quiet (fail)
          obtain ⟨qa, rfl⟩ : ∃ q, q = nq := ⟨_, rfl⟩
          go_wp2_with fail
          go_quiet (fail)
          have hV81 := (hV80.drewN qa).drewN nq
          change Exit.then _ _ _ _ ((wr.drewN qa).drewN nq)
          generalize (wr.drewN qa).drewN nq = w8 at hV81 ⊢
          clear d0 d1 d2 d3 d4 d5 d6 d7 hV80
          go_wp2_with fail
          go_loopg [11, 12, 13, 14, 15, 16, 17, 18, 19] 64 (fun gk xa xb xc xd xe xf xg xh x wr => Pw4 w B C s b v gk xa xb xc xd xe xf xg xh x wr)
          case atStart => exact ⟨0, s, rfl, rfl, Nat.zero_le _, rfl, rfl, rfl, rfl, rfl, rfl, rfl, rfl, rfl, hV81⟩
          case round =>
            clear hV81
            obtain ⟨t, z, hz_, rfl, ht80, hgk, rfl, rfl, rfl, rfl, rfl, rfl, rfl, rfl, hV⟩ := hrel
            have HGK := Lib.hid hgk
            have hzl : z.length = 8 := by rw [← hz_, rndsw_len b hs]
            have hzw : Ww z := hz_ ▸ rndsw_W b HSW.out t
            have HZ := Lib.hid hz_
            have HVW := Lib.hid hzw
            have HZL := Lib.hid hzl
            clear hgk hz_ hzw hzl
            by_cases hlt4 : t < 64
            · have hlt4I : (t : Int) < 64 := by omega
              have hkk := HKP.out t hlt4
              have HT : Hid (rndw z (gt k2L t) (gt v t) = rndsw b s (t + 1)) := by show rndw z _ _ = _; rw [rndsw, HZ.out, hkk]
              clear hkk
              obtain ⟨kk, hkk⟩ : ∃ kk, gt k2L t = kk := ⟨_, rfl⟩
              obtain ⟨x, hx⟩ : ∃ x, gt v t = x := ⟨_, rfl⟩
              have hck : ∀ w9, Vw w B C s v w9 → w9.cell? ⟨C, t, none⟩ = some (.int .u32 kk) := fun w9 h9 => by rw [← hkk]; exact h9.ak.cell t (by rw [k2_len]; exact hlt4)
              have hcx : ∀ w9, Vw w B C s v w9 → w9.cell? ⟨C + 1, t, none⟩ = some (.int .u32 x) := fun w9 h9 => by rw [← hx]; exact h9.aw.cell t (by rw [HVL.out]; exact hlt4)
              rw [hkk, hx] at HT
              clear hkk hx
              go_wp2_with fail
              refine wp_region_hold (fun w9 => Vw w B C s v w9) (by kernel_rfl) (by kernel_rfl) (hV.drewN 1) ?_
              refine Hd.val (.int .u32 (gt z 7)) (by kernel_rfl) (fun w => by kernel_rfl) ?_
              refine Hd.val (.int .u32 (gt z 4)) (by kernel_rfl) (fun w => by kernel_rfl) ?_
              refine Hd.call (f := 86) (args := #[.int .u32 (gt z 4), .int .u32 6]) (.int .u32 (rw2 (gt z 4) 6)) (by kernel_rfl) (fun w => by kernel_rfl) (fun w hw => (rrotw_any _ _ _ (HVW.out.gt _) (by decide) (by decide)).mono fun e w' h => ⟨h.1, h.2 ▸ hw⟩) ?_
              refine Hd.val (.int .u32 (gt z 4)) (by kernel_rfl) (fun w => by kernel_rfl) ?_
              refine Hd.call (f := 86) (args := #[.int .u32 (gt z 4), .int .u32 11]) (.int .u32 (rw2 (gt z 4) 11)) (by kernel_rfl) (fun w => by kernel_rfl) (fun w hw => (rrotw_any _ _ _ (HVW.out.gt _) (by decide) (by decide)).mono fun e w' h => ⟨h.1, h.2 ▸ hw⟩) ?_
              refine Hd.val (.int .u32 (Xw (rw2 (gt z 4) 6) (rw2 (gt z 4) 11))) (by kernel_rfl) (fun w => by kernel_rfl) ?_
              refine Hd.val (.int .u32 (gt z 4)) (by kernel_rfl) (fun w => by kernel_rfl) ?_
              refine Hd.call (f := 86) (args := #[.int .u32 (gt z 4), .int .u32 25]) (.int .u32 (rw2 (gt z 4) 25)) (by kernel_rfl) (fun w => by kernel_rfl) (fun w hw => (rrotw_any _ _ _ (HVW.out.gt _) (by decide) (by decide)).mono fun e w' h => ⟨h.1, h.2 ▸ hw⟩) ?_
              refine Hd.val (.int .u32 (Xw (Xw (rw2 (gt z 4) 6) (rw2 (gt z 4) 11)) (rw2 (gt z 4) 25))) (by kernel_rfl) (fun w => by kernel_rfl) ?_
              refine Hd.val (.int .u32 (aw (gt z 7) (Xw (Xw (rw2 (gt z 4) 6) (rw2 (gt z 4) 11)) (rw2 (gt z 4) 25)))) (by kernel_rfl) (fun w => by kernel_rfl) ?_
              refine Hd.val (.int .u32 (gt z 4)) (by kernel_rfl) (fun w => by kernel_rfl) ?_
              refine Hd.val (.int .u32 (gt z 5)) (by kernel_rfl) (fun w => by kernel_rfl) ?_
              refine Hd.val (.int .u32 (Nw (gt z 4) (gt z 5))) (by kernel_rfl) (fun w => by kernel_rfl) ?_
              refine Hd.val (.int .u32 (gt z 4)) (by kernel_rfl) (fun w => by kernel_rfl) ?_
              refine Hd.val (.int .u32 (Xw (gt z 4) 4294967295)) (by kernel_rfl) (fun w => by kernel_rfl) ?_
              refine Hd.val (.int .u32 (gt z 6)) (by kernel_rfl) (fun w => by kernel_rfl) ?_
              refine Hd.val (.int .u32 (Nw (Xw (gt z 4) 4294967295) (gt z 6))) (by kernel_rfl) (fun w => by kernel_rfl) ?_
              refine Hd.val (.int .u32 (Xw (Nw (gt z 4) (gt z 5)) (Nw (Xw (gt z 4) 4294967295) (gt z 6)))) (by kernel_rfl) (fun w => by kernel_rfl) ?_
              refine Hd.val (.int .u32 (aw (aw (gt z 7) (Xw (Xw (rw2 (gt z 4) 6) (rw2 (gt z 4) 11)) (rw2 (gt z 4) 25))) (Xw (Nw (gt z 4) (gt z 5)) (Nw (Xw (gt z 4) 4294967295) (gt z 6))))) (by kernel_rfl) (fun w => by kernel_rfl) ?_
              refine Hd.val (.int .i64 (t : Nat)) (by kernel_rfl) (fun w => by kernel_rfl) ?_
              refine Hd.val (.pointer (some ⟨C, t, none⟩)) (by kernel_rfl) (fun w => exec_index_arr (k := .i64) (b := C) (t) 64 w rfl (by kernel_rfl) (by kernel_rfl) (by kernel_rfl) (by kernel_rfl) (by kernel_rfl) (by omega)) ?_
              refine Hd.cell (.int .u32 (kk)) (⟨C, t, none⟩) (by kernel_rfl) rfl (by kernel_rfl) Tryd.underlying26 rfl (fun w hw => hck w hw) ?_
              refine Hd.val (.int .u32 (aw (aw (aw (gt z 7) (Xw (Xw (rw2 (gt z 4) 6) (rw2 (gt z 4) 11)) (rw2 (gt z 4) 25))) (Xw (Nw (gt z 4) (gt z 5)) (Nw (Xw (gt z 4) 4294967295) (gt z 6)))) kk)) (by kernel_rfl) (fun w => by kernel_rfl) ?_
              refine Hd.val (.int .i64 (t : Nat)) (by kernel_rfl) (fun w => by kernel_rfl) ?_
              refine Hd.val (.pointer (some ⟨C + 1, t, none⟩)) (by kernel_rfl) (fun w => exec_index_arr (k := .i64) (b := C + 1) (t) 64 w rfl (by kernel_rfl) (by kernel_rfl) (by kernel_rfl) (by kernel_rfl) (by kernel_rfl) (by omega)) ?_
              refine Hd.cell (.int .u32 (x)) (⟨C + 1, t, none⟩) (by kernel_rfl) rfl (by kernel_rfl) Tryd.underlying26 rfl (fun w hw => hcx w hw) ?_
              refine Hd.val (.int .u32 (aw (aw (aw (aw (gt z 7) (Xw (Xw (rw2 (gt z 4) 6) (rw2 (gt z 4) 11)) (rw2 (gt z 4) 25))) (Xw (Nw (gt z 4) (gt z 5)) (Nw (Xw (gt z 4) 4294967295) (gt z 6)))) kk) x)) (by kernel_rfl) (fun w => by kernel_rfl) ?_
              refine Hd.val (.int .u32 (aw (aw (aw (aw (gt z 7) (Xw (Xw (rw2 (gt z 4) 6) (rw2 (gt z 4) 11)) (rw2 (gt z 4) 25))) (Xw (Nw (gt z 4) (gt z 5)) (Nw (Xw (gt z 4) 4294967295) (gt z 6)))) kk) x)) (by kernel_rfl) (fun w => by kernel_rfl) ?_
              refine wpHold_nil ?_
              simp only [Act.put, List.setIfInBounds_toArray, List.set_cons_zero, List.set_cons_succ]
              intro w9 hV9
              clear hV hck hcx
              generalize h1 : aw (aw (aw (aw (gt z 7) (Xw (Xw (rw2 (gt z 4) 6) (rw2 (gt z 4) 11)) (rw2 (gt z 4) 25))) (Xw (Nw (gt z 4) (gt z 5)) (Nw (Xw (gt z 4) 4294967295) (gt z 6)))) kk) x = T1
              have e1 : T1 = t1W z kk x := by
                rw [← h1, notw_max]
                rfl
              have E1 := Lib.hid e1
              clear h1 e1
              go_upto_region 20 with (go_at_call 86; refine (rrotw_any _ _ _ (HVW.out.gt _) (by decide) (by decide)).mono ?_; rintro e w' ⟨rfl, rfl⟩)
              generalize h2 : ((bits .xor .u32 (bits .xor .u32 (rw2 (gt z 0) 2) (rw2 (gt z 0) 13)) (rw2 (gt z 0) 22) + bits .xor .u32 (bits .xor .u32 (bits .and .u32 (gt z 0) (gt z 1)) (bits .and .u32 (gt z 0) (gt z 2))) (bits .and .u32 (gt z 1) (gt z 2))) % 4294967296) = T2
              have e2 : T2 = t2W z := by
                rw [← h2]
                show _ = aw (Sw0 (gt z 0)) (majw (gt z 0) (gt z 1) (gt z 2))
                unfold aw
                rw [IntKind.wrap_u32]
                rfl
              have E2 := Lib.hid e2
              clear h2 e2
              go_wp2_with fail
              go_roundg (64 - (t + 1))
              case measure => have := HGK.out; omega
              case rel =>
                refine ⟨t + 1, rndw z kk x, HT.out.symm, by go_num, by omega, rfl, ?_, rfl, rfl, rfl, ?_, rfl, rfl, rfl, hV9⟩
                · rw [show gt (rndw z kk x) 0 = aw (t1W z kk x) (t2W z) from rfl, ← E1.out, ← E2.out, aw, IntKind.wrap_u32]
                · rw [show gt (rndw z kk x) 4 = aw (gt z 3) (t1W z kk x) from rfl, ← E1.out, aw, IntKind.wrap_u32]
            · have hlt4I : ¬ (t : Int) < 64 := by omega
              have h80' : t = 64 := by omega
              have d0 := hV.a0.cell 0 (by omega)
              have d1 := hV.a0.cell 1 (by omega)
              have d2 := hV.a0.cell 2 (by omega)
              have d3 := hV.a0.cell 3 (by omega)
              have d4 := hV.a0.cell 4 (by omega)
              have d5 := hV.a0.cell 5 (by omega)
              have d6 := hV.a0.cell 6 (by omega)
              have d7 := hV.a0.cell 7 (by omega)
              have hfin : Hid (turnRw s z = F) := by
                show turnRw s z = F
                rw [← HF.out, turn2, turnRw_eq s z HZL.out]
                congr 1
                have h := HZ.out
                rw [h80'] at h
                exact h.symm
              clear h80' HGK
              have hrow : Hid ([(gt s 0 + gt z 0) % 4294967296, (gt s 1 + gt z 1) % 4294967296, (gt s 2 + gt z 2) % 4294967296, (gt s 3 + gt z 3) % 4294967296, (gt s 4 + gt z 4) % 4294967296, (gt s 5 + gt z 5) % 4294967296, (gt s 6 + gt z 6) % 4294967296, (gt s 7 + gt z 7) % 4294967296] = turnRw s z) := by
                show _ = turnRw s z
                unfold turnRw aw
                simp only [IntKind.wrap_u32]
              go_wp2_with (refine wpList_store_arr (m := [(gt s 0 + gt z 0) % 4294967296, (gt s 1 + gt z 1) % 4294967296, (gt s 2 + gt z 2) % 4294967296, (gt s 3 + gt z 3) % 4294967296, (gt s 4 + gt z 4) % 4294967296, (gt s 5 + gt z 5) % 4294967296, (gt s 6 + gt z 6) % 4294967296, (gt s 7 + gt z 7) % 4294967296]) (o := ⟨none, _, _, _, _, _⟩) rfl 96 _ _ rfl rfl rfl hV.a1 8 inf_a8w rfl (by simp) ?_)
              refine bodyPost_arr 4 96 8 Tryd.underlying96 rfl inf_a8w rfl rfl rfl (hV.a1.setRow [(gt s 0 + gt z 0) % 4294967296, (gt s 1 + gt z 1) % 4294967296, (gt s 2 + gt z 2) % 4294967296, (gt s 3 + gt z 3) % 4294967296, (gt s 4 + gt z 4) % 4294967296, (gt s 5 + gt z 5) % 4294967296, (gt s 6 + gt z 6) % 4294967296, (gt s 7 + gt z 7) % 4294967296]) rfl ⟨by rw [hrow.out, hfin.out], ?_⟩
              exact hHB.out ▸ (hV.k.setRow (B + 1) _ (.inl (by omega))).below
end Go.Proofs.YtfaonieaagepjaaDoor
