/- sha2.spread, walked. Conditions: a block of 64 bytes. -/
import Derived.Test.YtfaonieaagepjaaDoorS2A
import Derived.Test.YtfaonieaagepjaaDoorZA
import Derived.Deep.DeepCutAuto
import Derived.Deep.CutBlock
import Derived.Deep.LoopGhost
namespace Go.Proofs.YtfaonieaagepjaaDoor
open Go.RowKit
set_option linter.unusedVariables false
set_option linter.unusedSimpArgs false

theorem inf_w8 : (Tryd.prog.info? 96).map (·.size) = some 8 := by kernel_rfl
theorem inf_w64 : (Tryd.prog.info? 111).map (·.size) = some 64 := by kernel_rfl
theorem inf_b64 : (Tryd.prog.info? 104).map (·.size) = some 64 := by kernel_rfl
def zw64 : List Int := List.replicate 64 0
theorem zw64_len : zw64.length = 64 := by decide
theorem zerow64 (w : World) : (zeroValue 111).run Tryd.prog w = .ok (.agg (U .u32 zw64)) w := by kernel_rfl
theorem beN_cutw (b : List Int) (o j : Nat) : ∀ m, m ≤ j → beN ((b.take (o + j)).drop o) m = beN (b.drop o) m
  | 0, _ => rfl
  | m + 1, h => by rw [beN, beN, beN_cutw b o j m (by omega), gt_drop, gt_drop, gt_take _ _ _ (by omega)]
theorem sl64 (B o : Nat) (l h : Int) (hl : l = (o : Int)) (hh : h = (o : Int) + 4) (ho : o + 4 ≤ 64) (w : World) :
    (Instr.sliceAt 104 (.pointer (some ⟨B, 0, none⟩)) (some (.int .i64 l)) (some (.int .i64 h)) none).run Tryd.prog w = .ok (.slice (if 64 = o then some ⟨B, 0, none⟩ else (some (⟨B, 0, none⟩ : Addr)).map (·.add o)) 4 (64 - o)) w := by
  have hal : Tryd.prog.arrayLen 104 = 64 := by kernel_rfl
  have hsz : ∀ w, (sizeOf (Tryd.prog.elem 104)).run Tryd.prog w = .ok 1 w := fun w => by kernel_rfl
  have e1 : l.toNat = o := by omega
  have e2 : h.toNat = o + 4 := by omega
  rw [run_sliceAt_array_lh w _ ⟨B, 0, none⟩ (by kernel_rfl) .i64 .i64 l h (by omega) (by omega) (by rw [hal]; omega), hsz, Result.andThen_ok, hal, e1, e2]
  unfold slicedAt
  rw [show o + 4 - o = 4 by omega, Nat.mul_one, if_neg (by omega), if_neg (by omega)]
  rfl
/-- Between the rounds: the block, the result's box, the schedule. -/
structure Tw (w0 : World) (B : Nat) (b v : List Int) (w : World) : Prop where
  a0 : Arr w B 104 .u8 b
  a1 : Arr w (B + 1) 111 .u32 zw64
  aw : Arr w (B + 2) 111 .u32 v
  k : Kept B (fun _ => False) w0 w
theorem Tw.drewN {w0 w : World} {B : Nat} {b v : List Int} (h : Tw w0 B b v w) (q : Nat) : Tw w0 B b v (w.drewN q) := ⟨h.a0, h.a1, h.aw, h.k.drewN q⟩
theorem Tw.setW {w0 w : World} {B : Nat} {b v : List Int} (h : Tw w0 B b v w) (i : Nat) (x : Int) : Tw w0 B b (st v i x) (w.setCell ⟨B + 2, i, none⟩ (.int .u32 x)) :=
  ⟨h.a0.other _ _ _ (by omega), h.a1.other _ _ _ (by omega), h.aw.set i x, h.k.set _ _ _ (.inl (by omega))⟩
def Lw (w0 : World) (B : Nat) (b : List Int) (gk : Nat) (v : Value) (w : World) : Prop :=
  ∃ t : Nat, v = .int .i64 t ∧ t ≤ 64 ∧ gk = 64 - t ∧ Tw w0 B b (schw b t) w
def Mw (w0 : World) (B : Nat) (b : List Int) (t : Nat) (w : World) : Prop := Tw w0 B b (schw b (t + 1)) w
set_option maxRecDepth 100000 in
set_option maxHeartbeats 4000000 in
theorem spread_any (b : List Int) (w : World) (hb : Bys b) (hbl : b.length = 64) :
    Calls Tryd.prog 88 #[.agg (U .u8 b)] w fun e w' => e = .returned (.agg (U .u32 (schw b 64))) ∧ Below w.heap.size w w' := by
  have z64 := zerow64
  obtain ⟨V, hV⟩ : ∃ V, schw b 64 = V := ⟨_, rfl⟩
  rw [hV]
  have HV := Lib.hid hV
  clear hV
  obtain ⟨B, hB⟩ : ∃ B, w.heap.size = B := ⟨_, rfl⟩
  obtain ⟨w3, hw3⟩ : ∃ w3, ((w.alloc (.cells (U .u8 b) 104)).alloc (.cells (U .u32 zw64) 111)).alloc (.cells (U .u32 zw64) 111) = w3 := ⟨_, rfl⟩
  have h0 : Tw w B b zw64 w3 := by
    have hs1 : (w.alloc (.cells (U .u8 b) 104)).heap.size = B + 1 := by simp [hB]
    have hs2 : ((w.alloc (.cells (U .u8 b) 104)).alloc (.cells (U .u32 zw64) 111)).heap.size = B + 2 := by simp [hB]
    have hA := Arr.new w 104 .u8 b
    have hN := Arr.new (w.alloc (.cells (U .u8 b) 104)) 111 .u32 zw64
    have hW := Arr.new ((w.alloc (.cells (U .u8 b) 104)).alloc (.cells (U .u32 zw64) 111)) 111 .u32 zw64
    rw [hB] at hA
    rw [hs1] at hN
    rw [hs2] at hW
    rw [← hw3]
    exact ⟨(hA.alloc _).alloc _, hN.alloc _, hW, (((Kept.refl _ _ w).alloc _ (by omega)).alloc _ (by omega)).alloc _ (by omega)⟩
  rw [hB]
  have HB := Lib.hid hB
  go_enter Tryd.func88, Tryd.ntmps88
  go_upto_region 2 with fail
  clear hw3
  go_wp2_with fail
  go_loopg [9] 64 (fun gk v wr => Lw w B b gk v wr)
  case atStart => exact ⟨0, rfl, Nat.zero_le _, rfl, h0⟩
  case round =>
    clear h0
    obtain ⟨t, rfl, ht64, hgk, hT⟩ := hrel
    have HGK := Lib.hid hgk
    clear hgk
    have hschl := schw_len b t
    have hschw := schw_W hb t
    have hBr : B ≤ wr.heap.size := by have := hT.k.size; have := HB.out; omega
    by_cases hlt : t < 64
    · have hltI : (t : Int) < 64 := by omega
      have hfw := hT.aw.free t
      have hcw := hT.aw.cell t (by rw [hschl]; omega)
      by_cases h16 : t < 16
      · have h16I : (t : Int) < 16 := by omega
        have hR0 : Rd wr (B + 1) .u8 (some ⟨B, 0, none⟩) b := Rd.of_arr hT.a0 (by omega)
        have hcut := hR0.cut (4 * t) (4 * t + 4) 64 (by omega) (by omega)
        have hsl := sl64 B (4 * t) ((t : Int) * 4) (((t : Int) + 1) * 4) (by omega) (by omega) (by omega)
        obtain ⟨A2, hA2⟩ : ∃ A2, (if 64 = 4 * t then some ⟨B, 0, none⟩ else (some (⟨B, 0, none⟩ : Addr)).map (·.add (4 * t))) = A2 := ⟨_, rfl⟩
        obtain ⟨c2, hc2⟩ : ∃ c2, 64 - 4 * t = c2 := ⟨_, rfl⟩
        rw [hA2, hc2] at hsl
        rw [hA2] at hcut
        have hcl : ((b.take (4 * t + 4)).drop (4 * t)).length = 4 := by simp; omega
        have hG := get_any ((b.take (4 * t + 4)).drop (4 * t)) A2 c2 _ 4 wr hcut ((hb.take _).drop _) hcl (by omega)
        rw [beN_cutw b (4 * t) 4 4 (Nat.le_refl _)] at hG
        obtain ⟨x, hx⟩ : ∃ x, beN (b.drop (4 * t)) 4 = x := ⟨_, rfl⟩
        have hxw := be4_W (hb.drop (4 * t))
        rw [hx] at hG hxw
        have hnext : schw b (t + 1) = st (schw b t) t x := by rw [schw, if_pos h16, hx]
        obtain ⟨hx0, hx1⟩ := hxw
        have HN := Lib.hid hnext
        clear hx hnext hA2 hc2 hcl hcut hR0
        go_wp2_with fail
        refine hG.mono ?_
        rintro e w' ⟨rfl, rfl⟩
        clear hG hsl
        go_wp2_with fail
        go_roundg (64 - (t + 1))
        case measure => have := HGK.out; omega
        case rel => exact ⟨t + 1, by go_num, by omega, rfl, by rw [HN.out]; exact hT.setW t x⟩
      · have h16I : ¬ (t : Int) < 16 := by omega
        obtain ⟨a15, e15⟩ : ∃ a, t - 15 = a := ⟨_, rfl⟩
        obtain ⟨a16, e16⟩ : ∃ a, t - 16 = a := ⟨_, rfl⟩
        obtain ⟨a7, e7⟩ : ∃ a, t - 7 = a := ⟨_, rfl⟩
        obtain ⟨a2, e2⟩ : ∃ a, t - 2 = a := ⟨_, rfl⟩
        have f15 : IntKind.i64.wrap ((t : Int) - 15) = (a15 : Int) := by rw [IntWalk.i64_in _ (by omega)]; omega
        have f16 : IntKind.i64.wrap ((t : Int) - 16) = (a16 : Int) := by rw [IntWalk.i64_in _ (by omega)]; omega
        have f7 : IntKind.i64.wrap ((t : Int) - 7) = (a7 : Int) := by rw [IntWalk.i64_in _ (by omega)]; omega
        have f2 : IntKind.i64.wrap ((t : Int) - 2) = (a2 : Int) := by rw [IntWalk.i64_in _ (by omega)]; omega
        obtain ⟨l, hl⟩ : ∃ l, schw b t = l := ⟨_, rfl⟩
        rw [hl] at hT hschl hschw hcw
        have c15 := hT.aw.cell a15 (by omega)
        have c16 := hT.aw.cell a16 (by omega)
        have c7 := hT.aw.cell a7 (by omega)
        have c2 := hT.aw.cell a2 (by omega)
        have b15 : (a15 : Int) < 64 := by omega
        have b16 : (a16 : Int) < 64 := by omega
        have b7 : (a7 : Int) < 64 := by omega
        have b2 : (a2 : Int) < 64 := by omega
        have E : Hid (schw b (t + 1) = st l t (aw (aw (aw (gt l a16) (sw0 (gt l a15))) (gt l a7)) (sw1 (gt l a2)))) := by show schw b (t + 1) = _; rw [schw, if_neg h16, hl, mixW, e15, e16, e7, e2]
        have HW := Lib.hid hschw
        have HL := Lib.hid hschl
        clear e15 e16 e7 e2 hl hschw hschl
        go_wp2_with fail
        go_quiet (fail)
        have hT2 := hT.drewN nq
        change Exit.then _ _ _ _ (wr.drewN nq)
        generalize wr.drewN nq = w2 at hT2 ⊢
        clear hcw hfw c15 c16 c7 c2 hT
        go_wp2_with fail
        refine wp_region_hold_tail 29 (fun w9 => Tw w B b l w9) (by kernel_rfl) (by kernel_rfl) (hT2.drewN 1) ?_
        simp only [List.take_succ_cons, List.take_zero, List.drop_succ_cons, List.drop_zero]
        refine Hd.val (.int .i64 (t : Nat)) (by kernel_rfl) (fun w => by kernel_rfl) ?_
        refine Hd.val (.int .i64 (t : Nat)) (by kernel_rfl) (fun w => by kernel_rfl) ?_
        refine Hd.val (.int .i64 ((a16 : Int))) (by kernel_rfl) (fun w => Eq.trans (b := .ok (.value (.int .i64 (IntKind.i64.wrap ((t : Int) - 16)))) w) (by kernel_rfl) (okI (f16))) ?_
        refine Hd.val (.pointer (some ⟨B + 2, a16, none⟩)) (by kernel_rfl) (fun w => exec_index_arr (k := .i64) (b := B + 2) (a16) 64 w rfl (by kernel_rfl) (by kernel_rfl) (by kernel_rfl) (by kernel_rfl) (by kernel_rfl) (by omega)) ?_
        refine Hd.cell (.int .u32 (gt l a16)) (⟨B + 2, a16, none⟩) (by kernel_rfl) rfl (by kernel_rfl) Tryd.underlying26 rfl (fun w hw => hw.aw.cell a16 (by rw [HL.out]; omega)) ?_
        refine Hd.val (.int .u32 (gt l a15)) (by kernel_rfl) (fun w => by kernel_rfl) ?_
        refine Hd.call (f := 89) (args := #[.int .u32 (gt l a15), .int .i64 7]) (.int .u32 (rw2 (gt l a15) 7)) (by kernel_rfl) (fun w => by kernel_rfl) (fun w hw => (rot2_any _ _ _ (HW.out.gt _) (by decide) (by decide)).mono fun e w' h => ⟨h.1, h.2 ▸ hw⟩) ?_
        refine Hd.val (.int .u32 (gt l a15)) (by kernel_rfl) (fun w => by kernel_rfl) ?_
        refine Hd.call (f := 89) (args := #[.int .u32 (gt l a15), .int .i64 18]) (.int .u32 (rw2 (gt l a15) 18)) (by kernel_rfl) (fun w => by kernel_rfl) (fun w hw => (rot2_any _ _ _ (HW.out.gt _) (by decide) (by decide)).mono fun e w' h => ⟨h.1, h.2 ▸ hw⟩) ?_
        refine Hd.val (.int .u32 (Xw (rw2 (gt l a15) 7) (rw2 (gt l a15) 18))) (by kernel_rfl) (fun w => by kernel_rfl) ?_
        refine Hd.val (.int .u32 (gt l a15)) (by kernel_rfl) (fun w => by kernel_rfl) ?_
        refine Hd.val (.int .u32 (gt l a15 / 8)) (by kernel_rfl) (fun w => Eq.trans (b := .ok (.value (.int .u32 ((gt l a15).fdiv 8))) w) (by kernel_rfl) (okI (Int.fdiv_eq_ediv_of_nonneg _ (by decide)))) ?_
        refine Hd.val (.int .u32 (sw0 (gt l a15))) (by kernel_rfl) (fun w => by kernel_rfl) ?_
        refine Hd.val (.int .u32 (aw (gt l a16) (sw0 (gt l a15)))) (by kernel_rfl) (fun w => by kernel_rfl) ?_
        refine Hd.val (.int .i64 (t : Nat)) (by kernel_rfl) (fun w => by kernel_rfl) ?_
        refine Hd.val (.int .i64 ((a7 : Int))) (by kernel_rfl) (fun w => Eq.trans (b := .ok (.value (.int .i64 (IntKind.i64.wrap ((t : Int) - 7)))) w) (by kernel_rfl) (okI (f7))) ?_
        refine Hd.val (.pointer (some ⟨B + 2, a7, none⟩)) (by kernel_rfl) (fun w => exec_index_arr (k := .i64) (b := B + 2) (a7) 64 w rfl (by kernel_rfl) (by kernel_rfl) (by kernel_rfl) (by kernel_rfl) (by kernel_rfl) (by omega)) ?_
        refine Hd.cell (.int .u32 (gt l a7)) (⟨B + 2, a7, none⟩) (by kernel_rfl) rfl (by kernel_rfl) Tryd.underlying26 rfl (fun w hw => hw.aw.cell a7 (by rw [HL.out]; omega)) ?_
        refine Hd.val (.int .u32 (aw (aw (gt l a16) (sw0 (gt l a15))) (gt l a7))) (by kernel_rfl) (fun w => by kernel_rfl) ?_
        refine Hd.val (.int .u32 (gt l a2)) (by kernel_rfl) (fun w => by kernel_rfl) ?_
        refine Hd.call (f := 89) (args := #[.int .u32 (gt l a2), .int .i64 17]) (.int .u32 (rw2 (gt l a2) 17)) (by kernel_rfl) (fun w => by kernel_rfl) (fun w hw => (rot2_any _ _ _ (HW.out.gt _) (by decide) (by decide)).mono fun e w' h => ⟨h.1, h.2 ▸ hw⟩) ?_
        refine Hd.val (.int .u32 (gt l a2)) (by kernel_rfl) (fun w => by kernel_rfl) ?_
        refine Hd.call (f := 89) (args := #[.int .u32 (gt l a2), .int .i64 19]) (.int .u32 (rw2 (gt l a2) 19)) (by kernel_rfl) (fun w => by kernel_rfl) (fun w hw => (rot2_any _ _ _ (HW.out.gt _) (by decide) (by decide)).mono fun e w' h => ⟨h.1, h.2 ▸ hw⟩) ?_
        refine Hd.val (.int .u32 (Xw (rw2 (gt l a2) 17) (rw2 (gt l a2) 19))) (by kernel_rfl) (fun w => by kernel_rfl) ?_
        refine Hd.val (.int .u32 (gt l a2)) (by kernel_rfl) (fun w => by kernel_rfl) ?_
        refine Hd.val (.int .u32 (gt l a2 / 1024)) (by kernel_rfl) (fun w => Eq.trans (b := .ok (.value (.int .u32 ((gt l a2).fdiv 1024))) w) (by kernel_rfl) (okI (Int.fdiv_eq_ediv_of_nonneg _ (by decide)))) ?_
        refine Hd.val (.int .u32 (sw1 (gt l a2))) (by kernel_rfl) (fun w => by kernel_rfl) ?_
        refine Hd.val (.int .u32 (aw (aw (aw (gt l a16) (sw0 (gt l a15))) (gt l a7)) (sw1 (gt l a2)))) (by kernel_rfl) (fun w => by kernel_rfl) ?_
        refine Hd.val (.pointer (some ⟨B + 2, t, none⟩)) (by kernel_rfl) (fun w => exec_index_arr (k := .i64) (b := B + 2) (t) 64 w rfl (by kernel_rfl) (by kernel_rfl) (by kernel_rfl) (by kernel_rfl) (by kernel_rfl) (by omega)) ?_
        refine wpHold_nil ?_
        simp only [Act.put, List.setIfInBounds_toArray, List.set_cons_zero, List.set_cons_succ]
        intro w9 hT9
        have hfw := hT9.aw.free t
        have hcw := hT9.aw.cell t (by rw [HL.out]; omega)
        clear f15 f16 f7 f2
        go_wp2_with fail
        go_roundg (64 - (t + 1))
        case measure => have := HGK.out; omega
        case rel => exact ⟨t + 1, by go_num, by omega, rfl, by rw [E.out]; exact hT9.setW t _⟩
    · have hltI : ¬ (t : Int) < 64 := by omega
      have hT2 : Tw w B b V wr := by
        have h : t = 64 := by omega
        rw [h, HV.out] at hT
        exact hT
      have hvl : V.length = 64 := by rw [← HV.out]; exact schw_len b 64
      clear hschw hBr hT hschl HGK
      go_wp2_with (first | (refine wpList_load_arr (o := ⟨some 66, _, _, _, _, _⟩) rfl 111 _ rfl rfl hT2.aw Tryd.underlying111 rfl 64 inf_w64 hvl ?_) | (refine wpList_store_arr (o := ⟨none, _, _, _, _, _⟩) rfl 111 _ _ rfl rfl rfl hT2.a1 64 inf_w64 hvl zw64_len ?_))
      refine bodyPost_arr 2 111 64 Tryd.underlying111 rfl inf_w64 rfl rfl rfl (hT2.a1.setRow V) hvl ⟨rfl, ?_⟩
      exact (hT2.k.setRow (B + 1) _ (.inl (by omega))).below
end Go.Proofs.YtfaonieaagepjaaDoor
