/- Sha2Adds: rounds taken back, and the walk. Conditions: a block of bytes, states of 32-bit words; the tables. -/
import Derived.Test.YteidkdpfjponfaaDoorS2K
namespace Go.Proofs.YteidkdpfjponfaaDoor
open Go.RowKit
set_option linter.unusedVariables false
set_option linter.unusedSimpArgs false
theorem aw_canR {x y c : Int} (hx : W32 x) (hy : W32 y) (h : aw x c = aw y c) : x = y := by
  unfold aw at h; rw [IntKind.wrap_u32, IntKind.wrap_u32] at h; obtain ⟨h1, h2⟩ := hx; obtain ⟨h3, h4⟩ := hy; omega
theorem rndw_inj {s z : List Int} {k w : Int} (hs : s.length = 8) (hz : z.length = 8) (hW : Ww s) (hV : Ww z) (h : rndw s k w = rndw z k w) : s = z := by
  simp only [rndw, List.cons.injEq, and_true] at h
  obtain ⟨h0, h1, h2, h3, h4, h5, h6, h7⟩ := h
  have e2 : t2W s = t2W z := by unfold t2W; rw [h1, h2, h3]
  rw [e2] at h0
  have e1 : t1W s k w = t1W z k w := aw_canR (aw_W _ _) (aw_W _ _) h0
  rw [e1] at h4
  have e3 := aw_canR (hW.gt 3) (hV.gt 3) h4
  unfold t1W at e1
  rw [h5, h6, h7] at e1
  have e7 := aw_canR (hW.gt 7) (hV.gt 7) (aw_canR (aw_W _ _) (aw_W _ _) (aw_canR (aw_W _ _) (aw_W _ _) (aw_canR (aw_W _ _) (aw_W _ _) e1)))
  refine ext_gt s z (by rw [hs, hz]) fun i hi => ?_
  rw [hs] at hi
  match i, hi with
  | 0, _ => exact h1
  | 1, _ => exact h2
  | 2, _ => exact h3
  | 3, _ => exact e3
  | 4, _ => exact h5
  | 5, _ => exact h6
  | 6, _ => exact h7
  | 7, _ => exact e7
theorem rndsw_inj (b : List Int) {s z : List Int} (hs : s.length = 8) (hz : z.length = 8) (hW : Ww s) (hV : Ww z) : ∀ t, rndsw b s t = rndsw b z t → s = z
  | 0, h => h
  | t + 1, h => rndsw_inj b hs hz hW hV t (rndw_inj (rndsw_len b hs t) (rndsw_len b hz t) (rndsw_W b hW t) (rndsw_W b hV t) h)
theorem turn2_sub {s b : List Int} (hs : s.length = 8) (hW : Ww s) (i : Nat) (hi : i < 8) : IntKind.u32.wrap (gt (turn2 s b) i - gt s i) = gt (rndsw b s 64) i := by
  rw [turn2, gt_addw _ _ _ _ (by rw [rndsw_len b hs]; omega), if_pos hi]
  obtain ⟨h1, h2⟩ := (rndsw_W b hW 64).gt i
  obtain ⟨h3, h4⟩ := hW.gt i
  unfold aw
  rw [IntKind.wrap_u32, IntKind.wrap_u32]
  omega
def smw (p q : List Int) : Nat → Bool
  | 0 => true
  | i + 1 => smw p q i && (gt p i == gt q i)
theorem smw_all (p q : List Int) : ∀ i, smw p q i = true ↔ ∀ j, j < i → gt p j = gt q j
  | 0 => by simp [smw]
  | i + 1 => by
    rw [smw, Bool.and_eq_true, smw_all p q i]
    constructor
    · intro ⟨h1, h2⟩ j hj
      rcases Nat.lt_succ_iff_lt_or_eq.1 hj with h | rfl
      · exact h1 j h
      · simpa using h2
    · intro h
      exact ⟨fun j hj => h j (by omega), by simpa using h i (by omega)⟩
theorem smw_end (b : List Int) {s z : List Int} (hs : s.length = 8) (hz : z.length = 8) (hW : Ww s) (hV : Ww z) : smw (rndsw b s 64) (rndsw b z 64) 8 = decide (s = z) := by
  by_cases h : s = z
  · rw [decide_eq_true h, smw_all, h]; exact fun _ _ => rfl
  · rw [decide_eq_false h]
    cases hq : smw (rndsw b s 64) (rndsw b z 64) 8 with
    | false => rfl
    | true => exact absurd (rndsw_inj b hs hz hW hV 64 (ext_gt _ _ (by rw [rndsw_len b hs, rndsw_len b hz]) fun i hi => (smw_all _ _ _).1 hq i (by rw [rndsw_len b hs] at hi; exact hi))) h
structure T2A (w0 : World) (B gx gy : Nat) (a b X Y : List Int) (w : World) : Prop where
  aA : Arr w B 28 .u32 a
  aB : Arr w (B + 1) 28 .u32 b
  aX : Arr w gx 28 .u32 X
  aY : Arr w gy 28 .u32 Y
  kp : Kept B (fun _ => False) w0 w
theorem T2A.dr {w0 w : World} {B gx gy : Nat} {a b X Y : List Int} (h : T2A w0 B gx gy a b X Y w) (n : Nat) : T2A w0 B gx gy a b X Y (w.drewN n) := ⟨h.aA.drewN n, h.aB.drewN n, h.aX.drewN n, h.aY.drewN n, h.kp.drewN n⟩
theorem exec_eql_arr2 {P : Program} {t e ty : TypeId} {n : Nat} {k : IntKind} {l m : List Int} {o : Oper} {a : Act} {x y : Operand} {d : Bool} (hd : decide (l = m) = d) (ho : o.op = .binOp .eql t x y ty) (hx : a.eval x = .agg (U k l)) (hy : a.eval y = .agg (U k m))
    (hu : P.underlying t = some (.array n e)) (he : P.underlying e = some (.int k)) (hs : (P.info? e).map (·.size) = some 1) (hl : l.length = n) (hm : m.length = n) (hgt : P.eqGuardType P.depth t = false) (w : World) :
    (execOp a.eval o).run P w = .ok (.value (.bool d)) w := by
  have h := run_equalIn_arr (P := P) (l := l) (m := m) hu he hs hl hm w
  rw [hd] at h
  refine exec_bin w ho hx hy ?_ ?_
  · simp [eqGuard, hgt]
  · have h2 : (Op.equal t (.agg (U k l)) (.agg (U k m))).run P w = .ok d w := h
    simp only [binOp, Sem.run_bind, h2, Result.andThen_ok, Sem.run_pure]
theorem guard28 : Tryd.prog.eqGuardType Tryd.prog.depth 28 = false := by kernel_rfl
theorem size27 : (Tryd.prog.info? 27).map (·.size) = some 1 := by kernel_rfl
set_option maxRecDepth 100000 in
set_option maxHeartbeats 4000000 in
theorem adds2_walk (a b k : List Int) (w : World) (ha : a.length = 8) (hbl : b.length = 8) (hkl : k.length = 64) (haW : Ww a) (hbW : Ww b) (hk : Bys k) (hT : S2Tb w) :
    Calls Tryd.prog 8 #[.agg (U .u32 a), .agg (U .u32 b), .agg (U .u8 k)] w fun e w' => e = .returned (.bool true) ∧ Below w.heap.size w w' := by
  obtain ⟨B, hB⟩ : ∃ B, w.heap.size = B := ⟨_, rfl⟩
  have hfin := smw_end k ha hbl haW hbW
  have hsubA := fun i hi => turn2_sub (b := k) ha haW i hi
  have hsubB := fun i hi => turn2_sub (b := k) hbl hbW i hi
  generalize rndsw k a 64 = R at hfin hsubA
  generalize rndsw k b 64 = R' at hfin hsubB
  obtain ⟨X, hX⟩ : ∃ X, turn2 a k = X := ⟨_, rfl⟩
  obtain ⟨Y, hY⟩ : ∃ Y, turn2 b k = Y := ⟨_, rfl⟩
  have hXl : X.length = 8 := by rw [← hX, turn2_len _ ha]
  have hYl : Y.length = 8 := by rw [← hY, turn2_len _ hbl]
  rw [hX] at hsubA
  rw [hY] at hsubB
  have hA0 := (((Arr.new w 28 .u32 a).alloc (.cells (U .u32 b) 28)).alloc (.cells (U .u8 k) 29))
  have hB0 := (Arr.new (w.alloc (.cells (U .u32 a) 28)) 28 .u32 b).alloc (.cells (U .u8 k) 29)
  have hK0 := Arr.new ((w.alloc (.cells (U .u32 a) 28)).alloc (.cells (U .u32 b) 28)) 29 .u8 k
  rw [show (w.alloc (.cells (U .u32 a) 28)).heap.size = B + 1 by simp [hB]] at hB0
  rw [show ((w.alloc (.cells (U .u32 a) 28)).alloc (.cells (U .u32 b) 28)).heap.size = B + 2 by simp [hB]] at hK0
  rw [hB] at hA0
  have L0 := (((Kept.refl B (fun _ => False) w).al (by omega) (.cells (U .u32 a) 28)).al (by simp; omega) (.cells (U .u32 b) 28)).al (by simp; omega) (.cells (U .u8 k) 29)
  go_enter Tryd.func8, Tryd.ntmps8
  go_upto_region 1 with fail
  generalize ((w.alloc (.cells (U .u32 a) 28)).alloc (.cells (U .u32 b) 28)).alloc (.cells (U .u8 k) 29) = w0 at hA0 hB0 hK0 L0 ⊢
  have hT0 := hT.kept L0 (by omega) (fun h => h) (fun h => h)
  have HB := Lib.hid hB
  have hsB := L0.size
  have HX := Lib.hid hX
  have HY := Lib.hid hY
  clear hB hX hY hT hsB
  go_wp2_with fail
  (with_reducible refine (awake02_any w0 hT0).mono ?_)
  rintro e w1 ⟨rfl, hb1⟩
  have hA1 := hA0.below hb1 hA0.lt
  have hB1 := hB0.below hb1 hB0.lt
  have hK1 := hK0.below hb1 hK0.lt
  have hT1 := hT0.below hb1 (Nat.le_refl _)
  have L1 := L0.bl (by have := hA0.lt; omega) hb1
  clear hA0 hB0 hK0 hT0 L0 hb1
  go_wp2_with (first | (refine wpList_load_arr (o := ⟨some 13, _, _, _, _, _⟩) rfl 28 _ rfl rfl hA1 Tryd.underlying28 rfl 8 inf_w8 ha ?_) | (refine wpList_load_arr (o := ⟨some 14, _, _, _, _, _⟩) rfl 29 _ rfl rfl hK1 Tryd.underlying29 rfl 64 (by kernel_rfl) hkl ?_))
  (with_reducible refine (turn2_any a k X w1 HX.out ha haW hk hkl hT1.kt hT1.lt.1).mono ?_)
  rintro e w2 ⟨rfl, hb2⟩
  have hA2 := hA1.below hb2 hA1.lt
  have hB2 := hB1.below hb2 hB1.lt
  have hK2 := hK1.below hb2 hK1.lt
  have hT2 := hT1.below hb2 (Nat.le_refl _)
  have L2 := L1.bl (by have := hA1.lt; omega) hb2
  clear hA1 hB1 hK1 hT1 L1 hb2
  have hX3 := Arr.new w2 28 .u32 (List.replicate 8 0)
  have hA3 := ((hA2.alloc (.cells (U .u32 (List.replicate 8 0)) 28)).otherRow w2.heap.size (U .u32 X) (by have := hA2.lt; omega))
  have hB3 := ((hB2.alloc (.cells (U .u32 (List.replicate 8 0)) 28)).otherRow w2.heap.size (U .u32 X) (by have := hB2.lt; omega))
  have hK3 := ((hK2.alloc (.cells (U .u32 (List.replicate 8 0)) 28)).otherRow w2.heap.size (U .u32 X) (by have := hK2.lt; omega))
  have hX4 := hX3.setRow X
  have L3 := (L2.al (by have := hA2.lt; omega) (.cells (U .u32 (List.replicate 8 0)) 28)).setRow w2.heap.size (U .u32 X) (.inl (by have := hA2.lt; omega))
  go_wp2_with (first | (refine wpList_store_arr (o := ⟨none, _, _, _, _, _⟩) rfl 28 _ _ rfl rfl rfl hX3 8 inf_w8 hXl rfl ?_) | (refine wpList_load_arr (o := ⟨some 16, _, _, _, _, _⟩) rfl 28 _ rfl rfl hB3 Tryd.underlying28 rfl 8 inf_w8 hbl ?_) | (refine wpList_load_arr (o := ⟨some 17, _, _, _, _, _⟩) rfl 29 _ rfl rfl hK3 Tryd.underlying29 rfl 64 (by kernel_rfl) hkl ?_))
  have hT3 : S2Tb ((w2.alloc (.cells (U .u32 (List.replicate 8 0)) 28)).setRow w2.heap.size (U .u32 X)) := hT2.kept (((Kept.refl w2.heap.size (fun _ => False) w2).al (Nat.le_refl _) _).setRow w2.heap.size (U .u32 X) (.inl (Nat.le_refl _))) (Nat.le_refl _) (fun h => h) (fun h => h)
  obtain ⟨gx, hgx⟩ : ∃ gx, w2.heap.size = gx := ⟨_, rfl⟩
  have hgB : B + 2 < gx := by have := hK2.lt; omega
  change Calls _ _ _ ((w2.alloc (.cells (U .u32 (List.replicate 8 0)) 28)).setRow w2.heap.size (U .u32 X)) _
  rw [hgx] at hA3 hB3 hK3 hX4 L3 hT3 ⊢
  generalize (w2.alloc (.cells (U .u32 (List.replicate 8 0)) 28)).setRow gx (U .u32 X) = w3 at hA3 hB3 hK3 hX4 L3 hT3 ⊢
  clear hA2 hB2 hK2 hT2 L2 hX3 hgx
  (with_reducible refine (turn2_any b k Y w3 HY.out hbl hbW hk hkl hT3.kt hT3.lt.1).mono ?_)
  rintro e w4 ⟨rfl, hb4⟩
  have hA5 := hA3.below hb4 hA3.lt
  have hB5 := hB3.below hb4 hB3.lt
  have hX5 := hX4.below hb4 hX4.lt
  have L5 := L3.bl (by have := hA3.lt; omega) hb4
  clear hA3 hB3 hK3 hX4 hT3 L3 hb4
  have hY5 := Arr.new w4 28 .u32 (List.replicate 8 0)
  have hA6 := ((hA5.alloc (.cells (U .u32 (List.replicate 8 0)) 28)).otherRow w4.heap.size (U .u32 Y) (by have := hA5.lt; omega))
  have hB6 := ((hB5.alloc (.cells (U .u32 (List.replicate 8 0)) 28)).otherRow w4.heap.size (U .u32 Y) (by have := hB5.lt; omega))
  have hX6 := ((hX5.alloc (.cells (U .u32 (List.replicate 8 0)) 28)).otherRow w4.heap.size (U .u32 Y) (by have := hX5.lt; omega))
  have hY6 := hY5.setRow Y
  have L6 := (L5.al (by have := hA5.lt; omega) (.cells (U .u32 (List.replicate 8 0)) 28)).setRow w4.heap.size (U .u32 Y) (.inl (by have := hA5.lt; omega))
  go_upto_region 5 with (refine wpList_store_arr (o := ⟨none, _, _, _, _, _⟩) rfl 28 _ _ rfl rfl rfl hY5 8 inf_w8 hYl rfl ?_)
  obtain ⟨gy, hgy⟩ : ∃ gy, w4.heap.size = gy := ⟨_, rfl⟩
  change Code.wp _ _ _ _ ((w4.alloc (.cells (U .u32 (List.replicate 8 0)) 28)).setRow w4.heap.size (U .u32 Y))
  rw [hgy] at hA6 hB6 hX6 hY6 L6 ⊢
  generalize (w4.alloc (.cells (U .u32 (List.replicate 8 0)) 28)).setRow gy (U .u32 Y) = w6 at hA6 hB6 hX6 hY6 L6 ⊢
  have hI6 : T2A w B gx gy a b X Y w6 := ⟨hA6, hB6, hX6, hY6, L6⟩
  clear hA5 hB5 hX5 L5 hY5 hA6 hB6 hX6 hY6 L6 hgy hgB
  go_wp2_with fail
  go_loopg [9, 10] 8 (fun gk v x wr => ∃ i : Nat, v = .bool (smw R R' i) ∧ x = .int .i64 i ∧ i ≤ 8 ∧ gk = 8 - i ∧ T2A w B gx gy a b X Y wr)
  case atStart => exact ⟨0, rfl, rfl, Nat.zero_le _, rfl, hI6⟩
  case round =>
    clear hI6
    obtain ⟨i, rfl, rfl, hi, hgk, hI⟩ := hrel
    have HGK := Lib.hid hgk
    clear hgk
    by_cases hlt : i < 8
    · have hltI : (i : Int) < 8 := by omega
      have e1 := hsubA i hlt
      have e2 := hsubB i hlt
      have hsm : smw R R' (i + 1) = (smw R R' i && (gt R i == gt R' i)) := rfl
      obtain ⟨sm, hsm0⟩ : ∃ s, smw R R' i = s := ⟨_, rfl⟩
      rw [hsm0] at hsm ⊢
      obtain ⟨d, hd⟩ : ∃ d, (gt R i != gt R' i) = d := ⟨_, rfl⟩
      have HD := Lib.hid hd
      have HI := Lib.hid hI
      have E1 := Lib.hid e1
      have E2 := Lib.hid e2
      clear hI hd e1 e2 hsm0 hsubA hsubB
      go_upto_region 9 with fail
      refine wp_region_hold (T2A w B gx gy a b X Y) (by kernel_rfl) (by kernel_rfl) (HI.out.dr 1) ?_
      refine Hd.val (.int .i64 (i : Int)) (by kernel_rfl) (fun w => by kernel_rfl) ?_
      refine Hd.val (.pointer (some ⟨gx, i, none⟩)) (by kernel_rfl) (fun w => exec_index_arr (k := .i64) (b := gx) i 8 w rfl (by kernel_rfl) (by kernel_rfl) (by kernel_rfl) (by kernel_rfl) (by kernel_rfl) hlt) ?_
      refine Hd.cell (.int .u32 (gt X i)) ⟨gx, i, none⟩ (by kernel_rfl) rfl (by kernel_rfl) Tryd.underlying27 rfl (fun w hw => hw.aX.cell i (by omega)) ?_
      refine Hd.val (.int .i64 (i : Int)) (by kernel_rfl) (fun w => by kernel_rfl) ?_
      refine Hd.val (.pointer (some ⟨B, i, none⟩)) (by kernel_rfl) (fun w => exec_index_arr (k := .i64) (b := B) i 8 w rfl (by kernel_rfl) (by kernel_rfl) (by kernel_rfl) (by kernel_rfl) (by kernel_rfl) hlt) ?_
      refine Hd.cell (.int .u32 (gt a i)) ⟨B, i, none⟩ (by kernel_rfl) rfl (by kernel_rfl) Tryd.underlying27 rfl (fun w hw => hw.aA.cell i (by omega)) ?_
      refine Hd.val (.int .u32 (gt R i)) (by kernel_rfl) (fun w => Eq.trans (b := .ok (.value (.int .u32 (IntKind.u32.wrap (gt X i - gt a i)))) w) (by kernel_rfl) (okI E1.out)) ?_
      refine Hd.val (.int .i64 (i : Int)) (by kernel_rfl) (fun w => by kernel_rfl) ?_
      refine Hd.val (.pointer (some ⟨gy, i, none⟩)) (by kernel_rfl) (fun w => exec_index_arr (k := .i64) (b := gy) i 8 w rfl (by kernel_rfl) (by kernel_rfl) (by kernel_rfl) (by kernel_rfl) (by kernel_rfl) hlt) ?_
      refine Hd.cell (.int .u32 (gt Y i)) ⟨gy, i, none⟩ (by kernel_rfl) rfl (by kernel_rfl) Tryd.underlying27 rfl (fun w hw => hw.aY.cell i (by omega)) ?_
      refine Hd.val (.int .i64 (i : Int)) (by kernel_rfl) (fun w => by kernel_rfl) ?_
      refine Hd.val (.pointer (some ⟨B + 1, i, none⟩)) (by kernel_rfl) (fun w => exec_index_arr (k := .i64) (b := B + 1) i 8 w rfl (by kernel_rfl) (by kernel_rfl) (by kernel_rfl) (by kernel_rfl) (by kernel_rfl) hlt) ?_
      refine Hd.cell (.int .u32 (gt b i)) ⟨B + 1, i, none⟩ (by kernel_rfl) rfl (by kernel_rfl) Tryd.underlying27 rfl (fun w hw => hw.aB.cell i (by omega)) ?_
      refine Hd.val (.int .u32 (gt R' i)) (by kernel_rfl) (fun w => Eq.trans (b := .ok (.value (.int .u32 (IntKind.u32.wrap (gt Y i - gt b i)))) w) (by kernel_rfl) (okI E2.out)) ?_
      refine Hd.val (.bool d) (by kernel_rfl) (fun w => Eq.trans (b := .ok (.value (.bool (gt R i != gt R' i))) w) (by kernel_rfl) (okB HD.out)) ?_
      refine wpHold_nil ?_
      simp only [Act.put, List.setIfInBounds_toArray, List.set_cons_zero, List.set_cons_succ]
      intro w' hw
      have HW := Lib.hid hw
      clear hw HI E1 E2 HX HY
      cases d with
      | true =>
        have hs2 : smw R R' (i + 1) = false := by
          have h := HD.out
          rw [hsm, Bool.and_eq_false_iff]; right
          simp only [bne_iff_ne, ne_eq] at h
          simpa using h
        go_wp2_with fail
        go_roundg (8 - (i + 1))
        case measure => have := HGK.out; omega
        case rel => exact ⟨i + 1, by rw [hs2], by go_num, by omega, rfl, HW.out⟩
      | false =>
        have hs2 : smw R R' (i + 1) = sm := by
          have h : (gt R i == gt R' i) = true := by have := HD.out; simpa using this
          rw [hsm, h, Bool.and_true]
        go_wp2_with fail
        go_roundg (8 - (i + 1))
        case measure => have := HGK.out; omega
        case rel => exact ⟨i + 1, by rw [hs2], by go_num, by omega, rfl, HW.out⟩
    · have hltI : ¬ (i : Int) < 8 := by omega
      obtain rfl : i = 8 := by omega
      obtain ⟨d, hd⟩ : ∃ d, decide (a = b) = d := ⟨_, rfl⟩
      rw [hd] at hfin
      rw [hfin]
      have hAr := hI.aA
      have hBr := hI.aB
      have hk := hI.kp
      have HDD := Lib.hid hd
      clear hI hd hfin hsubA hsubB HX HY HGK
      go_upto_region 11 with fail
      refine wp_region_lit ?_
      cases d with
      | true =>
        refine wpList_val2 (.bool true) rfl (by kernel_rfl) ?_
        refine wpList_load_arr rfl 28 _ rfl rfl hAr Tryd.underlying28 rfl 8 inf_w8 ha ?_
        refine wpList_load_arr rfl 28 _ rfl rfl hBr Tryd.underlying28 rfl 8 inf_w8 hbl ?_
        refine wpList_val2 (.bool true) rfl (exec_eql_arr2 (l := a) (m := b) HDD.out rfl (by kernel_rfl) (by kernel_rfl) Tryd.underlying28 Tryd.underlying27 size27 ha hbl guard28 _) ?_
        refine wpList_val2 (.bool true) rfl (by kernel_rfl) ?_
        refine wpList_val2 (.bool true) rfl (by kernel_rfl) ?_
        refine wpList_nil ?_
        simp only [Act.put, List.setIfInBounds_toArray, List.set_cons_zero, List.set_cons_succ]
        clear hAr hBr
        go_wp2_with fail
        go_ret
        exact ⟨rfl, by rw [HB.out]; exact hk.below⟩
      | false =>
        refine wpList_val2 (.bool false) rfl (by kernel_rfl) ?_
        refine wpList_load_arr rfl 28 _ rfl rfl hAr Tryd.underlying28 rfl 8 inf_w8 ha ?_
        refine wpList_load_arr rfl 28 _ rfl rfl hBr Tryd.underlying28 rfl 8 inf_w8 hbl ?_
        refine wpList_val2 (.bool false) rfl (exec_eql_arr2 (l := a) (m := b) HDD.out rfl (by kernel_rfl) (by kernel_rfl) Tryd.underlying28 Tryd.underlying27 size27 ha hbl guard28 _) ?_
        refine wpList_val2 (.bool true) rfl (by kernel_rfl) ?_
        refine wpList_val2 (.bool true) rfl (by kernel_rfl) ?_
        refine wpList_nil ?_
        simp only [Act.put, List.setIfInBounds_toArray, List.set_cons_zero, List.set_cons_succ]
        clear hAr hBr
        go_wp2_with fail
        go_ret
        exact ⟨rfl, by rw [HB.out]; exact hk.below⟩
end Go.Proofs.YteidkdpfjponfaaDoor
