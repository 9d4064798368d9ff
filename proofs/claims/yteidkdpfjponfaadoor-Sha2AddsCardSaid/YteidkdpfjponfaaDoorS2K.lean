/- Sha2Turns, walked. Conditions: a block of bytes, a state of 32-bit words; the tables. -/
import Derived.Test.YteidkdpfjponfaaDoorS2J
import Derived.Test.YteidkdpfjponfaaDoorS2F
import Derived.Test.YteidkdpfjponfaaDoorHd
namespace Go.Proofs.YteidkdpfjponfaaDoor
open Go.RowKit
set_option linter.unusedVariables false
set_option linter.unusedSimpArgs false
theorem exec_eql_arr {P : Program} {t e ty : TypeId} {n : Nat} {k : IntKind} {l : List Int} {o : Oper} {a : Act} {x y : Operand} (ho : o.op = .binOp .eql t x y ty) (hx : a.eval x = .agg (U k l)) (hy : a.eval y = .agg (U k l))
    (hu : P.underlying t = some (.array n e)) (he : P.underlying e = some (.int k)) (hs : (P.info? e).map (·.size) = some 1) (hl : l.length = n) (hgt : P.eqGuardType P.depth t = false) (w : World) :
    (execOp a.eval o).run P w = .ok (.value (.bool true)) w := by
  have h := run_equalIn_arr (P := P) (l := l) (m := l) hu he hs hl hl w
  rw [decide_eq_true rfl] at h
  refine exec_bin w ho hx hy ?_ ?_
  · simp [eqGuard, hgt]
  · have h2 : (Op.equal t (.agg (U k l)) (.agg (U k l))).run P w = .ok true w := h
    simp only [binOp, Sem.run_bind, h2, Result.andThen_ok, Sem.run_pure]
theorem S2Tb.kt {w : World} (h : S2Tb w) : Tab w 0 .u32 k2L := And.left h
structure T2I (w0 : World) (B : Nat) (s b : List Int) (w : World) : Prop where
  aS : Arr w B 28 .u32 s
  aB : Arr w (B + 1) 29 .u8 b
  kp : Kept B (fun _ => False) w0 w
  tb : S2Tb w
theorem T2I.below {w0 w w' : World} {B : Nat} {s b : List Int} (h : T2I w0 B s b w) (hk : Below w.heap.size w w') : T2I w0 B s b w' :=
  ⟨h.aS.below hk h.aS.lt, h.aB.below hk h.aB.lt, h.kp.bl (by have := h.aS.lt; omega) hk, h.tb.below hk (Nat.le_refl _)⟩
set_option maxRecDepth 100000 in
set_option maxHeartbeats 4000000 in
theorem turns2_walk (s b : List Int) (n : Int) (w : World) (hs : s.length = 8) (hsw : Ww s) (hb : Bys b) (hbl : b.length = 64) (hT : S2Tb w) :
    Calls Tryd.prog 4 #[.agg (U .u32 s), .agg (U .u8 b), .int .i64 n] w fun e w' => e = .returned (.bool true) ∧ Below w.heap.size w w' := by
  obtain ⟨B, hB⟩ : ∃ B, w.heap.size = B := ⟨_, rfl⟩
  obtain ⟨F, hF⟩ : ∃ F, turn2 s b = F := ⟨_, rfl⟩
  have hFl : F.length = 8 := by rw [← hF, turn2_len _ hs]
  obtain ⟨kv, hkv⟩ : ∃ v, (if 0 ≤ n ∧ n < 64 then gt k2L n.toNat else 0) = v := ⟨_, rfl⟩
  have hk1 := fun w' (h : S2Tb w') => kk2_any n w' h.kt
  have hk2 := fun w' => rkk2_any n w'
  rw [hkv] at hk1 hk2
  go_enter Tryd.func4, Tryd.ntmps4
  go_upto_region 1 with fail
  have hI1 : T2I w B s b ((w.alloc (.cells (U .u32 s) 28)).alloc (.cells (U .u8 b) 29)) := by
    have k1 := (Kept.refl B (fun _ => False) w).al (by omega) (.cells (U .u32 s) 28)
    have k2 := k1.al (by simp; omega) (.cells (U .u8 b) 29)
    refine ⟨?_, ?_, k2, hT.kept k2 (by omega) (fun h => h) (fun h => h)⟩
    · have := (Arr.new w 28 .u32 s).alloc (.cells (U .u8 b) 29); rwa [hB] at this
    · have := Arr.new (w.alloc (.cells (U .u32 s) 28)) 29 .u8 b; rwa [show (w.alloc (.cells (U .u32 s) 28)).heap.size = B + 1 by simp [hB]] at this
  generalize (w.alloc (.cells (U .u32 s) 28)).alloc (.cells (U .u8 b) 29) = w1 at hI1 ⊢
  have hI1' := Lib.hid hI1
  have HB := Lib.hid hB
  clear hI1 hT hB
  go_wp2_with fail
  (with_reducible refine (awake02_any w1 hI1'.out.tb).mono ?_)
  rintro e w2 ⟨rfl, hb2⟩
  have hI2 := Lib.hid (hI1'.out.below hb2)
  clear hb2 hI1'
  go_upto_region 3 with fail
  refine wp_region_hold (T2I w B s b) (by kernel_rfl) (by kernel_rfl) ?_ ?_
  · obtain ⟨h1, h2, h3, h4⟩ := hI2.out; exact ⟨h1.drew, h2.drew, h3.drew, h4⟩
  refine wpHold_yes (.agg (U .u32 s)) (by kernel_rfl) (fun w hw => gives_load_arr hw 28 _ rfl rfl (hw.aS) Tryd.underlying28 rfl 8 inf_w8 hs) ?_
  refine wpHold_yes (.agg (U .u8 b)) (by kernel_rfl) (fun w hw => gives_load_arr hw 29 _ rfl rfl (hw.aB) Tryd.underlying29 rfl 64 (by kernel_rfl) hbl) ?_
  refine Hd.call (f := 18) (args := #[.agg (U .u32 s), .agg (U .u8 b)]) (.agg (U .u32 F)) (by kernel_rfl) (fun w => by kernel_rfl) (fun w hw => (turn2_any s b F w hF hs hsw hb hbl hw.tb.kt hw.tb.lt.1).mono fun e w' ⟨h1, h2⟩ => ⟨h1, hw.below h2⟩) ?_
  refine wpHold_yes (.agg (U .u32 s)) (by kernel_rfl) (fun w hw => gives_load_arr hw 28 _ rfl rfl (hw.aS) Tryd.underlying28 rfl 8 inf_w8 hs) ?_
  refine Hd.val (.slice (some ⟨B + 1, 0, none⟩) 64 64) (by kernel_rfl) (fun w => by kernel_rfl) ?_
  refine Hd.call (f := 19) (args := #[.agg (U .u32 s), .slice (some ⟨B + 1, 0, none⟩) 64 64]) (.agg (U .u32 F)) (by kernel_rfl) (fun w => by kernel_rfl) (fun w hw => (rturn2_any s b F (some ⟨B + 1, 0, none⟩) 64 w.heap.size w hF hs hsw (Rd.of_arr hw.aB hw.aB.lt) (Nat.le_refl _) hb hbl).mono fun e w' ⟨h1, h2⟩ => ⟨h1, hw.below h2⟩) ?_
  refine Hd.val (.bool true) (by kernel_rfl) (fun w => exec_eql_arr (l := F) rfl (by kernel_rfl) (by kernel_rfl) Tryd.underlying28 Tryd.underlying27 (by kernel_rfl) hFl (by kernel_rfl) w) ?_
  refine Hd.val (.bool true) (by kernel_rfl) (fun w => by kernel_rfl) ?_
  refine Hd.val (.int .i64 n) (by kernel_rfl) (fun w => by kernel_rfl) ?_
  refine Hd.call (f := 20) (args := #[.int .i64 n]) (.int .u32 kv) (by kernel_rfl) (fun w => by kernel_rfl) (fun w hw => (hk1 w hw.tb).mono fun e w' ⟨h1, h2⟩ => ⟨h1, by rw [h2]; exact hw⟩) ?_
  refine Hd.val (.int .i64 n) (by kernel_rfl) (fun w => by kernel_rfl) ?_
  refine Hd.call (f := 21) (args := #[.int .i64 n]) (.int .u32 kv) (by kernel_rfl) (fun w => by kernel_rfl) (fun w hw => (hk2 w).mono fun e w' ⟨h1, h2⟩ => ⟨h1, hw.below h2⟩) ?_
  refine Hd.val (.bool true) (by kernel_rfl) (fun w => Eq.trans (b := .ok (.value (.bool (kv == kv))) w) (by kernel_rfl) (okB (by simp))) ?_
  refine Hd.val (.bool true) (by kernel_rfl) (fun w => by kernel_rfl) ?_
  refine Hd.val (.bool true) (by kernel_rfl) (fun w => by kernel_rfl) ?_
  refine wpHold_nil ?_
  simp only [Act.put, List.setIfInBounds_toArray, List.set_cons_zero, List.set_cons_succ]
  intro w' hw
  have hk := hw.kp
  clear hI2 hw hk1 hk2 hkv hF hFl hs hsw hb hbl
  go_wp2_with fail
  go_ret
  exact ⟨rfl, by rw [HB.out]; exact hk.below⟩
end Go.Proofs.YteidkdpfjponfaaDoor
