/- SetsTell, walked. Conditions: the tables stand as they were laid; the code is one of 32 bits. -/
import Derived.Test.YtigedohalangbaaDoorS8I
namespace Go.Proofs.YtigedohalangbaaDoor
open Go.RowKit
set_option linter.unusedVariables false
set_option linter.unusedSimpArgs false

theorem eql_ots (x0 x1 x2 x3 x4 x5 : Int) (w : World) : (binOp .eql 24 (.agg #[.int .u32 x0, .int .i64 x1, .int .i64 x2, .int .i64 x3, .int .i64 x4, .int .i64 x5]) (.agg #[.int .u32 x0, .int .i64 x1, .int .i64 x2, .int .i64 x3, .int .i64 x4, .int .i64 x5])).run Tryd.prog w = .ok (.bool true) w := by
  simp [go_sem, Tryd.underlying24, Tryd.underlying3, Tryd.underlying22]
theorem eql_tree (y0 y1 y2 y3 : Int) (w : World) : (binOp .eql 26 (.agg #[.int .u32 y0, .int .i64 y1, .int .i64 y2, .int .i64 y3]) (.agg #[.int .u32 y0, .int .i64 y1, .int .i64 y2, .int .i64 y3])).run Tryd.prog w = .ok (.bool true) w := by
  simp [go_sem, Tryd.underlying26, Tryd.underlying3, Tryd.underlying22]
set_option maxRecDepth 100000 in
set_option maxHeartbeats 4000000 in
theorem tell8_walk (code a0 a1 a2 a3 a4 a5 b0 b1 b2 b3 : Int) (w : World) (B : Nat) (hT : STab w B) (hB : B ≤ w.heap.size) (hc : 0 ≤ code ∧ code < 4294967296) :
    Calls Tryd.prog 3 #[.int .u32 code, .agg #[.int .u32 a0, .int .i64 a1, .int .i64 a2, .int .i64 a3, .int .i64 a4, .int .i64 a5], .agg #[.int .u32 b0, .int .i64 b1, .int .i64 b2, .int .i64 b3]] w fun e w' => e = .returned (.bool true) ∧ Below w.heap.size w w' := by
  have hBs := hc
  obtain ⟨hc0, hc1⟩ := hc
  obtain ⟨u0, hu0⟩ : ∃ u0, (w.alloc (.cells #[.int .u32 a0, .int .i64 a1, .int .i64 a2, .int .i64 a3, .int .i64 a4, .int .i64 a5] 24)).alloc (.cells #[.int .u32 b0, .int .i64 b1, .int .i64 b2, .int .i64 b3] 26) = u0 := ⟨_, rfl⟩
  obtain ⟨p, hp⟩ : ∃ p, w.heap.size = p := ⟨_, rfl⟩
  have ra : u0.heap[p]? = some (.cells #[.int .u32 a0, .int .i64 a1, .int .i64 a2, .int .i64 a3, .int .i64 a4, .int .i64 a5] 24) := by rw [← hu0, ← hp]; exact (Below.heap_alloc _ _ _ (by simp)).trans (heap_alloc_new w _)
  have rb : u0.heap[p + 1]? = some (.cells #[.int .u32 b0, .int .i64 b1, .int .i64 b2, .int .i64 b3] 26) := by
    rw [← hu0, ← hp]
    have := heap_alloc_new (w.alloc (.cells #[.int .u32 a0, .int .i64 a1, .int .i64 a2, .int .i64 a3, .int .i64 a4, .int .i64 a5] 24)) (.cells #[.int .u32 b0, .int .i64 b1, .int .i64 b2, .int .i64 b3] 26)
    rwa [World.size_alloc] at this
  have hK : Below w.heap.size w u0 := by rw [← hu0]; exact ((Below.refl _ w).alloc (Nat.le_refl _) _).alloc (by simp) _
  have lra := (Array.getElem?_eq_some_iff.1 ra).1
  have lrb := (Array.getElem?_eq_some_iff.1 rb).1
  have hCa := awake8_any u0 B (hT.below (hK.mono hB)) (Nat.le_trans hB hK.size)
  have HP := Lib.hid hp
  go_enter Tryd.func3, Tryd.ntmps3
  go_wp2_with fail
  refine hCa.mono ?_
  rintro e v0 ⟨rfl, hb⟩
  clear hCa hu0 hp
  have ra := (hb.block _ lra).trans ra
  have lra := (Array.getElem?_eq_some_iff.1 ra).1
  have rb := (hb.block _ lrb).trans rb
  have lrb := (Array.getElem?_eq_some_iff.1 rb).1
  have hK := hK.trans (hb.mono hK.size)
  clear hb
  have hC1 := ots_any code v0 B (hT.below (hK.mono hB)) (Nat.le_trans hB hK.size) hBs
  have hC2 := fun v => rots_any code v hBs
  have hC3 := fun v (hk : Below w.heap.size w v) => tree_any code v B (hT.below (hk.mono hB)) (Nat.le_trans hB hk.size) hBs
  have hC4 := fun v => rtree_any code v hBs
  unfold OPost at hC1 hC2
  unfold TPost at hC3 hC4
  generalize o0 code = x0 at hC1 hC2
  generalize o1 code = x1 at hC1 hC2
  generalize o2 code = x2 at hC1 hC2
  generalize o3 code = x3 at hC1 hC2
  generalize o4 code = x4 at hC1 hC2
  generalize o5 code = x5 at hC1 hC2
  generalize oE code = xe at hC1 hC2
  generalize t0 code = y0 at hC3 hC4
  generalize t1 code = y1 at hC3 hC4
  generalize t2 code = y2 at hC3 hC4
  generalize t3 code = y3 at hC3 hC4
  generalize tE code = ye at hC3 hC4
  go_wp2_with fail
  refine (hC1).mono ?_
  rintro e v1 ⟨rfl, hb⟩
  have ra := (hb.block _ lra).trans ra
  have lra := (Array.getElem?_eq_some_iff.1 ra).1
  have rb := (hb.block _ lrb).trans rb
  have lrb := (Array.getElem?_eq_some_iff.1 rb).1
  have hK := hK.trans (hb.mono hK.size)
  clear hb hC1
  have hz1 := hK.size
  go_wp2_with fail
  obtain ⟨u1, hu1⟩ : ∃ u1, v1.alloc (.cells #[.int .u32 x0, .int .i64 x1, .int .i64 x2, .int .i64 x3, .int .i64 x4, .int .i64 x5] 24) = u1 := ⟨_, rfl⟩
  have hb : Below v1.heap.size v1 u1 := by rw [← hu1]; exact (Below.refl _ v1).alloc (Nat.le_refl _) _
  have r1 : u1.heap[v1.heap.size]? = some (.cells #[.int .u32 x0, .int .i64 x1, .int .i64 x2, .int .i64 x3, .int .i64 x4, .int .i64 x5] 24) := by rw [← hu1]; exact heap_alloc_new v1 _
  rw [hu1]
  clear hu1
  have ra := (hb.block _ lra).trans ra
  have lra := (Array.getElem?_eq_some_iff.1 ra).1
  have rb := (hb.block _ lrb).trans rb
  have lrb := (Array.getElem?_eq_some_iff.1 rb).1
  have hK := hK.trans (hb.mono hK.size)
  clear hb
  obtain ⟨pr1, hp_⟩ : ∃ p, v1.heap.size = p := ⟨_, rfl⟩
  rw [hp_] at r1 ⊢
  clear hp_
  have lr1 := (Array.getElem?_eq_some_iff.1 r1).1
  refine (hC2 _).mono ?_
  rintro e v2 ⟨rfl, hb⟩
  have ra := (hb.block _ lra).trans ra
  have lra := (Array.getElem?_eq_some_iff.1 ra).1
  have rb := (hb.block _ lrb).trans rb
  have lrb := (Array.getElem?_eq_some_iff.1 rb).1
  have r1 := (hb.block _ lr1).trans r1
  have lr1 := (Array.getElem?_eq_some_iff.1 r1).1
  have hK := hK.trans (hb.mono hK.size)
  clear hb hC2
  have hz2 := hK.size
  go_wp2_with fail
  obtain ⟨u2, hu2⟩ : ∃ u2, v2.alloc (.cells #[.int .u32 x0, .int .i64 x1, .int .i64 x2, .int .i64 x3, .int .i64 x4, .int .i64 x5] 24) = u2 := ⟨_, rfl⟩
  have hb : Below v2.heap.size v2 u2 := by rw [← hu2]; exact (Below.refl _ v2).alloc (Nat.le_refl _) _
  have r2 : u2.heap[v2.heap.size]? = some (.cells #[.int .u32 x0, .int .i64 x1, .int .i64 x2, .int .i64 x3, .int .i64 x4, .int .i64 x5] 24) := by rw [← hu2]; exact heap_alloc_new v2 _
  rw [hu2]
  clear hu2
  have ra := (hb.block _ lra).trans ra
  have lra := (Array.getElem?_eq_some_iff.1 ra).1
  have rb := (hb.block _ lrb).trans rb
  have lrb := (Array.getElem?_eq_some_iff.1 rb).1
  have r1 := (hb.block _ lr1).trans r1
  have lr1 := (Array.getElem?_eq_some_iff.1 r1).1
  have hK := hK.trans (hb.mono hK.size)
  clear hb
  obtain ⟨pr2, hp_⟩ : ∃ p, v2.heap.size = p := ⟨_, rfl⟩
  rw [hp_] at r2 ⊢
  clear hp_
  have lr2 := (Array.getElem?_eq_some_iff.1 r2).1
  refine (hC3 _ hK).mono ?_
  rintro e v3 ⟨rfl, hb⟩
  have ra := (hb.block _ lra).trans ra
  have lra := (Array.getElem?_eq_some_iff.1 ra).1
  have rb := (hb.block _ lrb).trans rb
  have lrb := (Array.getElem?_eq_some_iff.1 rb).1
  have r1 := (hb.block _ lr1).trans r1
  have lr1 := (Array.getElem?_eq_some_iff.1 r1).1
  have r2 := (hb.block _ lr2).trans r2
  have lr2 := (Array.getElem?_eq_some_iff.1 r2).1
  have hK := hK.trans (hb.mono hK.size)
  clear hb hC3
  have hz3 := hK.size
  go_wp2_with fail
  obtain ⟨u3, hu3⟩ : ∃ u3, v3.alloc (.cells #[.int .u32 y0, .int .i64 y1, .int .i64 y2, .int .i64 y3] 26) = u3 := ⟨_, rfl⟩
  have hb : Below v3.heap.size v3 u3 := by rw [← hu3]; exact (Below.refl _ v3).alloc (Nat.le_refl _) _
  have r3 : u3.heap[v3.heap.size]? = some (.cells #[.int .u32 y0, .int .i64 y1, .int .i64 y2, .int .i64 y3] 26) := by rw [← hu3]; exact heap_alloc_new v3 _
  rw [hu3]
  clear hu3
  have ra := (hb.block _ lra).trans ra
  have lra := (Array.getElem?_eq_some_iff.1 ra).1
  have rb := (hb.block _ lrb).trans rb
  have lrb := (Array.getElem?_eq_some_iff.1 rb).1
  have r1 := (hb.block _ lr1).trans r1
  have lr1 := (Array.getElem?_eq_some_iff.1 r1).1
  have r2 := (hb.block _ lr2).trans r2
  have lr2 := (Array.getElem?_eq_some_iff.1 r2).1
  have hK := hK.trans (hb.mono hK.size)
  clear hb
  obtain ⟨pr3, hp_⟩ : ∃ p, v3.heap.size = p := ⟨_, rfl⟩
  rw [hp_] at r3 ⊢
  clear hp_
  have lr3 := (Array.getElem?_eq_some_iff.1 r3).1
  refine (hC4 _).mono ?_
  rintro e v4 ⟨rfl, hb⟩
  have ra := (hb.block _ lra).trans ra
  have lra := (Array.getElem?_eq_some_iff.1 ra).1
  have rb := (hb.block _ lrb).trans rb
  have lrb := (Array.getElem?_eq_some_iff.1 rb).1
  have r1 := (hb.block _ lr1).trans r1
  have lr1 := (Array.getElem?_eq_some_iff.1 r1).1
  have r2 := (hb.block _ lr2).trans r2
  have lr2 := (Array.getElem?_eq_some_iff.1 r2).1
  have r3 := (hb.block _ lr3).trans r3
  have lr3 := (Array.getElem?_eq_some_iff.1 r3).1
  have hK := hK.trans (hb.mono hK.size)
  clear hb hC4
  have hz4 := hK.size
  obtain ⟨u4, hu4⟩ : ∃ u4, v4.alloc (.cells #[.int .u32 y0, .int .i64 y1, .int .i64 y2, .int .i64 y3] 26) = u4 := ⟨_, rfl⟩
  have hb : Below v4.heap.size v4 u4 := by rw [← hu4]; exact (Below.refl _ v4).alloc (Nat.le_refl _) _
  have r4 : u4.heap[v4.heap.size]? = some (.cells #[.int .u32 y0, .int .i64 y1, .int .i64 y2, .int .i64 y3] 26) := by rw [← hu4]; exact heap_alloc_new v4 _
  have ra := (hb.block _ lra).trans ra
  have lra := (Array.getElem?_eq_some_iff.1 ra).1
  have rb := (hb.block _ lrb).trans rb
  have lrb := (Array.getElem?_eq_some_iff.1 rb).1
  have r1 := (hb.block _ lr1).trans r1
  have lr1 := (Array.getElem?_eq_some_iff.1 r1).1
  have r2 := (hb.block _ lr2).trans r2
  have lr2 := (Array.getElem?_eq_some_iff.1 r2).1
  have r3 := (hb.block _ lr3).trans r3
  have lr3 := (Array.getElem?_eq_some_iff.1 r3).1
  have hK := hK.trans (hb.mono hK.size)
  clear hb
  obtain ⟨pr4, hp4⟩ : ∃ p, v4.heap.size = p := ⟨_, rfl⟩
  rw [hp4] at r4
  have lr4 := (Array.getElem?_eq_some_iff.1 r4).1
  go_wp2_with fail
  clear hu4 hp4
  have hFit := fit_any a0 a1 a2 a3 a4 a5 b0 b1 b2 b3
  obtain ⟨lv, hlv⟩ : ∃ lv, lvN b3 = lv := ⟨_, rfl⟩
  rcases h1 : (a1 == b1) with _ | _
  · have hfb : fitB a1 a2 b1 b2 = false := by unfold fitB; simp at h1; simp [h1]
    refine wp_region_hold (fun w' => Below u4.heap.size u4 w') (by kernel_rfl) (by kernel_rfl) (below_dr (Below.refl _ _)) ?_
    refine Hd.row (#[.int .u32 x0, .int .i64 x1, .int .i64 x2, .int .i64 x3, .int .i64 x4, .int .i64 x5]) (pr1) (by kernel_rfl) rfl (by kernel_rfl) Tryd.underlying24 rfl (by kernel_rfl) (fun w hw => (hw.block _ lr1).trans r1) ?_
    refine Hd.row (#[.int .u32 x0, .int .i64 x1, .int .i64 x2, .int .i64 x3, .int .i64 x4, .int .i64 x5]) (pr2) (by kernel_rfl) rfl (by kernel_rfl) Tryd.underlying24 rfl (by kernel_rfl) (fun w hw => (hw.block _ lr2).trans r2) ?_
    refine Hd.val (.bool true) (by kernel_rfl) (fun w => exec_bin w rfl (by kernel_rfl) (by kernel_rfl) (by kernel_rfl) (eql_ots x0 x1 x2 x3 x4 x5 w)) ?_
    refine Hd.val (.bool true) (by kernel_rfl) (fun w => by kernel_rfl) ?_
    refine Hd.val (.int .i64 xe) (by kernel_rfl) (fun w => by kernel_rfl) ?_
    refine Hd.val (.int .i64 xe) (by kernel_rfl) (fun w => by kernel_rfl) ?_
    refine Hd.val (.bool true) (by kernel_rfl) (fun w => Eq.trans (b := .ok (.value (.bool (xe == xe))) w) (by kernel_rfl) (okB (beq_self_eq_true _))) ?_
    refine Hd.val (.bool true) (by kernel_rfl) (fun w => by kernel_rfl) ?_
    refine Hd.val (.bool true) (by kernel_rfl) (fun w => by kernel_rfl) ?_
    refine Hd.row (#[.int .u32 y0, .int .i64 y1, .int .i64 y2, .int .i64 y3]) (pr3) (by kernel_rfl) rfl (by kernel_rfl) Tryd.underlying26 rfl (by kernel_rfl) (fun w hw => (hw.block _ lr3).trans r3) ?_
    refine Hd.row (#[.int .u32 y0, .int .i64 y1, .int .i64 y2, .int .i64 y3]) (pr4) (by kernel_rfl) rfl (by kernel_rfl) Tryd.underlying26 rfl (by kernel_rfl) (fun w hw => (hw.block _ lr4).trans r4) ?_
    refine Hd.val (.bool true) (by kernel_rfl) (fun w => exec_bin w rfl (by kernel_rfl) (by kernel_rfl) (by kernel_rfl) (eql_tree y0 y1 y2 y3 w)) ?_
    refine Hd.val (.bool true) (by kernel_rfl) (fun w => by kernel_rfl) ?_
    refine Hd.val (.bool true) (by kernel_rfl) (fun w => by kernel_rfl) ?_
    refine Hd.val (.int .i64 ye) (by kernel_rfl) (fun w => by kernel_rfl) ?_
    refine Hd.val (.int .i64 ye) (by kernel_rfl) (fun w => by kernel_rfl) ?_
    refine Hd.val (.bool true) (by kernel_rfl) (fun w => Eq.trans (b := .ok (.value (.bool (ye == ye))) w) (by kernel_rfl) (okB (beq_self_eq_true _))) ?_
    refine Hd.val (.bool true) (by kernel_rfl) (fun w => by kernel_rfl) ?_
    refine Hd.val (.bool true) (by kernel_rfl) (fun w => by kernel_rfl) ?_
    refine Hd.row (#[.int .u32 a0, .int .i64 a1, .int .i64 a2, .int .i64 a3, .int .i64 a4, .int .i64 a5]) (p) (by kernel_rfl) rfl (by kernel_rfl) Tryd.underlying24 rfl (by kernel_rfl) (fun w hw => (hw.block _ lra).trans ra) ?_
    refine Hd.row (#[.int .u32 b0, .int .i64 b1, .int .i64 b2, .int .i64 b3]) (p + 1) (by kernel_rfl) rfl (by kernel_rfl) Tryd.underlying26 rfl (by kernel_rfl) (fun w hw => (hw.block _ lrb).trans rb) ?_
    refine Hd.call (f := 13) (args := #[.agg #[.int .u32 a0, .int .i64 a1, .int .i64 a2, .int .i64 a3, .int .i64 a4, .int .i64 a5], .agg #[.int .u32 b0, .int .i64 b1, .int .i64 b2, .int .i64 b3]]) (.bool false) (by kernel_rfl) (fun w => by kernel_rfl) (fun w hw => (hFit false w hfb).mono fun e w' h => ⟨h.1, hw.trans (h.2.mono hw.size)⟩) ?_
    refine Hd.val (.pointer (some ⟨p, 1, none⟩)) (by kernel_rfl) (fun w => by kernel_rfl) ?_
    refine Hd.cell (.int .i64 a1) (⟨p, 1, none⟩) (by kernel_rfl) rfl (by kernel_rfl) Tryd.underlying3 rfl (fun w hw => by have := (hw.block _ lra).trans ra; simp [World.cell?, this]) ?_
    refine Hd.val (.pointer (some ⟨p + 1, 1, none⟩)) (by kernel_rfl) (fun w => by kernel_rfl) ?_
    refine Hd.cell (.int .i64 b1) (⟨p + 1, 1, none⟩) (by kernel_rfl) rfl (by kernel_rfl) Tryd.underlying3 rfl (fun w hw => by have := (hw.block _ lrb).trans rb; simp [World.cell?, this]) ?_
    refine Hd.val (.bool false) (by kernel_rfl) (fun w => Eq.trans (b := .ok (.value (.bool (a1 == b1))) w) (by kernel_rfl) (okB (h1))) ?_
    refine Hd.val (.bool false) (by kernel_rfl) (fun w => by kernel_rfl) ?_
    refine Hd.no (by kernel_rfl) ?_
    refine Hd.no (by kernel_rfl) ?_
    refine Hd.no (by kernel_rfl) ?_
    refine Hd.no (by kernel_rfl) ?_
    refine Hd.no (by kernel_rfl) ?_
    refine Hd.val (.bool false) (by kernel_rfl) (fun w => by kernel_rfl) ?_
    refine Hd.val (.bool true) (by kernel_rfl) (fun w => by kernel_rfl) ?_
    refine Hd.val (.bool true) (by kernel_rfl) (fun w => by kernel_rfl) ?_
    refine Hd.val (.bool true) (by kernel_rfl) (fun w => by kernel_rfl) ?_
    refine Hd.row (#[.int .u32 b0, .int .i64 b1, .int .i64 b2, .int .i64 b3]) (p + 1) (by kernel_rfl) rfl (by kernel_rfl) Tryd.underlying26 rfl (by kernel_rfl) (fun w hw => (hw.block _ lrb).trans rb) ?_
    refine Hd.call (f := 14) (args := #[.agg #[.int .u32 b0, .int .i64 b1, .int .i64 b2, .int .i64 b3]]) (.int .u64 lv) (by kernel_rfl) (fun w => by kernel_rfl) (fun w hw => (leaves_any b0 b1 b2 b3 lv w hlv).mono fun e w' h => ⟨h.1, hw.trans (h.2.mono hw.size)⟩) ?_
    refine Hd.row (#[.int .u32 b0, .int .i64 b1, .int .i64 b2, .int .i64 b3]) (p + 1) (by kernel_rfl) rfl (by kernel_rfl) Tryd.underlying26 rfl (by kernel_rfl) (fun w hw => (hw.block _ lrb).trans rb) ?_
    refine Hd.call (f := 15) (args := #[.agg #[.int .u32 b0, .int .i64 b1, .int .i64 b2, .int .i64 b3]]) (.int .u64 lv) (by kernel_rfl) (fun w => by kernel_rfl) (fun w hw => (rleaves_any b0 b1 b2 b3 lv w hlv).mono fun e w' h => ⟨h.1, hw.trans (h.2.mono hw.size)⟩) ?_
    refine Hd.val (.bool true) (by kernel_rfl) (fun w => Eq.trans (b := .ok (.value (.bool (lv == lv))) w) (by kernel_rfl) (okB (beq_self_eq_true _))) ?_
    refine Hd.val (.bool true) (by kernel_rfl) (fun w => by kernel_rfl) ?_
    refine Hd.val (.bool true) (by kernel_rfl) (fun w => by kernel_rfl) ?_
    refine wpHold_nil ?_
    intro w5 hw5
    have hK5 := hK.trans (hw5.mono hK.size)
    go_wp2_with fail
    go_ret
    exact ⟨by kernel_rfl, hK5⟩
  · rcases h2 : (a2 == b2) with _ | _
    · have hfb : fitB a1 a2 b1 b2 = false := by unfold fitB; simp at h1 h2; simp [h1, h2]
      refine wp_region_hold (fun w' => Below u4.heap.size u4 w') (by kernel_rfl) (by kernel_rfl) (below_dr (Below.refl _ _)) ?_
      refine Hd.row (#[.int .u32 x0, .int .i64 x1, .int .i64 x2, .int .i64 x3, .int .i64 x4, .int .i64 x5]) (pr1) (by kernel_rfl) rfl (by kernel_rfl) Tryd.underlying24 rfl (by kernel_rfl) (fun w hw => (hw.block _ lr1).trans r1) ?_
      refine Hd.row (#[.int .u32 x0, .int .i64 x1, .int .i64 x2, .int .i64 x3, .int .i64 x4, .int .i64 x5]) (pr2) (by kernel_rfl) rfl (by kernel_rfl) Tryd.underlying24 rfl (by kernel_rfl) (fun w hw => (hw.block _ lr2).trans r2) ?_
      refine Hd.val (.bool true) (by kernel_rfl) (fun w => exec_bin w rfl (by kernel_rfl) (by kernel_rfl) (by kernel_rfl) (eql_ots x0 x1 x2 x3 x4 x5 w)) ?_
      refine Hd.val (.bool true) (by kernel_rfl) (fun w => by kernel_rfl) ?_
      refine Hd.val (.int .i64 xe) (by kernel_rfl) (fun w => by kernel_rfl) ?_
      refine Hd.val (.int .i64 xe) (by kernel_rfl) (fun w => by kernel_rfl) ?_
      refine Hd.val (.bool true) (by kernel_rfl) (fun w => Eq.trans (b := .ok (.value (.bool (xe == xe))) w) (by kernel_rfl) (okB (beq_self_eq_true _))) ?_
      refine Hd.val (.bool true) (by kernel_rfl) (fun w => by kernel_rfl) ?_
      refine Hd.val (.bool true) (by kernel_rfl) (fun w => by kernel_rfl) ?_
      refine Hd.row (#[.int .u32 y0, .int .i64 y1, .int .i64 y2, .int .i64 y3]) (pr3) (by kernel_rfl) rfl (by kernel_rfl) Tryd.underlying26 rfl (by kernel_rfl) (fun w hw => (hw.block _ lr3).trans r3) ?_
      refine Hd.row (#[.int .u32 y0, .int .i64 y1, .int .i64 y2, .int .i64 y3]) (pr4) (by kernel_rfl) rfl (by kernel_rfl) Tryd.underlying26 rfl (by kernel_rfl) (fun w hw => (hw.block _ lr4).trans r4) ?_
      refine Hd.val (.bool true) (by kernel_rfl) (fun w => exec_bin w rfl (by kernel_rfl) (by kernel_rfl) (by kernel_rfl) (eql_tree y0 y1 y2 y3 w)) ?_
      refine Hd.val (.bool true) (by kernel_rfl) (fun w => by kernel_rfl) ?_
      refine Hd.val (.bool true) (by kernel_rfl) (fun w => by kernel_rfl) ?_
      refine Hd.val (.int .i64 ye) (by kernel_rfl) (fun w => by kernel_rfl) ?_
      refine Hd.val (.int .i64 ye) (by kernel_rfl) (fun w => by kernel_rfl) ?_
      refine Hd.val (.bool true) (by kernel_rfl) (fun w => Eq.trans (b := .ok (.value (.bool (ye == ye))) w) (by kernel_rfl) (okB (beq_self_eq_true _))) ?_
      refine Hd.val (.bool true) (by kernel_rfl) (fun w => by kernel_rfl) ?_
      refine Hd.val (.bool true) (by kernel_rfl) (fun w => by kernel_rfl) ?_
      refine Hd.row (#[.int .u32 a0, .int .i64 a1, .int .i64 a2, .int .i64 a3, .int .i64 a4, .int .i64 a5]) (p) (by kernel_rfl) rfl (by kernel_rfl) Tryd.underlying24 rfl (by kernel_rfl) (fun w hw => (hw.block _ lra).trans ra) ?_
      refine Hd.row (#[.int .u32 b0, .int .i64 b1, .int .i64 b2, .int .i64 b3]) (p + 1) (by kernel_rfl) rfl (by kernel_rfl) Tryd.underlying26 rfl (by kernel_rfl) (fun w hw => (hw.block _ lrb).trans rb) ?_
      refine Hd.call (f := 13) (args := #[.agg #[.int .u32 a0, .int .i64 a1, .int .i64 a2, .int .i64 a3, .int .i64 a4, .int .i64 a5], .agg #[.int .u32 b0, .int .i64 b1, .int .i64 b2, .int .i64 b3]]) (.bool false) (by kernel_rfl) (fun w => by kernel_rfl) (fun w hw => (hFit false w hfb).mono fun e w' h => ⟨h.1, hw.trans (h.2.mono hw.size)⟩) ?_
      refine Hd.val (.pointer (some ⟨p, 1, none⟩)) (by kernel_rfl) (fun w => by kernel_rfl) ?_
      refine Hd.cell (.int .i64 a1) (⟨p, 1, none⟩) (by kernel_rfl) rfl (by kernel_rfl) Tryd.underlying3 rfl (fun w hw => by have := (hw.block _ lra).trans ra; simp [World.cell?, this]) ?_
      refine Hd.val (.pointer (some ⟨p + 1, 1, none⟩)) (by kernel_rfl) (fun w => by kernel_rfl) ?_
      refine Hd.cell (.int .i64 b1) (⟨p + 1, 1, none⟩) (by kernel_rfl) rfl (by kernel_rfl) Tryd.underlying3 rfl (fun w hw => by have := (hw.block _ lrb).trans rb; simp [World.cell?, this]) ?_
      refine Hd.val (.bool true) (by kernel_rfl) (fun w => Eq.trans (b := .ok (.value (.bool (a1 == b1))) w) (by kernel_rfl) (okB (h1))) ?_
      refine Hd.val (.bool true) (by kernel_rfl) (fun w => by kernel_rfl) ?_
      refine Hd.val (.pointer (some ⟨p, 2, none⟩)) (by kernel_rfl) (fun w => by kernel_rfl) ?_
      refine Hd.cell (.int .i64 a2) (⟨p, 2, none⟩) (by kernel_rfl) rfl (by kernel_rfl) Tryd.underlying3 rfl (fun w hw => by have := (hw.block _ lra).trans ra; simp [World.cell?, this]) ?_
      refine Hd.val (.pointer (some ⟨p + 1, 2, none⟩)) (by kernel_rfl) (fun w => by kernel_rfl) ?_
      refine Hd.cell (.int .i64 b2) (⟨p + 1, 2, none⟩) (by kernel_rfl) rfl (by kernel_rfl) Tryd.underlying3 rfl (fun w hw => by have := (hw.block _ lrb).trans rb; simp [World.cell?, this]) ?_
      refine Hd.val (.bool false) (by kernel_rfl) (fun w => Eq.trans (b := .ok (.value (.bool (a2 == b2))) w) (by kernel_rfl) (okB (h2))) ?_
      refine Hd.val (.bool false) (by kernel_rfl) (fun w => by kernel_rfl) ?_
      refine Hd.val (.bool true) (by kernel_rfl) (fun w => by kernel_rfl) ?_
      refine Hd.val (.bool true) (by kernel_rfl) (fun w => by kernel_rfl) ?_
      refine Hd.val (.bool true) (by kernel_rfl) (fun w => by kernel_rfl) ?_
      refine Hd.row (#[.int .u32 b0, .int .i64 b1, .int .i64 b2, .int .i64 b3]) (p + 1) (by kernel_rfl) rfl (by kernel_rfl) Tryd.underlying26 rfl (by kernel_rfl) (fun w hw => (hw.block _ lrb).trans rb) ?_
      refine Hd.call (f := 14) (args := #[.agg #[.int .u32 b0, .int .i64 b1, .int .i64 b2, .int .i64 b3]]) (.int .u64 lv) (by kernel_rfl) (fun w => by kernel_rfl) (fun w hw => (leaves_any b0 b1 b2 b3 lv w hlv).mono fun e w' h => ⟨h.1, hw.trans (h.2.mono hw.size)⟩) ?_
      refine Hd.row (#[.int .u32 b0, .int .i64 b1, .int .i64 b2, .int .i64 b3]) (p + 1) (by kernel_rfl) rfl (by kernel_rfl) Tryd.underlying26 rfl (by kernel_rfl) (fun w hw => (hw.block _ lrb).trans rb) ?_
      refine Hd.call (f := 15) (args := #[.agg #[.int .u32 b0, .int .i64 b1, .int .i64 b2, .int .i64 b3]]) (.int .u64 lv) (by kernel_rfl) (fun w => by kernel_rfl) (fun w hw => (rleaves_any b0 b1 b2 b3 lv w hlv).mono fun e w' h => ⟨h.1, hw.trans (h.2.mono hw.size)⟩) ?_
      refine Hd.val (.bool true) (by kernel_rfl) (fun w => Eq.trans (b := .ok (.value (.bool (lv == lv))) w) (by kernel_rfl) (okB (beq_self_eq_true _))) ?_
      refine Hd.val (.bool true) (by kernel_rfl) (fun w => by kernel_rfl) ?_
      refine Hd.val (.bool true) (by kernel_rfl) (fun w => by kernel_rfl) ?_
      refine wpHold_nil ?_
      intro w5 hw5
      have hK5 := hK.trans (hw5.mono hK.size)
      go_wp2_with fail
      go_ret
      exact ⟨by kernel_rfl, hK5⟩
    · have hfb : fitB a1 a2 b1 b2 = true := by unfold fitB; simp at h1 h2; simp [h1, h2]
      refine wp_region_hold (fun w' => Below u4.heap.size u4 w') (by kernel_rfl) (by kernel_rfl) (below_dr (Below.refl _ _)) ?_
      refine Hd.row (#[.int .u32 x0, .int .i64 x1, .int .i64 x2, .int .i64 x3, .int .i64 x4, .int .i64 x5]) (pr1) (by kernel_rfl) rfl (by kernel_rfl) Tryd.underlying24 rfl (by kernel_rfl) (fun w hw => (hw.block _ lr1).trans r1) ?_
      refine Hd.row (#[.int .u32 x0, .int .i64 x1, .int .i64 x2, .int .i64 x3, .int .i64 x4, .int .i64 x5]) (pr2) (by kernel_rfl) rfl (by kernel_rfl) Tryd.underlying24 rfl (by kernel_rfl) (fun w hw => (hw.block _ lr2).trans r2) ?_
      refine Hd.val (.bool true) (by kernel_rfl) (fun w => exec_bin w rfl (by kernel_rfl) (by kernel_rfl) (by kernel_rfl) (eql_ots x0 x1 x2 x3 x4 x5 w)) ?_
      refine Hd.val (.bool true) (by kernel_rfl) (fun w => by kernel_rfl) ?_
      refine Hd.val (.int .i64 xe) (by kernel_rfl) (fun w => by kernel_rfl) ?_
      refine Hd.val (.int .i64 xe) (by kernel_rfl) (fun w => by kernel_rfl) ?_
      refine Hd.val (.bool true) (by kernel_rfl) (fun w => Eq.trans (b := .ok (.value (.bool (xe == xe))) w) (by kernel_rfl) (okB (beq_self_eq_true _))) ?_
      refine Hd.val (.bool true) (by kernel_rfl) (fun w => by kernel_rfl) ?_
      refine Hd.val (.bool true) (by kernel_rfl) (fun w => by kernel_rfl) ?_
      refine Hd.row (#[.int .u32 y0, .int .i64 y1, .int .i64 y2, .int .i64 y3]) (pr3) (by kernel_rfl) rfl (by kernel_rfl) Tryd.underlying26 rfl (by kernel_rfl) (fun w hw => (hw.block _ lr3).trans r3) ?_
      refine Hd.row (#[.int .u32 y0, .int .i64 y1, .int .i64 y2, .int .i64 y3]) (pr4) (by kernel_rfl) rfl (by kernel_rfl) Tryd.underlying26 rfl (by kernel_rfl) (fun w hw => (hw.block _ lr4).trans r4) ?_
      refine Hd.val (.bool true) (by kernel_rfl) (fun w => exec_bin w rfl (by kernel_rfl) (by kernel_rfl) (by kernel_rfl) (eql_tree y0 y1 y2 y3 w)) ?_
      refine Hd.val (.bool true) (by kernel_rfl) (fun w => by kernel_rfl) ?_
      refine Hd.val (.bool true) (by kernel_rfl) (fun w => by kernel_rfl) ?_
      refine Hd.val (.int .i64 ye) (by kernel_rfl) (fun w => by kernel_rfl) ?_
      refine Hd.val (.int .i64 ye) (by kernel_rfl) (fun w => by kernel_rfl) ?_
      refine Hd.val (.bool true) (by kernel_rfl) (fun w => Eq.trans (b := .ok (.value (.bool (ye == ye))) w) (by kernel_rfl) (okB (beq_self_eq_true _))) ?_
      refine Hd.val (.bool true) (by kernel_rfl) (fun w => by kernel_rfl) ?_
      refine Hd.val (.bool true) (by kernel_rfl) (fun w => by kernel_rfl) ?_
      refine Hd.row (#[.int .u32 a0, .int .i64 a1, .int .i64 a2, .int .i64 a3, .int .i64 a4, .int .i64 a5]) (p) (by kernel_rfl) rfl (by kernel_rfl) Tryd.underlying24 rfl (by kernel_rfl) (fun w hw => (hw.block _ lra).trans ra) ?_
      refine Hd.row (#[.int .u32 b0, .int .i64 b1, .int .i64 b2, .int .i64 b3]) (p + 1) (by kernel_rfl) rfl (by kernel_rfl) Tryd.underlying26 rfl (by kernel_rfl) (fun w hw => (hw.block _ lrb).trans rb) ?_
      refine Hd.call (f := 13) (args := #[.agg #[.int .u32 a0, .int .i64 a1, .int .i64 a2, .int .i64 a3, .int .i64 a4, .int .i64 a5], .agg #[.int .u32 b0, .int .i64 b1, .int .i64 b2, .int .i64 b3]]) (.bool true) (by kernel_rfl) (fun w => by kernel_rfl) (fun w hw => (hFit true w hfb).mono fun e w' h => ⟨h.1, hw.trans (h.2.mono hw.size)⟩) ?_
      refine Hd.val (.pointer (some ⟨p, 1, none⟩)) (by kernel_rfl) (fun w => by kernel_rfl) ?_
      refine Hd.cell (.int .i64 a1) (⟨p, 1, none⟩) (by kernel_rfl) rfl (by kernel_rfl) Tryd.underlying3 rfl (fun w hw => by have := (hw.block _ lra).trans ra; simp [World.cell?, this]) ?_
      refine Hd.val (.pointer (some ⟨p + 1, 1, none⟩)) (by kernel_rfl) (fun w => by kernel_rfl) ?_
      refine Hd.cell (.int .i64 b1) (⟨p + 1, 1, none⟩) (by kernel_rfl) rfl (by kernel_rfl) Tryd.underlying3 rfl (fun w hw => by have := (hw.block _ lrb).trans rb; simp [World.cell?, this]) ?_
      refine Hd.val (.bool true) (by kernel_rfl) (fun w => Eq.trans (b := .ok (.value (.bool (a1 == b1))) w) (by kernel_rfl) (okB (h1))) ?_
      refine Hd.val (.bool true) (by kernel_rfl) (fun w => by kernel_rfl) ?_
      refine Hd.val (.pointer (some ⟨p, 2, none⟩)) (by kernel_rfl) (fun w => by kernel_rfl) ?_
      refine Hd.cell (.int .i64 a2) (⟨p, 2, none⟩) (by kernel_rfl) rfl (by kernel_rfl) Tryd.underlying3 rfl (fun w hw => by have := (hw.block _ lra).trans ra; simp [World.cell?, this]) ?_
      refine Hd.val (.pointer (some ⟨p + 1, 2, none⟩)) (by kernel_rfl) (fun w => by kernel_rfl) ?_
      refine Hd.cell (.int .i64 b2) (⟨p + 1, 2, none⟩) (by kernel_rfl) rfl (by kernel_rfl) Tryd.underlying3 rfl (fun w hw => by have := (hw.block _ lrb).trans rb; simp [World.cell?, this]) ?_
      refine Hd.val (.bool true) (by kernel_rfl) (fun w => Eq.trans (b := .ok (.value (.bool (a2 == b2))) w) (by kernel_rfl) (okB (h2))) ?_
      refine Hd.val (.bool true) (by kernel_rfl) (fun w => by kernel_rfl) ?_
      refine Hd.val (.bool true) (by kernel_rfl) (fun w => by kernel_rfl) ?_
      refine Hd.val (.bool true) (by kernel_rfl) (fun w => by kernel_rfl) ?_
      refine Hd.val (.bool true) (by kernel_rfl) (fun w => by kernel_rfl) ?_
      refine Hd.row (#[.int .u32 b0, .int .i64 b1, .int .i64 b2, .int .i64 b3]) (p + 1) (by kernel_rfl) rfl (by kernel_rfl) Tryd.underlying26 rfl (by kernel_rfl) (fun w hw => (hw.block _ lrb).trans rb) ?_
      refine Hd.call (f := 14) (args := #[.agg #[.int .u32 b0, .int .i64 b1, .int .i64 b2, .int .i64 b3]]) (.int .u64 lv) (by kernel_rfl) (fun w => by kernel_rfl) (fun w hw => (leaves_any b0 b1 b2 b3 lv w hlv).mono fun e w' h => ⟨h.1, hw.trans (h.2.mono hw.size)⟩) ?_
      refine Hd.row (#[.int .u32 b0, .int .i64 b1, .int .i64 b2, .int .i64 b3]) (p + 1) (by kernel_rfl) rfl (by kernel_rfl) Tryd.underlying26 rfl (by kernel_rfl) (fun w hw => (hw.block _ lrb).trans rb) ?_
      refine Hd.call (f := 15) (args := #[.agg #[.int .u32 b0, .int .i64 b1, .int .i64 b2, .int .i64 b3]]) (.int .u64 lv) (by kernel_rfl) (fun w => by kernel_rfl) (fun w hw => (rleaves_any b0 b1 b2 b3 lv w hlv).mono fun e w' h => ⟨h.1, hw.trans (h.2.mono hw.size)⟩) ?_
      refine Hd.val (.bool true) (by kernel_rfl) (fun w => Eq.trans (b := .ok (.value (.bool (lv == lv))) w) (by kernel_rfl) (okB (beq_self_eq_true _))) ?_
      refine Hd.val (.bool true) (by kernel_rfl) (fun w => by kernel_rfl) ?_
      refine Hd.val (.bool true) (by kernel_rfl) (fun w => by kernel_rfl) ?_
      refine wpHold_nil ?_
      intro w5 hw5
      have hK5 := hK.trans (hw5.mono hK.size)
      go_wp2_with fail
      go_ret
      exact ⟨by kernel_rfl, hK5⟩
end Go.Proofs.YtigedohalangbaaDoor
