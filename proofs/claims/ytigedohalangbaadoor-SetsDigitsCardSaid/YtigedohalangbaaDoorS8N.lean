/- SetsDigits, walked. Conditions: the tables stand as they were laid. -/
import Derived.Test.YtigedohalangbaaDoorS8M
import Derived.Test.YtigedohalangbaaDoorLin3
namespace Go.Proofs.YtigedohalangbaaDoor
open Go.RowKit
set_option linter.unusedVariables false
set_option linter.unusedSimpArgs false

theorem allZ_len (n wd : Nat) (hw : IsW wd) (h1 : 1 ≤ n) (h64 : n ≤ 64) (s : Nat) : (allL (List.replicate n 0) wd (vOf n wd) s).length = uOf n wd + vOf n wd ∧ wd * vOf n wd ≤ 16 := by
  have h := shape_ok wd hw n h64 h1
  refine ⟨?_, h.2.2.1⟩
  rw [allL_len, List.length_replicate, ← h.1]
  have h3 := h.2.2.1
  rcases hw with rfl | rfl | rfl | rfl <;> omega
theorem exec_make1 {P : Program} {o : Oper} {a : Act} {w w' : World} {t : TypeId} {l c : Operand} {L C V : Value} (ho : o.op = Op.makeSlice t l c) (hl : a.eval l = L) (hc : a.eval c = C) (h : (Instr.makeSlice t L C).run P w = .ok V w') :
    (execOp a.eval o).run P w = .ok (.value V) w' := by
  unfold execOp
  simp only [ho, hl, hc, Sem.run_bind, h, Result.andThen_ok, Sem.run_pure]
theorem dig8_ok : ∀ i : Nat, i < 16 → oE ((i : Int) + 1) = 0 := by decide +kernel
set_option maxRecDepth 100000 in
set_option maxHeartbeats 4000000 in
theorem digits8_walk (c : Int) (w : World) (B : Nat) (hT : STab w B) (hB : B ≤ w.heap.size) (hc : 0 ≤ c ∧ c < 256) :
    Calls Tryd.prog 7 #[.int .u8 c] w fun e w' => e = .returned (.bool true) ∧ Below w.heap.size w w' := by
  obtain ⟨i, hj⟩ : ∃ i : Nat, c % 16 = (i : Int) := ⟨(c % 16).toNat, by omega⟩
  have hj16 : i < 16 := by omega
  obtain ⟨hc0, hc1⟩ := hc
  have hin : oIn ((i : Int) + 1) := by unfold oIn; omega
  have hO := fun v (hk : Below w.heap.size w v) => ots_any ((i : Int) + 1) v B (hT.below (hk.mono hB)) (Nat.le_trans hB hk.size) (by omega)
  have hV := otsV_eq ((i : Int) + 1) hin
  unfold OPost at hO
  rw [dig8_ok i hj16, ← hV] at hO
  unfold otsV at hO
  have hI : oI ((i : Int) + 1) = i := by unfold oI; omega
  rw [hI] at hO
  obtain ⟨n, hn⟩ : ∃ n, sN (i / 4) = n := ⟨_, rfl⟩
  obtain ⟨wd, hwd⟩ : ∃ wd, wN (i % 4) = wd := ⟨_, rfl⟩
  have hww := wN_W (i % 4) (by omega)
  have hnb := sN_bd (i / 4)
  rw [hn] at hnb hO
  rw [hwd] at hww hO
  have hub := uv_bd (i / 4) (by omega) (i % 4) (by omega)
  rw [hn, hwd] at hub
  have hZ := fun s => allZ_len n wd hww hnb.1 hnb.2 s
  have hsh := fun v => shape_any n wd v hww hnb.1 hnb.2
  obtain ⟨s, hs⟩ : ∃ s, wd * vOf n wd + s = 16 := ⟨16 - wd * vOf n wd, by have := (hZ 0).2; omega⟩
  have hAll := fun (A : Option Addr) v (hr : Rd v v.heap.size .u8 A (List.replicate n 0)) => all_any (List.replicate n 0) A n n wd s v hww (by simp) hnb.1 hnb.2 (fun x hx => by rw [List.eq_of_mem_replicate hx]; exact ⟨by decide, by decide⟩) hr hs
  have hlen := (hZ s).1
  unfold OfPost at hAll
  rw [hlen] at hAll
  unfold ShapePost at hsh
  obtain ⟨sm, hsm⟩ : ∃ sm, uOf n wd + vOf n wd = sm := ⟨_, rfl⟩
  rw [hsm] at hO hAll
  have hsI : (uOf n wd : Int) + (vOf n wd : Int) = (sm : Int) := by omega
  generalize allL (List.replicate n 0) wd (vOf n wd) s = L at hAll
  have hu1 := hub.1
  have hv1 := hub.2
  generalize vOf n wd = v at hO hsh hsI hv1
  generalize uOf n wd = u at hsh hsI hu1
  obtain ⟨y, hy⟩ : ∃ y, (i : Int) + 1 = y := ⟨_, rfl⟩
  rw [hy] at hO
  generalize ((i / 8 : Nat) : Int) = x1 at hO
  obtain ⟨x5, hx5⟩ : ∃ x5 : Int, 16 - (wd : Int) * (v : Int) = x5 := ⟨_, rfl⟩
  rw [hx5] at hO hsh
  have hmay := fun w => may_any true (wd : Int) w (by unfold mayB; rcases hww with rfl | rfl | rfl | rfl <;> decide)
  have hn64 : n ≤ 64 := hnb.2
  have hn1 : 1 ≤ n := hnb.1
  have hy2 : 1 + (i : Int) = y := by omega
  have hsb : sm ≤ 2000 := by omega
  clear hV hin hI hy hZ hub hlen hsm hx5 hwd hn hs hnb
  have hCa := awake8_any w B hT hB
  go_enter Tryd.func7, Tryd.ntmps7
  go_wp2_with fail
  refine hCa.mono ?_
  rintro e v0 ⟨rfl, hK⟩
  clear hCa
  go_wp2_with fail
  refine (hO _ hK).mono ?_
  rintro e v1 ⟨rfl, hb⟩
  have hK := hK.trans (hb.mono hK.size)
  clear hb hO hy2 hj
  obtain ⟨u1, hu1⟩ : ∃ u1, v1.alloc (.cells #[.int .u32 y, .int .i64 x1, .int .i64 (n : Int), .int .i64 (wd : Int), .int .i64 (sm : Int), .int .i64 x5] 24) = u1 := ⟨_, rfl⟩
  have hb : Below v1.heap.size v1 u1 := by rw [← hu1]; exact (Below.refl _ v1).alloc (Nat.le_refl _) _
  have r1 : u1.heap[v1.heap.size]? = some (.cells #[.int .u32 y, .int .i64 x1, .int .i64 (n : Int), .int .i64 (wd : Int), .int .i64 (sm : Int), .int .i64 x5] 24) := by rw [← hu1]; exact heap_alloc_new v1 _
  have hK := hK.trans (hb.mono hK.size)
  obtain ⟨p, hp⟩ : ∃ p, v1.heap.size = p := ⟨_, rfl⟩
  rw [hp] at r1
  have l1 := (Array.getElem?_eq_some_iff.1 r1).1
  obtain ⟨a0, a1, a2, a3, a4, a5⟩ := cells6 r1
  clear hb
  go_wp2_with fail
  clear hu1 hp a0 a1 a2 a3 a4 a5
  refine (hsh u1).mono ?_
  rintro e v2 ⟨rfl, hb⟩
  have hK := hK.trans (hb.mono hK.size)
  have r1 := (hb.block _ l1).trans r1
  have l1 : p < v2.heap.size := (Array.getElem?_eq_some_iff.1 r1).1
  clear hb hsh
  go_wp2_with fail
  obtain ⟨u0, hu0⟩ : ∃ u0, v2.drew = u0 := ⟨_, rfl⟩
  have hb : Below v2.heap.size v2 u0 := by rw [← hu0]; exact below_dr (Below.refl _ _)
  have hK := hK.trans (hb.mono hK.size)
  have r1 := (hb.block _ l1).trans r1
  have l1 : p < u0.heap.size := (Array.getElem?_eq_some_iff.1 r1).1
  obtain ⟨a0, a1, a2, a3, a4, a5⟩ := cells6 r1
  refine Ln.enter 30 rfl (by kernel_rfl) ?_
  rw [hu0]
  clear hu0 hb
  obtain ⟨m, hm⟩ : ∃ m, u0.alloc (.cells (U .u8 (List.replicate n 0)) 5) = m := ⟨_, rfl⟩
  have hbm : Below u0.heap.size u0 m := by rw [← hm]; exact (Below.refl _ u0).alloc (Nat.le_refl _) _
  have hRm : Rd m m.heap.size .u8 (some ⟨u0.heap.size, 0, none⟩) (List.replicate n 0) := by rw [← hm]; exact Rd.of_arr (Arr.new u0 5 .u8 (List.replicate n 0)) (by simp)
  have hA := hAll (some ⟨u0.heap.size, 0, none⟩) m hRm
  have hKm := hK.trans (hbm.mono hK.size)
  have lm : p < m.heap.size := Nat.lt_of_lt_of_le l1 hbm.size
  have m2 := (World.cell?_of_block (hbm.block p l1)).trans a2
  have m3 := (World.cell?_of_block (hbm.block p l1)).trans a3
  have m4 := (World.cell?_of_block (hbm.block p l1)).trans a4
  have hmk : (Instr.makeSlice 47 (.int .i64 (n : Int)) (.int .i64 (n : Int))).run Tryd.prog u0 = .ok (.slice (some ⟨u0.heap.size, 0, none⟩) n n) m := by rw [← hm]; exact run_make_nums u0 47 5 .u8 1 Tryd.underlying47 inf_u8 .i64 .i64 n n (Nat.le_refl _) (by omega) (by omega)
  clear hm hbm hRm hAll
  refine Ln.val 0 (.pointer (some ⟨p, 4, none⟩)) rfl (by kernel_rfl) (by kernel_rfl) (by kernel_rfl) (fun _ _ _ h => h) (by kernel_rfl) (fun w => by kernel_rfl) ?_
  refine Ln.val 2 (.int .i64 (u : Int)) rfl (by kernel_rfl) (by kernel_rfl) (by kernel_rfl) (fun _ _ _ h => h) (by kernel_rfl) (fun w => by kernel_rfl) ?_
  refine Ln.val 3 (.int .i64 (v : Int)) rfl (by kernel_rfl) (by kernel_rfl) (by kernel_rfl) (fun _ _ _ h => h) (by kernel_rfl) (fun w => by kernel_rfl) ?_
  refine Ln.val 4 (.int .i64 (sm : Int)) rfl (by kernel_rfl) (by kernel_rfl) (by kernel_rfl) (fun _ _ _ h => h) (by kernel_rfl) (fun w => Eq.trans (b := .ok (.value (.int .i64 (IntKind.i64.wrap ((u : Int) + (v : Int))))) w) (by kernel_rfl) (okI (by rw [hsI]; exact IntWalk.i64_in _ (by omega)))) ?_
  refine Lq.one 1 (by kernel_rfl) (LqOp.cell 1 (.int .i64 (sm : Int)) ⟨p, 4, none⟩ rfl (by kernel_rfl) rfl (by kernel_rfl) Tryd.underlying3 rfl a4 ?_)
  refine Ln.val 5 (.bool true) rfl (by kernel_rfl) (by kernel_rfl) (by kernel_rfl) (fun _ _ _ h => h) (by kernel_rfl) (fun w => Eq.trans (b := .ok (.value (.bool ((sm : Int) == (sm : Int)))) w) (by kernel_rfl) (okB (beq_self_eq_true _))) ?_
  refine Ln.val 6 (.bool true) rfl (by kernel_rfl) (by kernel_rfl) (by kernel_rfl) (fun _ _ _ h => h) (by kernel_rfl) (fun w => by kernel_rfl) ?_
  refine Ln.val 7 (.pointer (some ⟨p, 5, none⟩)) rfl (by kernel_rfl) (by kernel_rfl) (by kernel_rfl) (fun _ _ _ h => h) (by kernel_rfl) (fun w => by kernel_rfl) ?_
  refine Ln.val 9 (.int .i64 x5) rfl (by kernel_rfl) (by kernel_rfl) (by kernel_rfl) (fun _ _ _ h => h) (by kernel_rfl) (fun w => by kernel_rfl) ?_
  refine Lq.one 8 (by kernel_rfl) (LqOp.cell 8 (.int .i64 x5) ⟨p, 5, none⟩ rfl (by kernel_rfl) rfl (by kernel_rfl) Tryd.underlying3 rfl a5 ?_)
  refine Ln.val 10 (.bool true) rfl (by kernel_rfl) (by kernel_rfl) (by kernel_rfl) (fun _ _ _ h => h) (by kernel_rfl) (fun w => Eq.trans (b := .ok (.value (.bool (x5 == x5))) w) (by kernel_rfl) (okB (beq_self_eq_true _))) ?_
  refine Ln.val 11 (.bool true) rfl (by kernel_rfl) (by kernel_rfl) (by kernel_rfl) (fun _ _ _ h => h) (by kernel_rfl) (fun w => by kernel_rfl) ?_
  refine Ln.val 12 (.bool true) rfl (by kernel_rfl) (by kernel_rfl) (by kernel_rfl) (fun _ _ _ h => h) (by kernel_rfl) (fun w => by kernel_rfl) ?_
  refine Ln.val 13 (.pointer (some ⟨p, 2, none⟩)) rfl (by kernel_rfl) (by kernel_rfl) (by kernel_rfl) (fun _ _ _ h => h) (by kernel_rfl) (fun w => by kernel_rfl) ?_
  refine Ln.val 16 (.pointer (some ⟨p, 3, none⟩)) rfl (by kernel_rfl) (by kernel_rfl) (by kernel_rfl) (fun _ _ _ h => h) (by kernel_rfl) (fun w => by kernel_rfl) ?_
  refine Ln.val 20 (.pointer (some ⟨p, 4, none⟩)) rfl (by kernel_rfl) (by kernel_rfl) (by kernel_rfl) (fun _ _ _ h => h) (by kernel_rfl) (fun w => by kernel_rfl) ?_
  refine Lq.three 14 17 21 (by kernel_rfl) (LqOp.cell 14 (.int .i64 (n : Int)) ⟨p, 2, none⟩ rfl (by kernel_rfl) rfl (by kernel_rfl) Tryd.underlying3 rfl a2 ?_) (LqOp.cell 17 (.int .i64 (wd : Int)) ⟨p, 3, none⟩ rfl (by kernel_rfl) rfl (by kernel_rfl) Tryd.underlying3 rfl a3 ?_) (LqOp.cell 21 (.int .i64 (sm : Int)) ⟨p, 4, none⟩ rfl (by kernel_rfl) rfl (by kernel_rfl) Tryd.underlying3 rfl a4 ?_)
  · refine Lq.three 15 17 21 (by kernel_rfl) (LqOp.made (w' := m) 15 (.slice (some ⟨u0.heap.size, 0, none⟩) n n) rfl (by kernel_rfl) (exec_make1 rfl (by kernel_rfl) (by kernel_rfl) hmk) ?_) (LqOp.cell 17 (.int .i64 (wd : Int)) ⟨p, 3, none⟩ rfl (by kernel_rfl) rfl (by kernel_rfl) Tryd.underlying3 rfl a3 ?_) (LqOp.cell 21 (.int .i64 (sm : Int)) ⟨p, 4, none⟩ rfl (by kernel_rfl) rfl (by kernel_rfl) Tryd.underlying3 rfl a4 ?_)
    · refine Lq.two 17 21 (by kernel_rfl) (LqOp.cell 17 (.int .i64 (wd : Int)) ⟨p, 3, none⟩ rfl (by kernel_rfl) rfl (by kernel_rfl) Tryd.underlying3 rfl m3 ?_) (LqOp.cell 21 (.int .i64 (sm : Int)) ⟨p, 4, none⟩ rfl (by kernel_rfl) rfl (by kernel_rfl) Tryd.underlying3 rfl m4 ?_)
      · refine Lq.two 18 21 (by kernel_rfl) (LqOp.call 18 (f := 19) (args := #[.slice (some ⟨u0.heap.size, 0, none⟩) n n, .int .i64 (wd : Int)]) rfl (by kernel_rfl) (by kernel_rfl) (hA.mono ?_)) (LqOp.cell 21 (.int .i64 (sm : Int)) ⟨p, 4, none⟩ rfl (by kernel_rfl) rfl (by kernel_rfl) Tryd.underlying3 rfl m4 ?_)
        · rintro e x3 ⟨A3, c3, rfl, hO3, hb3⟩
          refine ⟨_, rfl, ?_⟩
          have hK3 := hKm.trans (hb3.mono hKm.size)
          have y3 := (World.cell?_of_block (hb3.block p lm)).trans m3
          have y4 := (World.cell?_of_block (hb3.block p lm)).trans m4
          refine Ln.val 19 (.int .i64 (sm : Int)) rfl (by kernel_rfl) (by kernel_rfl) (by kernel_rfl) (fun _ _ _ h => h) (by kernel_rfl) (fun w => by kernel_rfl) ?_
          refine Lq.one 21 (by kernel_rfl) (LqOp.cell 21 (.int .i64 (sm : Int)) ⟨p, 4, none⟩ rfl (by kernel_rfl) rfl (by kernel_rfl) Tryd.underlying3 rfl y4 ?_)
          refine Ln.val 22 (.bool true) rfl (by kernel_rfl) (by kernel_rfl) (by kernel_rfl) (fun _ _ _ h => h) (by kernel_rfl) (fun w => Eq.trans (b := .ok (.value (.bool ((sm : Int) == (sm : Int)))) w) (by kernel_rfl) (okB (beq_self_eq_true _))) ?_
          refine Ln.val 23 (.bool true) rfl (by kernel_rfl) (by kernel_rfl) (by kernel_rfl) (fun _ _ _ h => h) (by kernel_rfl) (fun w => by kernel_rfl) ?_
          refine Ln.val 24 (.bool true) rfl (by kernel_rfl) (by kernel_rfl) (by kernel_rfl) (fun _ _ _ h => h) (by kernel_rfl) (fun w => by kernel_rfl) ?_
          refine Ln.val 25 (.pointer (some ⟨p, 3, none⟩)) rfl (by kernel_rfl) (by kernel_rfl) (by kernel_rfl) (fun _ _ _ h => h) (by kernel_rfl) (fun w => by kernel_rfl) ?_
          refine Lq.one 26 (by kernel_rfl) (LqOp.cell 26 (.int .i64 (wd : Int)) ⟨p, 3, none⟩ rfl (by kernel_rfl) rfl (by kernel_rfl) Tryd.underlying3 rfl y3 ?_)
          refine Lq.one 27 (by kernel_rfl) (LqOp.call 27 (f := 20) (args := #[.int .i64 (wd : Int)]) rfl (by kernel_rfl) (by kernel_rfl) ((hmay x3).mono ?_))
          rintro e x4 ⟨rfl, hb4⟩
          refine ⟨_, rfl, ?_⟩
          refine Ln.val 28 (.bool true) rfl (by kernel_rfl) (by kernel_rfl) (by kernel_rfl) (fun _ _ _ h => h) (by kernel_rfl) (fun w => by kernel_rfl) ?_
          refine Ln.val 29 (.bool true) rfl (by kernel_rfl) (by kernel_rfl) (by kernel_rfl) (fun _ _ _ h => h) (by kernel_rfl) (fun w => by kernel_rfl) ?_
          refine Ln.done (by kernel_rfl) ?_
          have hK4 := hK3.trans (hb4.mono hK3.size)
          go_wp2_with fail
          go_ret
          exact ⟨by kernel_rfl, hK4⟩
        · refine Lq.one 18 (by kernel_rfl) (LqOp.call 18 (f := 19) (args := #[.slice (some ⟨u0.heap.size, 0, none⟩) n n, .int .i64 (wd : Int)]) rfl (by kernel_rfl) (by kernel_rfl) (hA.mono ?_))
          rintro e x3 ⟨A3, c3, rfl, hO3, hb3⟩
          refine ⟨_, rfl, ?_⟩
          have hK3 := hKm.trans (hb3.mono hKm.size)
          have y3 := (World.cell?_of_block (hb3.block p lm)).trans m3
          have y4 := (World.cell?_of_block (hb3.block p lm)).trans m4
          refine Ln.val 19 (.int .i64 (sm : Int)) rfl (by kernel_rfl) (by kernel_rfl) (by kernel_rfl) (fun _ _ _ h => h) (by kernel_rfl) (fun w => by kernel_rfl) ?_
          refine Ln.val 22 (.bool true) rfl (by kernel_rfl) (by kernel_rfl) (by kernel_rfl) (fun _ _ _ h => h) (by kernel_rfl) (fun w => Eq.trans (b := .ok (.value (.bool ((sm : Int) == (sm : Int)))) w) (by kernel_rfl) (okB (beq_self_eq_true _))) ?_
          refine Ln.val 23 (.bool true) rfl (by kernel_rfl) (by kernel_rfl) (by kernel_rfl) (fun _ _ _ h => h) (by kernel_rfl) (fun w => by kernel_rfl) ?_
          refine Ln.val 24 (.bool true) rfl (by kernel_rfl) (by kernel_rfl) (by kernel_rfl) (fun _ _ _ h => h) (by kernel_rfl) (fun w => by kernel_rfl) ?_
          refine Ln.val 25 (.pointer (some ⟨p, 3, none⟩)) rfl (by kernel_rfl) (by kernel_rfl) (by kernel_rfl) (fun _ _ _ h => h) (by kernel_rfl) (fun w => by kernel_rfl) ?_
          refine Lq.one 26 (by kernel_rfl) (LqOp.cell 26 (.int .i64 (wd : Int)) ⟨p, 3, none⟩ rfl (by kernel_rfl) rfl (by kernel_rfl) Tryd.underlying3 rfl y3 ?_)
          refine Lq.one 27 (by kernel_rfl) (LqOp.call 27 (f := 20) (args := #[.int .i64 (wd : Int)]) rfl (by kernel_rfl) (by kernel_rfl) ((hmay x3).mono ?_))
          rintro e x4 ⟨rfl, hb4⟩
          refine ⟨_, rfl, ?_⟩
          refine Ln.val 28 (.bool true) rfl (by kernel_rfl) (by kernel_rfl) (by kernel_rfl) (fun _ _ _ h => h) (by kernel_rfl) (fun w => by kernel_rfl) ?_
          refine Ln.val 29 (.bool true) rfl (by kernel_rfl) (by kernel_rfl) (by kernel_rfl) (fun _ _ _ h => h) (by kernel_rfl) (fun w => by kernel_rfl) ?_
          refine Ln.done (by kernel_rfl) ?_
          have hK4 := hK3.trans (hb4.mono hK3.size)
          go_wp2_with fail
          go_ret
          exact ⟨by kernel_rfl, hK4⟩
      · refine Lq.one 17 (by kernel_rfl) (LqOp.cell 17 (.int .i64 (wd : Int)) ⟨p, 3, none⟩ rfl (by kernel_rfl) rfl (by kernel_rfl) Tryd.underlying3 rfl m3 ?_)
        refine Lq.one 18 (by kernel_rfl) (LqOp.call 18 (f := 19) (args := #[.slice (some ⟨u0.heap.size, 0, none⟩) n n, .int .i64 (wd : Int)]) rfl (by kernel_rfl) (by kernel_rfl) (hA.mono ?_))
        rintro e x3 ⟨A3, c3, rfl, hO3, hb3⟩
        refine ⟨_, rfl, ?_⟩
        have hK3 := hKm.trans (hb3.mono hKm.size)
        have y3 := (World.cell?_of_block (hb3.block p lm)).trans m3
        have y4 := (World.cell?_of_block (hb3.block p lm)).trans m4
        refine Ln.val 19 (.int .i64 (sm : Int)) rfl (by kernel_rfl) (by kernel_rfl) (by kernel_rfl) (fun _ _ _ h => h) (by kernel_rfl) (fun w => by kernel_rfl) ?_
        refine Ln.val 22 (.bool true) rfl (by kernel_rfl) (by kernel_rfl) (by kernel_rfl) (fun _ _ _ h => h) (by kernel_rfl) (fun w => Eq.trans (b := .ok (.value (.bool ((sm : Int) == (sm : Int)))) w) (by kernel_rfl) (okB (beq_self_eq_true _))) ?_
        refine Ln.val 23 (.bool true) rfl (by kernel_rfl) (by kernel_rfl) (by kernel_rfl) (fun _ _ _ h => h) (by kernel_rfl) (fun w => by kernel_rfl) ?_
        refine Ln.val 24 (.bool true) rfl (by kernel_rfl) (by kernel_rfl) (by kernel_rfl) (fun _ _ _ h => h) (by kernel_rfl) (fun w => by kernel_rfl) ?_
        refine Ln.val 25 (.pointer (some ⟨p, 3, none⟩)) rfl (by kernel_rfl) (by kernel_rfl) (by kernel_rfl) (fun _ _ _ h => h) (by kernel_rfl) (fun w => by kernel_rfl) ?_
        refine Lq.one 26 (by kernel_rfl) (LqOp.cell 26 (.int .i64 (wd : Int)) ⟨p, 3, none⟩ rfl (by kernel_rfl) rfl (by kernel_rfl) Tryd.underlying3 rfl y3 ?_)
        refine Lq.one 27 (by kernel_rfl) (LqOp.call 27 (f := 20) (args := #[.int .i64 (wd : Int)]) rfl (by kernel_rfl) (by kernel_rfl) ((hmay x3).mono ?_))
        rintro e x4 ⟨rfl, hb4⟩
        refine ⟨_, rfl, ?_⟩
        refine Ln.val 28 (.bool true) rfl (by kernel_rfl) (by kernel_rfl) (by kernel_rfl) (fun _ _ _ h => h) (by kernel_rfl) (fun w => by kernel_rfl) ?_
        refine Ln.val 29 (.bool true) rfl (by kernel_rfl) (by kernel_rfl) (by kernel_rfl) (fun _ _ _ h => h) (by kernel_rfl) (fun w => by kernel_rfl) ?_
        refine Ln.done (by kernel_rfl) ?_
        have hK4 := hK3.trans (hb4.mono hK3.size)
        go_wp2_with fail
        go_ret
        exact ⟨by kernel_rfl, hK4⟩
    · refine Lq.two 15 21 (by kernel_rfl) (LqOp.made (w' := m) 15 (.slice (some ⟨u0.heap.size, 0, none⟩) n n) rfl (by kernel_rfl) (exec_make1 rfl (by kernel_rfl) (by kernel_rfl) hmk) ?_) (LqOp.cell 21 (.int .i64 (sm : Int)) ⟨p, 4, none⟩ rfl (by kernel_rfl) rfl (by kernel_rfl) Tryd.underlying3 rfl a4 ?_)
      · refine Lq.two 18 21 (by kernel_rfl) (LqOp.call 18 (f := 19) (args := #[.slice (some ⟨u0.heap.size, 0, none⟩) n n, .int .i64 (wd : Int)]) rfl (by kernel_rfl) (by kernel_rfl) (hA.mono ?_)) (LqOp.cell 21 (.int .i64 (sm : Int)) ⟨p, 4, none⟩ rfl (by kernel_rfl) rfl (by kernel_rfl) Tryd.underlying3 rfl m4 ?_)
        · rintro e x3 ⟨A3, c3, rfl, hO3, hb3⟩
          refine ⟨_, rfl, ?_⟩
          have hK3 := hKm.trans (hb3.mono hKm.size)
          have y3 := (World.cell?_of_block (hb3.block p lm)).trans m3
          have y4 := (World.cell?_of_block (hb3.block p lm)).trans m4
          refine Ln.val 19 (.int .i64 (sm : Int)) rfl (by kernel_rfl) (by kernel_rfl) (by kernel_rfl) (fun _ _ _ h => h) (by kernel_rfl) (fun w => by kernel_rfl) ?_
          refine Lq.one 21 (by kernel_rfl) (LqOp.cell 21 (.int .i64 (sm : Int)) ⟨p, 4, none⟩ rfl (by kernel_rfl) rfl (by kernel_rfl) Tryd.underlying3 rfl y4 ?_)
          refine Ln.val 22 (.bool true) rfl (by kernel_rfl) (by kernel_rfl) (by kernel_rfl) (fun _ _ _ h => h) (by kernel_rfl) (fun w => Eq.trans (b := .ok (.value (.bool ((sm : Int) == (sm : Int)))) w) (by kernel_rfl) (okB (beq_self_eq_true _))) ?_
          refine Ln.val 23 (.bool true) rfl (by kernel_rfl) (by kernel_rfl) (by kernel_rfl) (fun _ _ _ h => h) (by kernel_rfl) (fun w => by kernel_rfl) ?_
          refine Ln.val 24 (.bool true) rfl (by kernel_rfl) (by kernel_rfl) (by kernel_rfl) (fun _ _ _ h => h) (by kernel_rfl) (fun w => by kernel_rfl) ?_
          refine Ln.val 25 (.pointer (some ⟨p, 3, none⟩)) rfl (by kernel_rfl) (by kernel_rfl) (by kernel_rfl) (fun _ _ _ h => h) (by kernel_rfl) (fun w => by kernel_rfl) ?_
          refine Lq.one 26 (by kernel_rfl) (LqOp.cell 26 (.int .i64 (wd : Int)) ⟨p, 3, none⟩ rfl (by kernel_rfl) rfl (by kernel_rfl) Tryd.underlying3 rfl y3 ?_)
          refine Lq.one 27 (by kernel_rfl) (LqOp.call 27 (f := 20) (args := #[.int .i64 (wd : Int)]) rfl (by kernel_rfl) (by kernel_rfl) ((hmay x3).mono ?_))
          rintro e x4 ⟨rfl, hb4⟩
          refine ⟨_, rfl, ?_⟩
          refine Ln.val 28 (.bool true) rfl (by kernel_rfl) (by kernel_rfl) (by kernel_rfl) (fun _ _ _ h => h) (by kernel_rfl) (fun w => by kernel_rfl) ?_
          refine Ln.val 29 (.bool true) rfl (by kernel_rfl) (by kernel_rfl) (by kernel_rfl) (fun _ _ _ h => h) (by kernel_rfl) (fun w => by kernel_rfl) ?_
          refine Ln.done (by kernel_rfl) ?_
          have hK4 := hK3.trans (hb4.mono hK3.size)
          go_wp2_with fail
          go_ret
          exact ⟨by kernel_rfl, hK4⟩
        · refine Lq.one 18 (by kernel_rfl) (LqOp.call 18 (f := 19) (args := #[.slice (some ⟨u0.heap.size, 0, none⟩) n n, .int .i64 (wd : Int)]) rfl (by kernel_rfl) (by kernel_rfl) (hA.mono ?_))
          rintro e x3 ⟨A3, c3, rfl, hO3, hb3⟩
          refine ⟨_, rfl, ?_⟩
          have hK3 := hKm.trans (hb3.mono hKm.size)
          have y3 := (World.cell?_of_block (hb3.block p lm)).trans m3
          have y4 := (World.cell?_of_block (hb3.block p lm)).trans m4
          refine Ln.val 19 (.int .i64 (sm : Int)) rfl (by kernel_rfl) (by kernel_rfl) (by kernel_rfl) (fun _ _ _ h => h) (by kernel_rfl) (fun w => by kernel_rfl) ?_
          refine Ln.val 22 (.bool true) rfl (by kernel_rfl) (by kernel_rfl) (by kernel_rfl) (fun _ _ _ h => h) (by kernel_rfl) (fun w => Eq.trans (b := .ok (.value (.bool ((sm : Int) == (sm : Int)))) w) (by kernel_rfl) (okB (beq_self_eq_true _))) ?_
          refine Ln.val 23 (.bool true) rfl (by kernel_rfl) (by kernel_rfl) (by kernel_rfl) (fun _ _ _ h => h) (by kernel_rfl) (fun w => by kernel_rfl) ?_
          refine Ln.val 24 (.bool true) rfl (by kernel_rfl) (by kernel_rfl) (by kernel_rfl) (fun _ _ _ h => h) (by kernel_rfl) (fun w => by kernel_rfl) ?_
          refine Ln.val 25 (.pointer (some ⟨p, 3, none⟩)) rfl (by kernel_rfl) (by kernel_rfl) (by kernel_rfl) (fun _ _ _ h => h) (by kernel_rfl) (fun w => by kernel_rfl) ?_
          refine Lq.one 26 (by kernel_rfl) (LqOp.cell 26 (.int .i64 (wd : Int)) ⟨p, 3, none⟩ rfl (by kernel_rfl) rfl (by kernel_rfl) Tryd.underlying3 rfl y3 ?_)
          refine Lq.one 27 (by kernel_rfl) (LqOp.call 27 (f := 20) (args := #[.int .i64 (wd : Int)]) rfl (by kernel_rfl) (by kernel_rfl) ((hmay x3).mono ?_))
          rintro e x4 ⟨rfl, hb4⟩
          refine ⟨_, rfl, ?_⟩
          refine Ln.val 28 (.bool true) rfl (by kernel_rfl) (by kernel_rfl) (by kernel_rfl) (fun _ _ _ h => h) (by kernel_rfl) (fun w => by kernel_rfl) ?_
          refine Ln.val 29 (.bool true) rfl (by kernel_rfl) (by kernel_rfl) (by kernel_rfl) (fun _ _ _ h => h) (by kernel_rfl) (fun w => by kernel_rfl) ?_
          refine Ln.done (by kernel_rfl) ?_
          have hK4 := hK3.trans (hb4.mono hK3.size)
          go_wp2_with fail
          go_ret
          exact ⟨by kernel_rfl, hK4⟩
      · refine Lq.one 15 (by kernel_rfl) (LqOp.made (w' := m) 15 (.slice (some ⟨u0.heap.size, 0, none⟩) n n) rfl (by kernel_rfl) (exec_make1 rfl (by kernel_rfl) (by kernel_rfl) hmk) ?_)
        refine Lq.one 18 (by kernel_rfl) (LqOp.call 18 (f := 19) (args := #[.slice (some ⟨u0.heap.size, 0, none⟩) n n, .int .i64 (wd : Int)]) rfl (by kernel_rfl) (by kernel_rfl) (hA.mono ?_))
        rintro e x3 ⟨A3, c3, rfl, hO3, hb3⟩
        refine ⟨_, rfl, ?_⟩
        have hK3 := hKm.trans (hb3.mono hKm.size)
        have y3 := (World.cell?_of_block (hb3.block p lm)).trans m3
        have y4 := (World.cell?_of_block (hb3.block p lm)).trans m4
        refine Ln.val 19 (.int .i64 (sm : Int)) rfl (by kernel_rfl) (by kernel_rfl) (by kernel_rfl) (fun _ _ _ h => h) (by kernel_rfl) (fun w => by kernel_rfl) ?_
        refine Ln.val 22 (.bool true) rfl (by kernel_rfl) (by kernel_rfl) (by kernel_rfl) (fun _ _ _ h => h) (by kernel_rfl) (fun w => Eq.trans (b := .ok (.value (.bool ((sm : Int) == (sm : Int)))) w) (by kernel_rfl) (okB (beq_self_eq_true _))) ?_
        refine Ln.val 23 (.bool true) rfl (by kernel_rfl) (by kernel_rfl) (by kernel_rfl) (fun _ _ _ h => h) (by kernel_rfl) (fun w => by kernel_rfl) ?_
        refine Ln.val 24 (.bool true) rfl (by kernel_rfl) (by kernel_rfl) (by kernel_rfl) (fun _ _ _ h => h) (by kernel_rfl) (fun w => by kernel_rfl) ?_
        refine Ln.val 25 (.pointer (some ⟨p, 3, none⟩)) rfl (by kernel_rfl) (by kernel_rfl) (by kernel_rfl) (fun _ _ _ h => h) (by kernel_rfl) (fun w => by kernel_rfl) ?_
        refine Lq.one 26 (by kernel_rfl) (LqOp.cell 26 (.int .i64 (wd : Int)) ⟨p, 3, none⟩ rfl (by kernel_rfl) rfl (by kernel_rfl) Tryd.underlying3 rfl y3 ?_)
        refine Lq.one 27 (by kernel_rfl) (LqOp.call 27 (f := 20) (args := #[.int .i64 (wd : Int)]) rfl (by kernel_rfl) (by kernel_rfl) ((hmay x3).mono ?_))
        rintro e x4 ⟨rfl, hb4⟩
        refine ⟨_, rfl, ?_⟩
        refine Ln.val 28 (.bool true) rfl (by kernel_rfl) (by kernel_rfl) (by kernel_rfl) (fun _ _ _ h => h) (by kernel_rfl) (fun w => by kernel_rfl) ?_
        refine Ln.val 29 (.bool true) rfl (by kernel_rfl) (by kernel_rfl) (by kernel_rfl) (fun _ _ _ h => h) (by kernel_rfl) (fun w => by kernel_rfl) ?_
        refine Ln.done (by kernel_rfl) ?_
        have hK4 := hK3.trans (hb4.mono hK3.size)
        go_wp2_with fail
        go_ret
        exact ⟨by kernel_rfl, hK4⟩
    · refine Lq.two 15 17 (by kernel_rfl) (LqOp.made (w' := m) 15 (.slice (some ⟨u0.heap.size, 0, none⟩) n n) rfl (by kernel_rfl) (exec_make1 rfl (by kernel_rfl) (by kernel_rfl) hmk) ?_) (LqOp.cell 17 (.int .i64 (wd : Int)) ⟨p, 3, none⟩ rfl (by kernel_rfl) rfl (by kernel_rfl) Tryd.underlying3 rfl a3 ?_)
      · refine Lq.one 17 (by kernel_rfl) (LqOp.cell 17 (.int .i64 (wd : Int)) ⟨p, 3, none⟩ rfl (by kernel_rfl) rfl (by kernel_rfl) Tryd.underlying3 rfl m3 ?_)
        refine Lq.one 18 (by kernel_rfl) (LqOp.call 18 (f := 19) (args := #[.slice (some ⟨u0.heap.size, 0, none⟩) n n, .int .i64 (wd : Int)]) rfl (by kernel_rfl) (by kernel_rfl) (hA.mono ?_))
        rintro e x3 ⟨A3, c3, rfl, hO3, hb3⟩
        refine ⟨_, rfl, ?_⟩
        have hK3 := hKm.trans (hb3.mono hKm.size)
        have y3 := (World.cell?_of_block (hb3.block p lm)).trans m3
        have y4 := (World.cell?_of_block (hb3.block p lm)).trans m4
        refine Ln.val 19 (.int .i64 (sm : Int)) rfl (by kernel_rfl) (by kernel_rfl) (by kernel_rfl) (fun _ _ _ h => h) (by kernel_rfl) (fun w => by kernel_rfl) ?_
        refine Ln.val 22 (.bool true) rfl (by kernel_rfl) (by kernel_rfl) (by kernel_rfl) (fun _ _ _ h => h) (by kernel_rfl) (fun w => Eq.trans (b := .ok (.value (.bool ((sm : Int) == (sm : Int)))) w) (by kernel_rfl) (okB (beq_self_eq_true _))) ?_
        refine Ln.val 23 (.bool true) rfl (by kernel_rfl) (by kernel_rfl) (by kernel_rfl) (fun _ _ _ h => h) (by kernel_rfl) (fun w => by kernel_rfl) ?_
        refine Ln.val 24 (.bool true) rfl (by kernel_rfl) (by kernel_rfl) (by kernel_rfl) (fun _ _ _ h => h) (by kernel_rfl) (fun w => by kernel_rfl) ?_
        refine Ln.val 25 (.pointer (some ⟨p, 3, none⟩)) rfl (by kernel_rfl) (by kernel_rfl) (by kernel_rfl) (fun _ _ _ h => h) (by kernel_rfl) (fun w => by kernel_rfl) ?_
        refine Lq.one 26 (by kernel_rfl) (LqOp.cell 26 (.int .i64 (wd : Int)) ⟨p, 3, none⟩ rfl (by kernel_rfl) rfl (by kernel_rfl) Tryd.underlying3 rfl y3 ?_)
        refine Lq.one 27 (by kernel_rfl) (LqOp.call 27 (f := 20) (args := #[.int .i64 (wd : Int)]) rfl (by kernel_rfl) (by kernel_rfl) ((hmay x3).mono ?_))
        rintro e x4 ⟨rfl, hb4⟩
        refine ⟨_, rfl, ?_⟩
        refine Ln.val 28 (.bool true) rfl (by kernel_rfl) (by kernel_rfl) (by kernel_rfl) (fun _ _ _ h => h) (by kernel_rfl) (fun w => by kernel_rfl) ?_
        refine Ln.val 29 (.bool true) rfl (by kernel_rfl) (by kernel_rfl) (by kernel_rfl) (fun _ _ _ h => h) (by kernel_rfl) (fun w => by kernel_rfl) ?_
        refine Ln.done (by kernel_rfl) ?_
        have hK4 := hK3.trans (hb4.mono hK3.size)
        go_wp2_with fail
        go_ret
        exact ⟨by kernel_rfl, hK4⟩
      · refine Lq.one 15 (by kernel_rfl) (LqOp.made (w' := m) 15 (.slice (some ⟨u0.heap.size, 0, none⟩) n n) rfl (by kernel_rfl) (exec_make1 rfl (by kernel_rfl) (by kernel_rfl) hmk) ?_)
        refine Lq.one 18 (by kernel_rfl) (LqOp.call 18 (f := 19) (args := #[.slice (some ⟨u0.heap.size, 0, none⟩) n n, .int .i64 (wd : Int)]) rfl (by kernel_rfl) (by kernel_rfl) (hA.mono ?_))
        rintro e x3 ⟨A3, c3, rfl, hO3, hb3⟩
        refine ⟨_, rfl, ?_⟩
        have hK3 := hKm.trans (hb3.mono hKm.size)
        have y3 := (World.cell?_of_block (hb3.block p lm)).trans m3
        have y4 := (World.cell?_of_block (hb3.block p lm)).trans m4
        refine Ln.val 19 (.int .i64 (sm : Int)) rfl (by kernel_rfl) (by kernel_rfl) (by kernel_rfl) (fun _ _ _ h => h) (by kernel_rfl) (fun w => by kernel_rfl) ?_
        refine Ln.val 22 (.bool true) rfl (by kernel_rfl) (by kernel_rfl) (by kernel_rfl) (fun _ _ _ h => h) (by kernel_rfl) (fun w => Eq.trans (b := .ok (.value (.bool ((sm : Int) == (sm : Int)))) w) (by kernel_rfl) (okB (beq_self_eq_true _))) ?_
        refine Ln.val 23 (.bool true) rfl (by kernel_rfl) (by kernel_rfl) (by kernel_rfl) (fun _ _ _ h => h) (by kernel_rfl) (fun w => by kernel_rfl) ?_
        refine Ln.val 24 (.bool true) rfl (by kernel_rfl) (by kernel_rfl) (by kernel_rfl) (fun _ _ _ h => h) (by kernel_rfl) (fun w => by kernel_rfl) ?_
        refine Ln.val 25 (.pointer (some ⟨p, 3, none⟩)) rfl (by kernel_rfl) (by kernel_rfl) (by kernel_rfl) (fun _ _ _ h => h) (by kernel_rfl) (fun w => by kernel_rfl) ?_
        refine Lq.one 26 (by kernel_rfl) (LqOp.cell 26 (.int .i64 (wd : Int)) ⟨p, 3, none⟩ rfl (by kernel_rfl) rfl (by kernel_rfl) Tryd.underlying3 rfl y3 ?_)
        refine Lq.one 27 (by kernel_rfl) (LqOp.call 27 (f := 20) (args := #[.int .i64 (wd : Int)]) rfl (by kernel_rfl) (by kernel_rfl) ((hmay x3).mono ?_))
        rintro e x4 ⟨rfl, hb4⟩
        refine ⟨_, rfl, ?_⟩
        refine Ln.val 28 (.bool true) rfl (by kernel_rfl) (by kernel_rfl) (by kernel_rfl) (fun _ _ _ h => h) (by kernel_rfl) (fun w => by kernel_rfl) ?_
        refine Ln.val 29 (.bool true) rfl (by kernel_rfl) (by kernel_rfl) (by kernel_rfl) (fun _ _ _ h => h) (by kernel_rfl) (fun w => by kernel_rfl) ?_
        refine Ln.done (by kernel_rfl) ?_
        have hK4 := hK3.trans (hb4.mono hK3.size)
        go_wp2_with fail
        go_ret
        exact ⟨by kernel_rfl, hK4⟩
  · refine Lq.two 14 21 (by kernel_rfl) (LqOp.cell 14 (.int .i64 (n : Int)) ⟨p, 2, none⟩ rfl (by kernel_rfl) rfl (by kernel_rfl) Tryd.underlying3 rfl a2 ?_) (LqOp.cell 21 (.int .i64 (sm : Int)) ⟨p, 4, none⟩ rfl (by kernel_rfl) rfl (by kernel_rfl) Tryd.underlying3 rfl a4 ?_)
    · refine Lq.two 15 21 (by kernel_rfl) (LqOp.made (w' := m) 15 (.slice (some ⟨u0.heap.size, 0, none⟩) n n) rfl (by kernel_rfl) (exec_make1 rfl (by kernel_rfl) (by kernel_rfl) hmk) ?_) (LqOp.cell 21 (.int .i64 (sm : Int)) ⟨p, 4, none⟩ rfl (by kernel_rfl) rfl (by kernel_rfl) Tryd.underlying3 rfl a4 ?_)
      · refine Lq.two 18 21 (by kernel_rfl) (LqOp.call 18 (f := 19) (args := #[.slice (some ⟨u0.heap.size, 0, none⟩) n n, .int .i64 (wd : Int)]) rfl (by kernel_rfl) (by kernel_rfl) (hA.mono ?_)) (LqOp.cell 21 (.int .i64 (sm : Int)) ⟨p, 4, none⟩ rfl (by kernel_rfl) rfl (by kernel_rfl) Tryd.underlying3 rfl m4 ?_)
        · rintro e x3 ⟨A3, c3, rfl, hO3, hb3⟩
          refine ⟨_, rfl, ?_⟩
          have hK3 := hKm.trans (hb3.mono hKm.size)
          have y3 := (World.cell?_of_block (hb3.block p lm)).trans m3
          have y4 := (World.cell?_of_block (hb3.block p lm)).trans m4
          refine Ln.val 19 (.int .i64 (sm : Int)) rfl (by kernel_rfl) (by kernel_rfl) (by kernel_rfl) (fun _ _ _ h => h) (by kernel_rfl) (fun w => by kernel_rfl) ?_
          refine Lq.one 21 (by kernel_rfl) (LqOp.cell 21 (.int .i64 (sm : Int)) ⟨p, 4, none⟩ rfl (by kernel_rfl) rfl (by kernel_rfl) Tryd.underlying3 rfl y4 ?_)
          refine Ln.val 22 (.bool true) rfl (by kernel_rfl) (by kernel_rfl) (by kernel_rfl) (fun _ _ _ h => h) (by kernel_rfl) (fun w => Eq.trans (b := .ok (.value (.bool ((sm : Int) == (sm : Int)))) w) (by kernel_rfl) (okB (beq_self_eq_true _))) ?_
          refine Ln.val 23 (.bool true) rfl (by kernel_rfl) (by kernel_rfl) (by kernel_rfl) (fun _ _ _ h => h) (by kernel_rfl) (fun w => by kernel_rfl) ?_
          refine Ln.val 24 (.bool true) rfl (by kernel_rfl) (by kernel_rfl) (by kernel_rfl) (fun _ _ _ h => h) (by kernel_rfl) (fun w => by kernel_rfl) ?_
          refine Ln.val 25 (.pointer (some ⟨p, 3, none⟩)) rfl (by kernel_rfl) (by kernel_rfl) (by kernel_rfl) (fun _ _ _ h => h) (by kernel_rfl) (fun w => by kernel_rfl) ?_
          refine Lq.one 26 (by kernel_rfl) (LqOp.cell 26 (.int .i64 (wd : Int)) ⟨p, 3, none⟩ rfl (by kernel_rfl) rfl (by kernel_rfl) Tryd.underlying3 rfl y3 ?_)
          refine Lq.one 27 (by kernel_rfl) (LqOp.call 27 (f := 20) (args := #[.int .i64 (wd : Int)]) rfl (by kernel_rfl) (by kernel_rfl) ((hmay x3).mono ?_))
          rintro e x4 ⟨rfl, hb4⟩
          refine ⟨_, rfl, ?_⟩
          refine Ln.val 28 (.bool true) rfl (by kernel_rfl) (by kernel_rfl) (by kernel_rfl) (fun _ _ _ h => h) (by kernel_rfl) (fun w => by kernel_rfl) ?_
          refine Ln.val 29 (.bool true) rfl (by kernel_rfl) (by kernel_rfl) (by kernel_rfl) (fun _ _ _ h => h) (by kernel_rfl) (fun w => by kernel_rfl) ?_
          refine Ln.done (by kernel_rfl) ?_
          have hK4 := hK3.trans (hb4.mono hK3.size)
          go_wp2_with fail
          go_ret
          exact ⟨by kernel_rfl, hK4⟩
        · refine Lq.one 18 (by kernel_rfl) (LqOp.call 18 (f := 19) (args := #[.slice (some ⟨u0.heap.size, 0, none⟩) n n, .int .i64 (wd : Int)]) rfl (by kernel_rfl) (by kernel_rfl) (hA.mono ?_))
          rintro e x3 ⟨A3, c3, rfl, hO3, hb3⟩
          refine ⟨_, rfl, ?_⟩
          have hK3 := hKm.trans (hb3.mono hKm.size)
          have y3 := (World.cell?_of_block (hb3.block p lm)).trans m3
          have y4 := (World.cell?_of_block (hb3.block p lm)).trans m4
          refine Ln.val 19 (.int .i64 (sm : Int)) rfl (by kernel_rfl) (by kernel_rfl) (by kernel_rfl) (fun _ _ _ h => h) (by kernel_rfl) (fun w => by kernel_rfl) ?_
          refine Ln.val 22 (.bool true) rfl (by kernel_rfl) (by kernel_rfl) (by kernel_rfl) (fun _ _ _ h => h) (by kernel_rfl) (fun w => Eq.trans (b := .ok (.value (.bool ((sm : Int) == (sm : Int)))) w) (by kernel_rfl) (okB (beq_self_eq_true _))) ?_
          refine Ln.val 23 (.bool true) rfl (by kernel_rfl) (by kernel_rfl) (by kernel_rfl) (fun _ _ _ h => h) (by kernel_rfl) (fun w => by kernel_rfl) ?_
          refine Ln.val 24 (.bool true) rfl (by kernel_rfl) (by kernel_rfl) (by kernel_rfl) (fun _ _ _ h => h) (by kernel_rfl) (fun w => by kernel_rfl) ?_
          refine Ln.val 25 (.pointer (some ⟨p, 3, none⟩)) rfl (by kernel_rfl) (by kernel_rfl) (by kernel_rfl) (fun _ _ _ h => h) (by kernel_rfl) (fun w => by kernel_rfl) ?_
          refine Lq.one 26 (by kernel_rfl) (LqOp.cell 26 (.int .i64 (wd : Int)) ⟨p, 3, none⟩ rfl (by kernel_rfl) rfl (by kernel_rfl) Tryd.underlying3 rfl y3 ?_)
          refine Lq.one 27 (by kernel_rfl) (LqOp.call 27 (f := 20) (args := #[.int .i64 (wd : Int)]) rfl (by kernel_rfl) (by kernel_rfl) ((hmay x3).mono ?_))
          rintro e x4 ⟨rfl, hb4⟩
          refine ⟨_, rfl, ?_⟩
          refine Ln.val 28 (.bool true) rfl (by kernel_rfl) (by kernel_rfl) (by kernel_rfl) (fun _ _ _ h => h) (by kernel_rfl) (fun w => by kernel_rfl) ?_
          refine Ln.val 29 (.bool true) rfl (by kernel_rfl) (by kernel_rfl) (by kernel_rfl) (fun _ _ _ h => h) (by kernel_rfl) (fun w => by kernel_rfl) ?_
          refine Ln.done (by kernel_rfl) ?_
          have hK4 := hK3.trans (hb4.mono hK3.size)
          go_wp2_with fail
          go_ret
          exact ⟨by kernel_rfl, hK4⟩
      · refine Lq.one 15 (by kernel_rfl) (LqOp.made (w' := m) 15 (.slice (some ⟨u0.heap.size, 0, none⟩) n n) rfl (by kernel_rfl) (exec_make1 rfl (by kernel_rfl) (by kernel_rfl) hmk) ?_)
        refine Lq.one 18 (by kernel_rfl) (LqOp.call 18 (f := 19) (args := #[.slice (some ⟨u0.heap.size, 0, none⟩) n n, .int .i64 (wd : Int)]) rfl (by kernel_rfl) (by kernel_rfl) (hA.mono ?_))
        rintro e x3 ⟨A3, c3, rfl, hO3, hb3⟩
        refine ⟨_, rfl, ?_⟩
        have hK3 := hKm.trans (hb3.mono hKm.size)
        have y3 := (World.cell?_of_block (hb3.block p lm)).trans m3
        have y4 := (World.cell?_of_block (hb3.block p lm)).trans m4
        refine Ln.val 19 (.int .i64 (sm : Int)) rfl (by kernel_rfl) (by kernel_rfl) (by kernel_rfl) (fun _ _ _ h => h) (by kernel_rfl) (fun w => by kernel_rfl) ?_
        refine Ln.val 22 (.bool true) rfl (by kernel_rfl) (by kernel_rfl) (by kernel_rfl) (fun _ _ _ h => h) (by kernel_rfl) (fun w => Eq.trans (b := .ok (.value (.bool ((sm : Int) == (sm : Int)))) w) (by kernel_rfl) (okB (beq_self_eq_true _))) ?_
        refine Ln.val 23 (.bool true) rfl (by kernel_rfl) (by kernel_rfl) (by kernel_rfl) (fun _ _ _ h => h) (by kernel_rfl) (fun w => by kernel_rfl) ?_
        refine Ln.val 24 (.bool true) rfl (by kernel_rfl) (by kernel_rfl) (by kernel_rfl) (fun _ _ _ h => h) (by kernel_rfl) (fun w => by kernel_rfl) ?_
        refine Ln.val 25 (.pointer (some ⟨p, 3, none⟩)) rfl (by kernel_rfl) (by kernel_rfl) (by kernel_rfl) (fun _ _ _ h => h) (by kernel_rfl) (fun w => by kernel_rfl) ?_
        refine Lq.one 26 (by kernel_rfl) (LqOp.cell 26 (.int .i64 (wd : Int)) ⟨p, 3, none⟩ rfl (by kernel_rfl) rfl (by kernel_rfl) Tryd.underlying3 rfl y3 ?_)
        refine Lq.one 27 (by kernel_rfl) (LqOp.call 27 (f := 20) (args := #[.int .i64 (wd : Int)]) rfl (by kernel_rfl) (by kernel_rfl) ((hmay x3).mono ?_))
        rintro e x4 ⟨rfl, hb4⟩
        refine ⟨_, rfl, ?_⟩
        refine Ln.val 28 (.bool true) rfl (by kernel_rfl) (by kernel_rfl) (by kernel_rfl) (fun _ _ _ h => h) (by kernel_rfl) (fun w => by kernel_rfl) ?_
        refine Ln.val 29 (.bool true) rfl (by kernel_rfl) (by kernel_rfl) (by kernel_rfl) (fun _ _ _ h => h) (by kernel_rfl) (fun w => by kernel_rfl) ?_
        refine Ln.done (by kernel_rfl) ?_
        have hK4 := hK3.trans (hb4.mono hK3.size)
        go_wp2_with fail
        go_ret
        exact ⟨by kernel_rfl, hK4⟩
    · refine Lq.one 14 (by kernel_rfl) (LqOp.cell 14 (.int .i64 (n : Int)) ⟨p, 2, none⟩ rfl (by kernel_rfl) rfl (by kernel_rfl) Tryd.underlying3 rfl a2 ?_)
      refine Lq.one 15 (by kernel_rfl) (LqOp.made (w' := m) 15 (.slice (some ⟨u0.heap.size, 0, none⟩) n n) rfl (by kernel_rfl) (exec_make1 rfl (by kernel_rfl) (by kernel_rfl) hmk) ?_)
      refine Lq.one 18 (by kernel_rfl) (LqOp.call 18 (f := 19) (args := #[.slice (some ⟨u0.heap.size, 0, none⟩) n n, .int .i64 (wd : Int)]) rfl (by kernel_rfl) (by kernel_rfl) (hA.mono ?_))
      rintro e x3 ⟨A3, c3, rfl, hO3, hb3⟩
      refine ⟨_, rfl, ?_⟩
      have hK3 := hKm.trans (hb3.mono hKm.size)
      have y3 := (World.cell?_of_block (hb3.block p lm)).trans m3
      have y4 := (World.cell?_of_block (hb3.block p lm)).trans m4
      refine Ln.val 19 (.int .i64 (sm : Int)) rfl (by kernel_rfl) (by kernel_rfl) (by kernel_rfl) (fun _ _ _ h => h) (by kernel_rfl) (fun w => by kernel_rfl) ?_
      refine Ln.val 22 (.bool true) rfl (by kernel_rfl) (by kernel_rfl) (by kernel_rfl) (fun _ _ _ h => h) (by kernel_rfl) (fun w => Eq.trans (b := .ok (.value (.bool ((sm : Int) == (sm : Int)))) w) (by kernel_rfl) (okB (beq_self_eq_true _))) ?_
      refine Ln.val 23 (.bool true) rfl (by kernel_rfl) (by kernel_rfl) (by kernel_rfl) (fun _ _ _ h => h) (by kernel_rfl) (fun w => by kernel_rfl) ?_
      refine Ln.val 24 (.bool true) rfl (by kernel_rfl) (by kernel_rfl) (by kernel_rfl) (fun _ _ _ h => h) (by kernel_rfl) (fun w => by kernel_rfl) ?_
      refine Ln.val 25 (.pointer (some ⟨p, 3, none⟩)) rfl (by kernel_rfl) (by kernel_rfl) (by kernel_rfl) (fun _ _ _ h => h) (by kernel_rfl) (fun w => by kernel_rfl) ?_
      refine Lq.one 26 (by kernel_rfl) (LqOp.cell 26 (.int .i64 (wd : Int)) ⟨p, 3, none⟩ rfl (by kernel_rfl) rfl (by kernel_rfl) Tryd.underlying3 rfl y3 ?_)
      refine Lq.one 27 (by kernel_rfl) (LqOp.call 27 (f := 20) (args := #[.int .i64 (wd : Int)]) rfl (by kernel_rfl) (by kernel_rfl) ((hmay x3).mono ?_))
      rintro e x4 ⟨rfl, hb4⟩
      refine ⟨_, rfl, ?_⟩
      refine Ln.val 28 (.bool true) rfl (by kernel_rfl) (by kernel_rfl) (by kernel_rfl) (fun _ _ _ h => h) (by kernel_rfl) (fun w => by kernel_rfl) ?_
      refine Ln.val 29 (.bool true) rfl (by kernel_rfl) (by kernel_rfl) (by kernel_rfl) (fun _ _ _ h => h) (by kernel_rfl) (fun w => by kernel_rfl) ?_
      refine Ln.done (by kernel_rfl) ?_
      have hK4 := hK3.trans (hb4.mono hK3.size)
      go_wp2_with fail
      go_ret
      exact ⟨by kernel_rfl, hK4⟩
  · refine Lq.two 14 17 (by kernel_rfl) (LqOp.cell 14 (.int .i64 (n : Int)) ⟨p, 2, none⟩ rfl (by kernel_rfl) rfl (by kernel_rfl) Tryd.underlying3 rfl a2 ?_) (LqOp.cell 17 (.int .i64 (wd : Int)) ⟨p, 3, none⟩ rfl (by kernel_rfl) rfl (by kernel_rfl) Tryd.underlying3 rfl a3 ?_)
    · refine Lq.two 15 17 (by kernel_rfl) (LqOp.made (w' := m) 15 (.slice (some ⟨u0.heap.size, 0, none⟩) n n) rfl (by kernel_rfl) (exec_make1 rfl (by kernel_rfl) (by kernel_rfl) hmk) ?_) (LqOp.cell 17 (.int .i64 (wd : Int)) ⟨p, 3, none⟩ rfl (by kernel_rfl) rfl (by kernel_rfl) Tryd.underlying3 rfl a3 ?_)
      · refine Lq.one 17 (by kernel_rfl) (LqOp.cell 17 (.int .i64 (wd : Int)) ⟨p, 3, none⟩ rfl (by kernel_rfl) rfl (by kernel_rfl) Tryd.underlying3 rfl m3 ?_)
        refine Lq.one 18 (by kernel_rfl) (LqOp.call 18 (f := 19) (args := #[.slice (some ⟨u0.heap.size, 0, none⟩) n n, .int .i64 (wd : Int)]) rfl (by kernel_rfl) (by kernel_rfl) (hA.mono ?_))
        rintro e x3 ⟨A3, c3, rfl, hO3, hb3⟩
        refine ⟨_, rfl, ?_⟩
        have hK3 := hKm.trans (hb3.mono hKm.size)
        have y3 := (World.cell?_of_block (hb3.block p lm)).trans m3
        have y4 := (World.cell?_of_block (hb3.block p lm)).trans m4
        refine Ln.val 19 (.int .i64 (sm : Int)) rfl (by kernel_rfl) (by kernel_rfl) (by kernel_rfl) (fun _ _ _ h => h) (by kernel_rfl) (fun w => by kernel_rfl) ?_
        refine Ln.val 22 (.bool true) rfl (by kernel_rfl) (by kernel_rfl) (by kernel_rfl) (fun _ _ _ h => h) (by kernel_rfl) (fun w => Eq.trans (b := .ok (.value (.bool ((sm : Int) == (sm : Int)))) w) (by kernel_rfl) (okB (beq_self_eq_true _))) ?_
        refine Ln.val 23 (.bool true) rfl (by kernel_rfl) (by kernel_rfl) (by kernel_rfl) (fun _ _ _ h => h) (by kernel_rfl) (fun w => by kernel_rfl) ?_
        refine Ln.val 24 (.bool true) rfl (by kernel_rfl) (by kernel_rfl) (by kernel_rfl) (fun _ _ _ h => h) (by kernel_rfl) (fun w => by kernel_rfl) ?_
        refine Ln.val 25 (.pointer (some ⟨p, 3, none⟩)) rfl (by kernel_rfl) (by kernel_rfl) (by kernel_rfl) (fun _ _ _ h => h) (by kernel_rfl) (fun w => by kernel_rfl) ?_
        refine Lq.one 26 (by kernel_rfl) (LqOp.cell 26 (.int .i64 (wd : Int)) ⟨p, 3, none⟩ rfl (by kernel_rfl) rfl (by kernel_rfl) Tryd.underlying3 rfl y3 ?_)
        refine Lq.one 27 (by kernel_rfl) (LqOp.call 27 (f := 20) (args := #[.int .i64 (wd : Int)]) rfl (by kernel_rfl) (by kernel_rfl) ((hmay x3).mono ?_))
        rintro e x4 ⟨rfl, hb4⟩
        refine ⟨_, rfl, ?_⟩
        refine Ln.val 28 (.bool true) rfl (by kernel_rfl) (by kernel_rfl) (by kernel_rfl) (fun _ _ _ h => h) (by kernel_rfl) (fun w => by kernel_rfl) ?_
        refine Ln.val 29 (.bool true) rfl (by kernel_rfl) (by kernel_rfl) (by kernel_rfl) (fun _ _ _ h => h) (by kernel_rfl) (fun w => by kernel_rfl) ?_
        refine Ln.done (by kernel_rfl) ?_
        have hK4 := hK3.trans (hb4.mono hK3.size)
        go_wp2_with fail
        go_ret
        exact ⟨by kernel_rfl, hK4⟩
      · refine Lq.one 15 (by kernel_rfl) (LqOp.made (w' := m) 15 (.slice (some ⟨u0.heap.size, 0, none⟩) n n) rfl (by kernel_rfl) (exec_make1 rfl (by kernel_rfl) (by kernel_rfl) hmk) ?_)
        refine Lq.one 18 (by kernel_rfl) (LqOp.call 18 (f := 19) (args := #[.slice (some ⟨u0.heap.size, 0, none⟩) n n, .int .i64 (wd : Int)]) rfl (by kernel_rfl) (by kernel_rfl) (hA.mono ?_))
        rintro e x3 ⟨A3, c3, rfl, hO3, hb3⟩
        refine ⟨_, rfl, ?_⟩
        have hK3 := hKm.trans (hb3.mono hKm.size)
        have y3 := (World.cell?_of_block (hb3.block p lm)).trans m3
        have y4 := (World.cell?_of_block (hb3.block p lm)).trans m4
        refine Ln.val 19 (.int .i64 (sm : Int)) rfl (by kernel_rfl) (by kernel_rfl) (by kernel_rfl) (fun _ _ _ h => h) (by kernel_rfl) (fun w => by kernel_rfl) ?_
        refine Ln.val 22 (.bool true) rfl (by kernel_rfl) (by kernel_rfl) (by kernel_rfl) (fun _ _ _ h => h) (by kernel_rfl) (fun w => Eq.trans (b := .ok (.value (.bool ((sm : Int) == (sm : Int)))) w) (by kernel_rfl) (okB (beq_self_eq_true _))) ?_
        refine Ln.val 23 (.bool true) rfl (by kernel_rfl) (by kernel_rfl) (by kernel_rfl) (fun _ _ _ h => h) (by kernel_rfl) (fun w => by kernel_rfl) ?_
        refine Ln.val 24 (.bool true) rfl (by kernel_rfl) (by kernel_rfl) (by kernel_rfl) (fun _ _ _ h => h) (by kernel_rfl) (fun w => by kernel_rfl) ?_
        refine Ln.val 25 (.pointer (some ⟨p, 3, none⟩)) rfl (by kernel_rfl) (by kernel_rfl) (by kernel_rfl) (fun _ _ _ h => h) (by kernel_rfl) (fun w => by kernel_rfl) ?_
        refine Lq.one 26 (by kernel_rfl) (LqOp.cell 26 (.int .i64 (wd : Int)) ⟨p, 3, none⟩ rfl (by kernel_rfl) rfl (by kernel_rfl) Tryd.underlying3 rfl y3 ?_)
        refine Lq.one 27 (by kernel_rfl) (LqOp.call 27 (f := 20) (args := #[.int .i64 (wd : Int)]) rfl (by kernel_rfl) (by kernel_rfl) ((hmay x3).mono ?_))
        rintro e x4 ⟨rfl, hb4⟩
        refine ⟨_, rfl, ?_⟩
        refine Ln.val 28 (.bool true) rfl (by kernel_rfl) (by kernel_rfl) (by kernel_rfl) (fun _ _ _ h => h) (by kernel_rfl) (fun w => by kernel_rfl) ?_
        refine Ln.val 29 (.bool true) rfl (by kernel_rfl) (by kernel_rfl) (by kernel_rfl) (fun _ _ _ h => h) (by kernel_rfl) (fun w => by kernel_rfl) ?_
        refine Ln.done (by kernel_rfl) ?_
        have hK4 := hK3.trans (hb4.mono hK3.size)
        go_wp2_with fail
        go_ret
        exact ⟨by kernel_rfl, hK4⟩
    · refine Lq.one 14 (by kernel_rfl) (LqOp.cell 14 (.int .i64 (n : Int)) ⟨p, 2, none⟩ rfl (by kernel_rfl) rfl (by kernel_rfl) Tryd.underlying3 rfl a2 ?_)
      refine Lq.one 15 (by kernel_rfl) (LqOp.made (w' := m) 15 (.slice (some ⟨u0.heap.size, 0, none⟩) n n) rfl (by kernel_rfl) (exec_make1 rfl (by kernel_rfl) (by kernel_rfl) hmk) ?_)
      refine Lq.one 18 (by kernel_rfl) (LqOp.call 18 (f := 19) (args := #[.slice (some ⟨u0.heap.size, 0, none⟩) n n, .int .i64 (wd : Int)]) rfl (by kernel_rfl) (by kernel_rfl) (hA.mono ?_))
      rintro e x3 ⟨A3, c3, rfl, hO3, hb3⟩
      refine ⟨_, rfl, ?_⟩
      have hK3 := hKm.trans (hb3.mono hKm.size)
      have y3 := (World.cell?_of_block (hb3.block p lm)).trans m3
      have y4 := (World.cell?_of_block (hb3.block p lm)).trans m4
      refine Ln.val 19 (.int .i64 (sm : Int)) rfl (by kernel_rfl) (by kernel_rfl) (by kernel_rfl) (fun _ _ _ h => h) (by kernel_rfl) (fun w => by kernel_rfl) ?_
      refine Ln.val 22 (.bool true) rfl (by kernel_rfl) (by kernel_rfl) (by kernel_rfl) (fun _ _ _ h => h) (by kernel_rfl) (fun w => Eq.trans (b := .ok (.value (.bool ((sm : Int) == (sm : Int)))) w) (by kernel_rfl) (okB (beq_self_eq_true _))) ?_
      refine Ln.val 23 (.bool true) rfl (by kernel_rfl) (by kernel_rfl) (by kernel_rfl) (fun _ _ _ h => h) (by kernel_rfl) (fun w => by kernel_rfl) ?_
      refine Ln.val 24 (.bool true) rfl (by kernel_rfl) (by kernel_rfl) (by kernel_rfl) (fun _ _ _ h => h) (by kernel_rfl) (fun w => by kernel_rfl) ?_
      refine Ln.val 25 (.pointer (some ⟨p, 3, none⟩)) rfl (by kernel_rfl) (by kernel_rfl) (by kernel_rfl) (fun _ _ _ h => h) (by kernel_rfl) (fun w => by kernel_rfl) ?_
      refine Lq.one 26 (by kernel_rfl) (LqOp.cell 26 (.int .i64 (wd : Int)) ⟨p, 3, none⟩ rfl (by kernel_rfl) rfl (by kernel_rfl) Tryd.underlying3 rfl y3 ?_)
      refine Lq.one 27 (by kernel_rfl) (LqOp.call 27 (f := 20) (args := #[.int .i64 (wd : Int)]) rfl (by kernel_rfl) (by kernel_rfl) ((hmay x3).mono ?_))
      rintro e x4 ⟨rfl, hb4⟩
      refine ⟨_, rfl, ?_⟩
      refine Ln.val 28 (.bool true) rfl (by kernel_rfl) (by kernel_rfl) (by kernel_rfl) (fun _ _ _ h => h) (by kernel_rfl) (fun w => by kernel_rfl) ?_
      refine Ln.val 29 (.bool true) rfl (by kernel_rfl) (by kernel_rfl) (by kernel_rfl) (fun _ _ _ h => h) (by kernel_rfl) (fun w => by kernel_rfl) ?_
      refine Ln.done (by kernel_rfl) ?_
      have hK4 := hK3.trans (hb4.mono hK3.size)
      go_wp2_with fail
      go_ret
      exact ⟨by kernel_rfl, hK4⟩
end Go.Proofs.YtigedohalangbaaDoor
