/- AdrsApart, walked: addresses as bytes are told apart. Conditions: words of their kinds; the tables. -/
import Derived.Test.YtfaonieaagepjaaDoorA4K
import Derived.Test.YtfaonieaagepjaaDoorA4L
namespace Go.Proofs.YtfaonieaagepjaaDoor
open Go.RowKit
set_option linter.unusedVariables false
set_option linter.unusedSimpArgs false
theorem put_inj4 (a b : Int) (ha : W32 a) (hb : W32 b) (h : putL a 4 = putL b 4) : a = b := by
  have h' : [a / 16777216 % 256, a / 65536 % 256, a / 256 % 256, a / 1 % 256] = [b / 16777216 % 256, b / 65536 % 256, b / 256 % 256, b / 1 % 256] := h
  simp only [List.cons.injEq, and_true] at h'
  obtain ⟨h0, h1, h2, h3⟩ := h'
  unfold W32 at *
  omega
theorem put_inj8 (a b : Int) (ha : 0 ≤ a ∧ a < 18446744073709551616) (hb : 0 ≤ b ∧ b < 18446744073709551616) (h : putL a 8 = putL b 8) : a = b := by
  have h' : [a / 72057594037927936 % 256, a / 281474976710656 % 256, a / 1099511627776 % 256, a / 4294967296 % 256, a / 16777216 % 256, a / 65536 % 256, a / 256 % 256, a / 1 % 256] = [b / 72057594037927936 % 256, b / 281474976710656 % 256, b / 1099511627776 % 256, b / 4294967296 % 256, b / 16777216 % 256, b / 65536 % 256, b / 256 % 256, b / 1 % 256] := h
  simp only [List.cons.injEq, and_true] at h'
  obtain ⟨h0, h1, h2, h3, h4, h5, h6, h7⟩ := h'
  have e1 : a / 4294967296 = b / 4294967296 := by omega
  omega
theorem words_inj : ∀ (xs ys : List Int), xs.length = ys.length → Ww xs → Ww ys → wordsL xs = wordsL ys → xs = ys
  | [], [], _, _, _, _ => rfl
  | x :: xs, y :: ys, hl, hx, hy, h => by
    have h' : putL x 4 ++ wordsL xs = putL y 4 ++ wordsL ys := h
    obtain ⟨h1, h2⟩ := List.append_inj h' (by rw [putL_len, putL_len])
    rw [put_inj4 x y (hx x (by simp)) (hy y (by simp)) h1, words_inj xs ys (by simpa using hl) (fun z hz => hx z (by simp [hz])) (fun z hz => hy z (by simp [hz])) h2]
theorem adB_inj (d e : Ad) (k m : Int) (hd : d.ok) (he : e.ok) (hk : W32 k) (hm : W32 m) (h : adB d k = adB e m) : d = e ∧ k = m := by
  obtain ⟨h12, h3⟩ := List.append_inj h (by simp only [List.length_append, wordsL_len, putL_len]; rfl)
  obtain ⟨h1, h2⟩ := List.append_inj h12 (by simp only [wordsL_len]; rfl)
  have e1 := words_inj [d.la] [e.la] rfl hd.w1 he.w1 h1
  have e2 := put_inj8 _ _ hd.tr he.tr h2
  have e3 := words_inj [d.kd, d.a, d.b, d.c, k] [e.kd, e.a, e.b, e.c, m] rfl (hd.w5 hk) (he.w5 hm) h3
  obtain ⟨la, tr, kd, a, b, c⟩ := d
  obtain ⟨la', tr', kd', a', b', c'⟩ := e
  simp only [List.cons.injEq, and_true] at e1 e3
  simp only [Ad.mk.injEq]
  exact ⟨⟨e1, e2, e3.1, e3.2.1, e3.2.2.1, e3.2.2.2.1⟩, e3.2.2.2.2⟩
theorem adP_inj (d e : Ad) (hd : d.ok) (he : e.ok) (h : adP d = adP e) : d = e := by
  obtain ⟨h12, h3⟩ := List.append_inj h (by simp only [List.length_append, wordsL_len, putL_len]; rfl)
  obtain ⟨h1, h2⟩ := List.append_inj h12 (by simp only [wordsL_len]; rfl)
  have e1 := words_inj [d.la, 0] [e.la, 0] rfl hd.w2 he.w2 h1
  have e2 := put_inj8 _ _ hd.tr he.tr h2
  have e3 := words_inj [d.kd, d.a, d.b, d.c] [e.kd, e.a, e.b, e.c] rfl hd.w4 he.w4 h3
  obtain ⟨la, tr, kd, a, b, c⟩ := d
  obtain ⟨la', tr', kd', a', b', c'⟩ := e
  simp only [List.cons.injEq, and_true] at e1 e3
  simp only [Ad.mk.injEq]
  exact ⟨e1, e2, e3.1, e3.2.1, e3.2.2.1, e3.2.2.2⟩
theorem eq_adrs (d e : Ad) (v : Bool) (hv : v = true ↔ d = e) (w : World) : (Op.equal 46 (.agg d.cs) (.agg e.cs)).run Tryd.prog w = .ok v w := by
  unfold Op.equal
  rw [show Op.maxDepth = 9999 + 1 from rfl, run_equalIn_struct w 9999 46 d.cs e.cs (by kernel_rfl) (by kernel_rfl)]
  simp only [Program.fieldsOf, Tryd.underlying46]
  unfold Ad.cs
  go_simp
  obtain ⟨la, tr, kd, a, b, c⟩ := d
  obtain ⟨la', tr', kd', a', b', c'⟩ := e
  rw [Ad.mk.injEq] at hv
  obtain rfl : v = decide (la = la' ∧ tr = tr' ∧ kd = kd' ∧ a = a' ∧ b = b' ∧ c = c') := by rw [Bool.eq_iff_iff, hv]; simp
  clear hv
  by_cases h1 : la = la'
  · by_cases h2 : tr = tr'
    · by_cases h3 : kd = kd'
      · by_cases h4 : a = a'
        · by_cases h5 : b = b'
          · by_cases h6 : c = c' <;> simp [h1, h2, h3, h4, h5, h6]
          · simp [h1, h2, h3, h4, h5]
        · simp [h1, h2, h3, h4]
      · simp [h1, h2, h3]
    · simp [h1, h2]
  · simp [h1]
theorem exec_eql_ad {d e : Ad} {o : Oper} {a : Act} {x y : Operand} {b : Bool} (hb : b = true ↔ d = e) (ho : o.op = .binOp .eql 46 x y 46) (hx : a.eval x = .agg d.cs) (hy : a.eval y = .agg e.cs) (w : World) :
    (execOp a.eval o).run Tryd.prog w = .ok (.value (.bool b)) w := by
  have h2 := eq_adrs d e b hb w
  refine exec_bin w ho hx hy ?_ ?_
  · simp [eqGuard, show Tryd.prog.eqGuardType Tryd.prog.depth 46 = false from by kernel_rfl]
  · simp only [binOp, Sem.run_bind, h2, Result.andThen_ok, Sem.run_pure]
set_option maxRecDepth 100000 in
set_option maxHeartbeats 4000000 in
theorem adrsApart_walk (d g : Ad) (k m : Int) (w : World) (hd : d.ok) (he : g.ok) (hk : W32 k) (hm : W32 m) (hS : S2Tb w) (hKT : KTab w) :
    Calls Tryd.prog 8 #[.agg d.cs, .agg g.cs, .agg #[.int .u32 k, .int .u32 m]] w fun e w' => e = .returned (.bool true) ∧ Below w.heap.size w w' := by
  have hXd := ((Blk.new w 46 d.cs).alloc (.cells g.cs 46)).alloc (.cells #[.int .u32 k, .int .u32 m] 58)
  have hXe := (Blk.new (w.alloc (.cells d.cs 46)) 46 g.cs).alloc (.cells #[.int .u32 k, .int .u32 m] 58)
  have hXh := Blk.new ((w.alloc (.cells d.cs 46)).alloc (.cells g.cs 46)) 58 #[.int .u32 k, .int .u32 m]
  have hKx := bal (bal (bal (Below.refl w.heap.size w) (Nat.le_refl _) (.cells d.cs 46)) (by simp) (.cells g.cs 46)) (by simp; omega) (.cells #[.int .u32 k, .int .u32 m] 58)
  have hz1 : (w.alloc (.cells d.cs 46)).heap.size = w.heap.size + 1 := by simp
  have hz2 : ((w.alloc (.cells d.cs 46)).alloc (.cells g.cs 46)).heap.size = w.heap.size + 2 := by simp
  go_enter Tryd.func8, Tryd.ntmps8
  go_upto_region 1 with fail
  change Code.wp _ _ _ _ (((w.alloc (.cells d.cs 46)).alloc (.cells g.cs 46)).alloc (.cells #[.int .u32 k, .int .u32 m] 58))
  generalize (((w.alloc (.cells d.cs 46)).alloc (.cells g.cs 46)).alloc (.cells #[.int .u32 k, .int .u32 m] 58)) = w0 at hXd hXe hXh hKx ⊢
  rw [hz1] at hXe
  rw [hz2] at hXh
  clear hz1 hz2
  have hp0 := hXh.cell 0 _ rfl
  have hp1 := hXh.cell 1 _ rfl
  have hlp := hXh.lt
  have hlq := hXh.lt
  have hld := hXd.lt
  have hle := hXe.lt
  clear hXh
  go_wp2_with fail
  (with_reducible refine (awake14_any w0 (hS.below hKx (Nat.le_refl _)) (hKT.bel hKx)).mono ?_)
  rintro e v1 ⟨rfl, hb1⟩
  have hK1 := bnx hKx hb1 hKx.size
  have hcd_1 := hXd.below hb1 hld
  have hld_1 := Nat.lt_of_lt_of_le hld hb1.size
  have hce_1 := hXe.below hb1 hle
  have hle_1 := Nat.lt_of_lt_of_le hle hb1.size
  have hcp_1 := cell_bel hp0 hb1 hlp
  have hlp_1 := Nat.lt_of_lt_of_le hlp hb1.size
  have hcq_1 := cell_bel hp1 hb1 hlq
  have hlq_1 := Nat.lt_of_lt_of_le hlq hb1.size
  clear hKx hXd hld hXe hle hp0 hlp hp1 hlq hb1
  go_upto_region 3 with fail
  by_cases hq : d = g
  · by_cases hr : k = m
    · have hsB : decide (adB d k = adB g m) = true := decide_eq_true (by rw [hq, hr])
      have hsP : decide (adP d = adP g) = true := decide_eq_true (by rw [hq])
      have hde : true = true ↔ d = g := by simp [hq]
      have HQ := Lib.hid hq
      clear hq
      have HR := Lib.hid hr
      clear hr
      refine Lx.enter (fun w' => Blk w' w.heap.size 46 d.cs ∧ Blk w' (w.heap.size + 1) 46 g.cs ∧ w'.cell? ⟨w.heap.size + 2, 0, none⟩ = some (.int .u32 k) ∧ w'.cell? ⟨w.heap.size + 2, 1, none⟩ = some (.int .u32 m)) 10 (by kernel_rfl) (by kernel_rfl) ⟨hcd_1.drew, hce_1.drew, hcp_1, hcq_1⟩ ?_
      refine Lx.val 0 (.agg d.cs) rfl (by kernel_rfl) (by kernel_rfl) (by kernel_rfl) (fun _ _ _ h => h) (by kernel_rfl) (fun w hw => exec_load_row w rfl (by kernel_rfl) Tryd.underlying46 rfl (by kernel_rfl) hw.1) ?_; (try simp only [Act.put, List.getElem_toArray, List.getElem_cons_succ, List.getElem_cons_zero, List.setIfInBounds_toArray, List.set_cons_zero, List.set_cons_succ])
      (refine Lx.val 1 ?_ rfl (by kernel_rfl) (by kernel_rfl) (by kernel_rfl) (fun _ _ _ h => h) (by kernel_rfl) ?_ ?_; rotate_left 1; focus (intro w hw; go_simp; with_reducible rfl)); (try simp only [Act.put, List.getElem_toArray, List.getElem_cons_succ, List.getElem_cons_zero, List.setIfInBounds_toArray, List.set_cons_zero, List.set_cons_succ])
      (refine Lx.val 2 ?_ rfl (by kernel_rfl) (by kernel_rfl) (by kernel_rfl) (fun _ _ _ h => h) (by kernel_rfl) ?_ ?_; rotate_left 1; focus (intro w hw; have hcell := hw.2.2.1; go_simp; with_reducible rfl)); (try simp only [Act.put, List.getElem_toArray, List.getElem_cons_succ, List.getElem_cons_zero, List.setIfInBounds_toArray, List.set_cons_zero, List.set_cons_succ])
      refine Lx.val 4 (.agg g.cs) rfl (by kernel_rfl) (by kernel_rfl) (by kernel_rfl) (fun _ _ _ h => h) (by kernel_rfl) (fun w hw => exec_load_row w rfl (by kernel_rfl) Tryd.underlying46 rfl (by kernel_rfl) hw.2.1) ?_; (try simp only [Act.put, List.getElem_toArray, List.getElem_cons_succ, List.getElem_cons_zero, List.setIfInBounds_toArray, List.set_cons_zero, List.set_cons_succ])
      (refine Lx.val 5 ?_ rfl (by kernel_rfl) (by kernel_rfl) (by kernel_rfl) (fun _ _ _ h => h) (by kernel_rfl) ?_ ?_; rotate_left 1; focus (intro w hw; go_simp; with_reducible rfl)); (try simp only [Act.put, List.getElem_toArray, List.getElem_cons_succ, List.getElem_cons_zero, List.setIfInBounds_toArray, List.set_cons_zero, List.set_cons_succ])
      (refine Lx.val 6 ?_ rfl (by kernel_rfl) (by kernel_rfl) (by kernel_rfl) (fun _ _ _ h => h) (by kernel_rfl) ?_ ?_; rotate_left 1; focus (intro w hw; have hcell := hw.2.2.2; go_simp; with_reducible rfl)); (try simp only [Act.put, List.getElem_toArray, List.getElem_cons_succ, List.getElem_cons_zero, List.setIfInBounds_toArray, List.set_cons_zero, List.set_cons_succ])
      have hK2 := bdw hK1
      have hcd_2 := hcd_1.drew
      have hld_2 := (show _ < v1.drew.heap.size from hld_1)
      have hce_2 := hce_1.drew
      have hle_2 := (show _ < v1.drew.heap.size from hle_1)
      have hcp_2 := cdw hcp_1
      have hlp_2 := (show _ < v1.drew.heap.size from hlp_1)
      have hcq_2 := cdw hcq_1
      have hlq_2 := (show _ < v1.drew.heap.size from hlq_1)
      generalize v1.drew = v2 at hK2 hcd_2 hld_2 hce_2 hle_2 hcp_2 hlp_2 hcq_2 hlq_2 ⊢
      clear hK1 hcd_1 hld_1 hce_1 hle_1 hcp_1 hlp_1 hcq_1 hlq_1
      refine Lx.call 3 rfl (by kernel_rfl) (by kernel_rfl) (by kernel_rfl) (fun _ => (bytes_any d k v2 hd hk).mono ?_)
      rintro e v3 ⟨A3, c3, rfl, hF3, hb3⟩
      have hK3 := bnx hK2 hb3 hK2.size
      have hcd_3 := hcd_2.below hb3 hld_2
      have hld_3 := Nat.lt_of_lt_of_le hld_2 hb3.size
      have hce_3 := hce_2.below hb3 hle_2
      have hle_3 := Nat.lt_of_lt_of_le hle_2 hb3.size
      have hcp_3 := cell_bel hcp_2 hb3 hlp_2
      have hlp_3 := Nat.lt_of_lt_of_le hlp_2 hb3.size
      have hcq_3 := cell_bel hcq_2 hb3 hlq_2
      have hlq_3 := Nat.lt_of_lt_of_le hlq_2 hb3.size
      refine ⟨_, rfl, ⟨hcd_3, hce_3, hcp_3, hcq_3⟩, ?_⟩
      (try simp only [Act.put, List.getElem_toArray, List.getElem_cons_succ, List.getElem_cons_zero, List.setIfInBounds_toArray, List.set_cons_zero, List.set_cons_succ])
      have hRX := hF3.rd
      have hBX_3 := Below.refl v3.heap.size v3
      clear hK2 hcd_2 hld_2 hce_2 hle_2 hcp_2 hlp_2 hcq_2 hlq_2 hb3 hF3
      refine Lx.call 7 rfl (by kernel_rfl) (by kernel_rfl) (by kernel_rfl) (fun _ => (bytes_any g m v3 he hm).mono ?_)
      rintro e v4 ⟨A4, c4, rfl, hF4, hb4⟩
      have hK4 := bnx hK3 hb4 hK3.size
      have hBX_4 := bnx hBX_3 hb4 hBX_3.size
      have hcd_4 := hcd_3.below hb4 hld_3
      have hld_4 := Nat.lt_of_lt_of_le hld_3 hb4.size
      have hce_4 := hce_3.below hb4 hle_3
      have hle_4 := Nat.lt_of_lt_of_le hle_3 hb4.size
      have hcp_4 := cell_bel hcp_3 hb4 hlp_3
      have hlp_4 := Nat.lt_of_lt_of_le hlp_3 hb4.size
      have hcq_4 := cell_bel hcq_3 hb4 hlq_3
      have hlq_4 := Nat.lt_of_lt_of_le hlq_3 hb4.size
      refine ⟨_, rfl, ⟨hcd_4, hce_4, hcp_4, hcq_4⟩, ?_⟩
      (try simp only [Act.put, List.getElem_toArray, List.getElem_cons_succ, List.getElem_cons_zero, List.setIfInBounds_toArray, List.set_cons_zero, List.set_cons_succ])
      have hRZ := hF4.rd
      have hBZ_4 := Below.refl v4.heap.size v4
      clear hK3 hBX_3 hcd_3 hld_3 hce_3 hle_3 hcp_3 hlp_3 hcq_3 hlq_3 hb4 hF4
      refine Lx.call 8 rfl (by kernel_rfl) (by kernel_rfl) (by kernel_rfl) (fun _ => (same_to v4 A3 A4 (adB d k) (adB g m) 32 32 c3 c4 true (hRX.bel hBX_4) (hRZ.bel hBZ_4) (adB_len _ _) (adB_len _ _) (by decide) hsB).mono ?_)
      rintro e v5 ⟨rfl, hb5⟩
      have hK5 := bnx hK4 hb5 hK4.size
      have hBX_5 := bnx hBX_4 hb5 hBX_4.size
      have hBZ_5 := bnx hBZ_4 hb5 hBZ_4.size
      have hcd_5 := hcd_4.below hb5 hld_4
      have hld_5 := Nat.lt_of_lt_of_le hld_4 hb5.size
      have hce_5 := hce_4.below hb5 hle_4
      have hle_5 := Nat.lt_of_lt_of_le hle_4 hb5.size
      have hcp_5 := cell_bel hcp_4 hb5 hlp_4
      have hlp_5 := Nat.lt_of_lt_of_le hlp_4 hb5.size
      have hcq_5 := cell_bel hcq_4 hb5 hlq_4
      have hlq_5 := Nat.lt_of_lt_of_le hlq_4 hb5.size
      refine ⟨_, rfl, ⟨hcd_5, hce_5, hcp_5, hcq_5⟩, ?_⟩
      (try simp only [Act.put, List.getElem_toArray, List.getElem_cons_succ, List.getElem_cons_zero, List.setIfInBounds_toArray, List.set_cons_zero, List.set_cons_succ])
      clear hK4 hBX_4 hBZ_4 hcd_4 hld_4 hce_4 hle_4 hcp_4 hlp_4 hcq_4 hlq_4 hb5
      clear hRX hRZ hBX_5 hBZ_5
      (refine Lx.val 9 ?_ rfl (by kernel_rfl) (by kernel_rfl) (by kernel_rfl) (fun _ _ _ h => h) (by kernel_rfl) ?_ ?_; rotate_left 1; focus (intro w hw; go_simp; with_reducible rfl)); (try simp only [Act.put, List.getElem_toArray, List.getElem_cons_succ, List.getElem_cons_zero, List.setIfInBounds_toArray, List.set_cons_zero, List.set_cons_succ])
      refine Lx.done (by kernel_rfl) ?_
      intro _
      go_upto_region 4 with fail
      refine Lx.enter (fun w' => Blk w' w.heap.size 46 d.cs ∧ Blk w' (w.heap.size + 1) 46 g.cs ∧ w'.cell? ⟨w.heap.size + 2, 0, none⟩ = some (.int .u32 k) ∧ w'.cell? ⟨w.heap.size + 2, 1, none⟩ = some (.int .u32 m)) 6 (by kernel_rfl) (by kernel_rfl) ⟨hcd_5.drew, hce_5.drew, hcp_5, hcq_5⟩ ?_
      refine Lx.val 0 (.agg d.cs) rfl (by kernel_rfl) (by kernel_rfl) (by kernel_rfl) (fun _ _ _ h => h) (by kernel_rfl) (fun w hw => exec_load_row w rfl (by kernel_rfl) Tryd.underlying46 rfl (by kernel_rfl) hw.1) ?_; (try simp only [Act.put, List.getElem_toArray, List.getElem_cons_succ, List.getElem_cons_zero, List.setIfInBounds_toArray, List.set_cons_zero, List.set_cons_succ])
      refine Lx.val 2 (.agg g.cs) rfl (by kernel_rfl) (by kernel_rfl) (by kernel_rfl) (fun _ _ _ h => h) (by kernel_rfl) (fun w hw => exec_load_row w rfl (by kernel_rfl) Tryd.underlying46 rfl (by kernel_rfl) hw.2.1) ?_; (try simp only [Act.put, List.getElem_toArray, List.getElem_cons_succ, List.getElem_cons_zero, List.setIfInBounds_toArray, List.set_cons_zero, List.set_cons_succ])
      have hK6 := bdw hK5
      have hcd_6 := hcd_5.drew
      have hld_6 := (show _ < v5.drew.heap.size from hld_5)
      have hce_6 := hce_5.drew
      have hle_6 := (show _ < v5.drew.heap.size from hle_5)
      have hcp_6 := cdw hcp_5
      have hlp_6 := (show _ < v5.drew.heap.size from hlp_5)
      have hcq_6 := cdw hcq_5
      have hlq_6 := (show _ < v5.drew.heap.size from hlq_5)
      generalize v5.drew = v6 at hK6 hcd_6 hld_6 hce_6 hle_6 hcp_6 hlp_6 hcq_6 hlq_6 ⊢
      clear hK5 hcd_5 hld_5 hce_5 hle_5 hcp_5 hlp_5 hcq_5 hlq_5
      refine Lx.call 1 rfl (by kernel_rfl) (by kernel_rfl) (by kernel_rfl) (fun _ => (plain_any d v6 hd).mono ?_)
      rintro e v7 ⟨A7, c7, rfl, hF7, hb7⟩
      have hK7 := bnx hK6 hb7 hK6.size
      have hcd_7 := hcd_6.below hb7 hld_6
      have hld_7 := Nat.lt_of_lt_of_le hld_6 hb7.size
      have hce_7 := hce_6.below hb7 hle_6
      have hle_7 := Nat.lt_of_lt_of_le hle_6 hb7.size
      have hcp_7 := cell_bel hcp_6 hb7 hlp_6
      have hlp_7 := Nat.lt_of_lt_of_le hlp_6 hb7.size
      have hcq_7 := cell_bel hcq_6 hb7 hlq_6
      have hlq_7 := Nat.lt_of_lt_of_le hlq_6 hb7.size
      refine ⟨_, rfl, ⟨hcd_7, hce_7, hcp_7, hcq_7⟩, ?_⟩
      (try simp only [Act.put, List.getElem_toArray, List.getElem_cons_succ, List.getElem_cons_zero, List.setIfInBounds_toArray, List.set_cons_zero, List.set_cons_succ])
      have hRX := hF7.rd
      have hBX_7 := Below.refl v7.heap.size v7
      clear hK6 hcd_6 hld_6 hce_6 hle_6 hcp_6 hlp_6 hcq_6 hlq_6 hb7 hF7
      refine Lx.call 3 rfl (by kernel_rfl) (by kernel_rfl) (by kernel_rfl) (fun _ => (plain_any g v7 he).mono ?_)
      rintro e v8 ⟨A8, c8, rfl, hF8, hb8⟩
      have hK8 := bnx hK7 hb8 hK7.size
      have hBX_8 := bnx hBX_7 hb8 hBX_7.size
      have hcd_8 := hcd_7.below hb8 hld_7
      have hld_8 := Nat.lt_of_lt_of_le hld_7 hb8.size
      have hce_8 := hce_7.below hb8 hle_7
      have hle_8 := Nat.lt_of_lt_of_le hle_7 hb8.size
      have hcp_8 := cell_bel hcp_7 hb8 hlp_7
      have hlp_8 := Nat.lt_of_lt_of_le hlp_7 hb8.size
      have hcq_8 := cell_bel hcq_7 hb8 hlq_7
      have hlq_8 := Nat.lt_of_lt_of_le hlq_7 hb8.size
      refine ⟨_, rfl, ⟨hcd_8, hce_8, hcp_8, hcq_8⟩, ?_⟩
      (try simp only [Act.put, List.getElem_toArray, List.getElem_cons_succ, List.getElem_cons_zero, List.setIfInBounds_toArray, List.set_cons_zero, List.set_cons_succ])
      have hRZ := hF8.rd
      have hBZ_8 := Below.refl v8.heap.size v8
      clear hK7 hBX_7 hcd_7 hld_7 hce_7 hle_7 hcp_7 hlp_7 hcq_7 hlq_7 hb8 hF8
      refine Lx.call 4 rfl (by kernel_rfl) (by kernel_rfl) (by kernel_rfl) (fun _ => (same_to v8 A7 A8 (adP d) (adP g) 32 32 c7 c8 true (hRX.bel hBX_8) (hRZ.bel hBZ_8) (adP_len _) (adP_len _) (by decide) hsP).mono ?_)
      rintro e v9 ⟨rfl, hb9⟩
      have hK9 := bnx hK8 hb9 hK8.size
      have hBX_9 := bnx hBX_8 hb9 hBX_8.size
      have hBZ_9 := bnx hBZ_8 hb9 hBZ_8.size
      have hcd_9 := hcd_8.below hb9 hld_8
      have hld_9 := Nat.lt_of_lt_of_le hld_8 hb9.size
      have hce_9 := hce_8.below hb9 hle_8
      have hle_9 := Nat.lt_of_lt_of_le hle_8 hb9.size
      have hcp_9 := cell_bel hcp_8 hb9 hlp_8
      have hlp_9 := Nat.lt_of_lt_of_le hlp_8 hb9.size
      have hcq_9 := cell_bel hcq_8 hb9 hlq_8
      have hlq_9 := Nat.lt_of_lt_of_le hlq_8 hb9.size
      refine ⟨_, rfl, ⟨hcd_9, hce_9, hcp_9, hcq_9⟩, ?_⟩
      (try simp only [Act.put, List.getElem_toArray, List.getElem_cons_succ, List.getElem_cons_zero, List.setIfInBounds_toArray, List.set_cons_zero, List.set_cons_succ])
      clear hK8 hBX_8 hBZ_8 hcd_8 hld_8 hce_8 hle_8 hcp_8 hlp_8 hcq_8 hlq_8 hb9
      clear hRX hRZ hBX_9 hBZ_9
      (refine Lx.val 5 ?_ rfl (by kernel_rfl) (by kernel_rfl) (by kernel_rfl) (fun _ _ _ h => h) (by kernel_rfl) ?_ ?_; rotate_left 1; focus (intro w hw; go_simp; with_reducible rfl)); (try simp only [Act.put, List.getElem_toArray, List.getElem_cons_succ, List.getElem_cons_zero, List.setIfInBounds_toArray, List.set_cons_zero, List.set_cons_succ])
      refine Lx.done (by kernel_rfl) ?_
      intro _
      (try simp only [Act.put, List.getElem_toArray, List.getElem_cons_succ, List.getElem_cons_zero, List.setIfInBounds_toArray, List.set_cons_zero, List.set_cons_succ])
      have hr := HR.out
      go_wp2_with (first | (refine wpList_blk_yes (t := 46) (T := 46) (by rfl) rfl rfl Tryd.underlying46 rfl (by kernel_rfl) hcd_9 ?_) | (refine wpList_blk_yes (t := 46) (T := 46) (by rfl) rfl rfl Tryd.underlying46 rfl (by kernel_rfl) hce_9 ?_) | (refine wpList_val_yes (o := ⟨some 28, _, _, _, _, _⟩) (.bool true) (by rfl) (exec_eql_ad (d := d) (e := g) hde rfl rfl rfl _) ?_) | (refine wpList_val_yes (o := ⟨some 41, _, _, _, _, _⟩) (.bool true) (by rfl) (exec_eql_ad (d := d) (e := g) hde rfl rfl rfl _) ?_))
      go_ret
      exact ⟨rfl, hK9⟩
    · have hrb : (k == m) = false := by simp [hr]
      have hsB : decide (adB d k = adB g m) = false := decide_eq_false fun h => hr (adB_inj d g k m hd he hk hm h).2
      have hsP : decide (adP d = adP g) = true := decide_eq_true (by rw [hq])
      have hde : true = true ↔ d = g := by simp [hq]
      have HQ := Lib.hid hq
      clear hq
      refine Lx.enter (fun w' => Blk w' w.heap.size 46 d.cs ∧ Blk w' (w.heap.size + 1) 46 g.cs ∧ w'.cell? ⟨w.heap.size + 2, 0, none⟩ = some (.int .u32 k) ∧ w'.cell? ⟨w.heap.size + 2, 1, none⟩ = some (.int .u32 m)) 10 (by kernel_rfl) (by kernel_rfl) ⟨hcd_1.drew, hce_1.drew, hcp_1, hcq_1⟩ ?_
      refine Lx.val 0 (.agg d.cs) rfl (by kernel_rfl) (by kernel_rfl) (by kernel_rfl) (fun _ _ _ h => h) (by kernel_rfl) (fun w hw => exec_load_row w rfl (by kernel_rfl) Tryd.underlying46 rfl (by kernel_rfl) hw.1) ?_; (try simp only [Act.put, List.getElem_toArray, List.getElem_cons_succ, List.getElem_cons_zero, List.setIfInBounds_toArray, List.set_cons_zero, List.set_cons_succ])
      (refine Lx.val 1 ?_ rfl (by kernel_rfl) (by kernel_rfl) (by kernel_rfl) (fun _ _ _ h => h) (by kernel_rfl) ?_ ?_; rotate_left 1; focus (intro w hw; go_simp; with_reducible rfl)); (try simp only [Act.put, List.getElem_toArray, List.getElem_cons_succ, List.getElem_cons_zero, List.setIfInBounds_toArray, List.set_cons_zero, List.set_cons_succ])
      (refine Lx.val 2 ?_ rfl (by kernel_rfl) (by kernel_rfl) (by kernel_rfl) (fun _ _ _ h => h) (by kernel_rfl) ?_ ?_; rotate_left 1; focus (intro w hw; have hcell := hw.2.2.1; go_simp; with_reducible rfl)); (try simp only [Act.put, List.getElem_toArray, List.getElem_cons_succ, List.getElem_cons_zero, List.setIfInBounds_toArray, List.set_cons_zero, List.set_cons_succ])
      refine Lx.val 4 (.agg g.cs) rfl (by kernel_rfl) (by kernel_rfl) (by kernel_rfl) (fun _ _ _ h => h) (by kernel_rfl) (fun w hw => exec_load_row w rfl (by kernel_rfl) Tryd.underlying46 rfl (by kernel_rfl) hw.2.1) ?_; (try simp only [Act.put, List.getElem_toArray, List.getElem_cons_succ, List.getElem_cons_zero, List.setIfInBounds_toArray, List.set_cons_zero, List.set_cons_succ])
      (refine Lx.val 5 ?_ rfl (by kernel_rfl) (by kernel_rfl) (by kernel_rfl) (fun _ _ _ h => h) (by kernel_rfl) ?_ ?_; rotate_left 1; focus (intro w hw; go_simp; with_reducible rfl)); (try simp only [Act.put, List.getElem_toArray, List.getElem_cons_succ, List.getElem_cons_zero, List.setIfInBounds_toArray, List.set_cons_zero, List.set_cons_succ])
      (refine Lx.val 6 ?_ rfl (by kernel_rfl) (by kernel_rfl) (by kernel_rfl) (fun _ _ _ h => h) (by kernel_rfl) ?_ ?_; rotate_left 1; focus (intro w hw; have hcell := hw.2.2.2; go_simp; with_reducible rfl)); (try simp only [Act.put, List.getElem_toArray, List.getElem_cons_succ, List.getElem_cons_zero, List.setIfInBounds_toArray, List.set_cons_zero, List.set_cons_succ])
      have hK2 := bdw hK1
      have hcd_2 := hcd_1.drew
      have hld_2 := (show _ < v1.drew.heap.size from hld_1)
      have hce_2 := hce_1.drew
      have hle_2 := (show _ < v1.drew.heap.size from hle_1)
      have hcp_2 := cdw hcp_1
      have hlp_2 := (show _ < v1.drew.heap.size from hlp_1)
      have hcq_2 := cdw hcq_1
      have hlq_2 := (show _ < v1.drew.heap.size from hlq_1)
      generalize v1.drew = v2 at hK2 hcd_2 hld_2 hce_2 hle_2 hcp_2 hlp_2 hcq_2 hlq_2 ⊢
      clear hK1 hcd_1 hld_1 hce_1 hle_1 hcp_1 hlp_1 hcq_1 hlq_1
      refine Lx.call 3 rfl (by kernel_rfl) (by kernel_rfl) (by kernel_rfl) (fun _ => (bytes_any d k v2 hd hk).mono ?_)
      rintro e v3 ⟨A3, c3, rfl, hF3, hb3⟩
      have hK3 := bnx hK2 hb3 hK2.size
      have hcd_3 := hcd_2.below hb3 hld_2
      have hld_3 := Nat.lt_of_lt_of_le hld_2 hb3.size
      have hce_3 := hce_2.below hb3 hle_2
      have hle_3 := Nat.lt_of_lt_of_le hle_2 hb3.size
      have hcp_3 := cell_bel hcp_2 hb3 hlp_2
      have hlp_3 := Nat.lt_of_lt_of_le hlp_2 hb3.size
      have hcq_3 := cell_bel hcq_2 hb3 hlq_2
      have hlq_3 := Nat.lt_of_lt_of_le hlq_2 hb3.size
      refine ⟨_, rfl, ⟨hcd_3, hce_3, hcp_3, hcq_3⟩, ?_⟩
      (try simp only [Act.put, List.getElem_toArray, List.getElem_cons_succ, List.getElem_cons_zero, List.setIfInBounds_toArray, List.set_cons_zero, List.set_cons_succ])
      have hRX := hF3.rd
      have hBX_3 := Below.refl v3.heap.size v3
      clear hK2 hcd_2 hld_2 hce_2 hle_2 hcp_2 hlp_2 hcq_2 hlq_2 hb3 hF3
      refine Lx.call 7 rfl (by kernel_rfl) (by kernel_rfl) (by kernel_rfl) (fun _ => (bytes_any g m v3 he hm).mono ?_)
      rintro e v4 ⟨A4, c4, rfl, hF4, hb4⟩
      have hK4 := bnx hK3 hb4 hK3.size
      have hBX_4 := bnx hBX_3 hb4 hBX_3.size
      have hcd_4 := hcd_3.below hb4 hld_3
      have hld_4 := Nat.lt_of_lt_of_le hld_3 hb4.size
      have hce_4 := hce_3.below hb4 hle_3
      have hle_4 := Nat.lt_of_lt_of_le hle_3 hb4.size
      have hcp_4 := cell_bel hcp_3 hb4 hlp_3
      have hlp_4 := Nat.lt_of_lt_of_le hlp_3 hb4.size
      have hcq_4 := cell_bel hcq_3 hb4 hlq_3
      have hlq_4 := Nat.lt_of_lt_of_le hlq_3 hb4.size
      refine ⟨_, rfl, ⟨hcd_4, hce_4, hcp_4, hcq_4⟩, ?_⟩
      (try simp only [Act.put, List.getElem_toArray, List.getElem_cons_succ, List.getElem_cons_zero, List.setIfInBounds_toArray, List.set_cons_zero, List.set_cons_succ])
      have hRZ := hF4.rd
      have hBZ_4 := Below.refl v4.heap.size v4
      clear hK3 hBX_3 hcd_3 hld_3 hce_3 hle_3 hcp_3 hlp_3 hcq_3 hlq_3 hb4 hF4
      refine Lx.call 8 rfl (by kernel_rfl) (by kernel_rfl) (by kernel_rfl) (fun _ => (same_to v4 A3 A4 (adB d k) (adB g m) 32 32 c3 c4 false (hRX.bel hBX_4) (hRZ.bel hBZ_4) (adB_len _ _) (adB_len _ _) (by decide) hsB).mono ?_)
      rintro e v5 ⟨rfl, hb5⟩
      have hK5 := bnx hK4 hb5 hK4.size
      have hBX_5 := bnx hBX_4 hb5 hBX_4.size
      have hBZ_5 := bnx hBZ_4 hb5 hBZ_4.size
      have hcd_5 := hcd_4.below hb5 hld_4
      have hld_5 := Nat.lt_of_lt_of_le hld_4 hb5.size
      have hce_5 := hce_4.below hb5 hle_4
      have hle_5 := Nat.lt_of_lt_of_le hle_4 hb5.size
      have hcp_5 := cell_bel hcp_4 hb5 hlp_4
      have hlp_5 := Nat.lt_of_lt_of_le hlp_4 hb5.size
      have hcq_5 := cell_bel hcq_4 hb5 hlq_4
      have hlq_5 := Nat.lt_of_lt_of_le hlq_4 hb5.size
      refine ⟨_, rfl, ⟨hcd_5, hce_5, hcp_5, hcq_5⟩, ?_⟩
      (try simp only [Act.put, List.getElem_toArray, List.getElem_cons_succ, List.getElem_cons_zero, List.setIfInBounds_toArray, List.set_cons_zero, List.set_cons_succ])
      clear hK4 hBX_4 hBZ_4 hcd_4 hld_4 hce_4 hle_4 hcp_4 hlp_4 hcq_4 hlq_4 hb5
      clear hRX hRZ hBX_5 hBZ_5
      (refine Lx.val 9 ?_ rfl (by kernel_rfl) (by kernel_rfl) (by kernel_rfl) (fun _ _ _ h => h) (by kernel_rfl) ?_ ?_; rotate_left 1; focus (intro w hw; go_simp; with_reducible rfl)); (try simp only [Act.put, List.getElem_toArray, List.getElem_cons_succ, List.getElem_cons_zero, List.setIfInBounds_toArray, List.set_cons_zero, List.set_cons_succ])
      refine Lx.done (by kernel_rfl) ?_
      intro _
      go_upto_region 4 with fail
      refine Lx.enter (fun w' => Blk w' w.heap.size 46 d.cs ∧ Blk w' (w.heap.size + 1) 46 g.cs ∧ w'.cell? ⟨w.heap.size + 2, 0, none⟩ = some (.int .u32 k) ∧ w'.cell? ⟨w.heap.size + 2, 1, none⟩ = some (.int .u32 m)) 6 (by kernel_rfl) (by kernel_rfl) ⟨hcd_5.drew, hce_5.drew, hcp_5, hcq_5⟩ ?_
      refine Lx.val 0 (.agg d.cs) rfl (by kernel_rfl) (by kernel_rfl) (by kernel_rfl) (fun _ _ _ h => h) (by kernel_rfl) (fun w hw => exec_load_row w rfl (by kernel_rfl) Tryd.underlying46 rfl (by kernel_rfl) hw.1) ?_; (try simp only [Act.put, List.getElem_toArray, List.getElem_cons_succ, List.getElem_cons_zero, List.setIfInBounds_toArray, List.set_cons_zero, List.set_cons_succ])
      refine Lx.val 2 (.agg g.cs) rfl (by kernel_rfl) (by kernel_rfl) (by kernel_rfl) (fun _ _ _ h => h) (by kernel_rfl) (fun w hw => exec_load_row w rfl (by kernel_rfl) Tryd.underlying46 rfl (by kernel_rfl) hw.2.1) ?_; (try simp only [Act.put, List.getElem_toArray, List.getElem_cons_succ, List.getElem_cons_zero, List.setIfInBounds_toArray, List.set_cons_zero, List.set_cons_succ])
      have hK6 := bdw hK5
      have hcd_6 := hcd_5.drew
      have hld_6 := (show _ < v5.drew.heap.size from hld_5)
      have hce_6 := hce_5.drew
      have hle_6 := (show _ < v5.drew.heap.size from hle_5)
      have hcp_6 := cdw hcp_5
      have hlp_6 := (show _ < v5.drew.heap.size from hlp_5)
      have hcq_6 := cdw hcq_5
      have hlq_6 := (show _ < v5.drew.heap.size from hlq_5)
      generalize v5.drew = v6 at hK6 hcd_6 hld_6 hce_6 hle_6 hcp_6 hlp_6 hcq_6 hlq_6 ⊢
      clear hK5 hcd_5 hld_5 hce_5 hle_5 hcp_5 hlp_5 hcq_5 hlq_5
      refine Lx.call 1 rfl (by kernel_rfl) (by kernel_rfl) (by kernel_rfl) (fun _ => (plain_any d v6 hd).mono ?_)
      rintro e v7 ⟨A7, c7, rfl, hF7, hb7⟩
      have hK7 := bnx hK6 hb7 hK6.size
      have hcd_7 := hcd_6.below hb7 hld_6
      have hld_7 := Nat.lt_of_lt_of_le hld_6 hb7.size
      have hce_7 := hce_6.below hb7 hle_6
      have hle_7 := Nat.lt_of_lt_of_le hle_6 hb7.size
      have hcp_7 := cell_bel hcp_6 hb7 hlp_6
      have hlp_7 := Nat.lt_of_lt_of_le hlp_6 hb7.size
      have hcq_7 := cell_bel hcq_6 hb7 hlq_6
      have hlq_7 := Nat.lt_of_lt_of_le hlq_6 hb7.size
      refine ⟨_, rfl, ⟨hcd_7, hce_7, hcp_7, hcq_7⟩, ?_⟩
      (try simp only [Act.put, List.getElem_toArray, List.getElem_cons_succ, List.getElem_cons_zero, List.setIfInBounds_toArray, List.set_cons_zero, List.set_cons_succ])
      have hRX := hF7.rd
      have hBX_7 := Below.refl v7.heap.size v7
      clear hK6 hcd_6 hld_6 hce_6 hle_6 hcp_6 hlp_6 hcq_6 hlq_6 hb7 hF7
      refine Lx.call 3 rfl (by kernel_rfl) (by kernel_rfl) (by kernel_rfl) (fun _ => (plain_any g v7 he).mono ?_)
      rintro e v8 ⟨A8, c8, rfl, hF8, hb8⟩
      have hK8 := bnx hK7 hb8 hK7.size
      have hBX_8 := bnx hBX_7 hb8 hBX_7.size
      have hcd_8 := hcd_7.below hb8 hld_7
      have hld_8 := Nat.lt_of_lt_of_le hld_7 hb8.size
      have hce_8 := hce_7.below hb8 hle_7
      have hle_8 := Nat.lt_of_lt_of_le hle_7 hb8.size
      have hcp_8 := cell_bel hcp_7 hb8 hlp_7
      have hlp_8 := Nat.lt_of_lt_of_le hlp_7 hb8.size
      have hcq_8 := cell_bel hcq_7 hb8 hlq_7
      have hlq_8 := Nat.lt_of_lt_of_le hlq_7 hb8.size
      refine ⟨_, rfl, ⟨hcd_8, hce_8, hcp_8, hcq_8⟩, ?_⟩
      (try simp only [Act.put, List.getElem_toArray, List.getElem_cons_succ, List.getElem_cons_zero, List.setIfInBounds_toArray, List.set_cons_zero, List.set_cons_succ])
      have hRZ := hF8.rd
      have hBZ_8 := Below.refl v8.heap.size v8
      clear hK7 hBX_7 hcd_7 hld_7 hce_7 hle_7 hcp_7 hlp_7 hcq_7 hlq_7 hb8 hF8
      refine Lx.call 4 rfl (by kernel_rfl) (by kernel_rfl) (by kernel_rfl) (fun _ => (same_to v8 A7 A8 (adP d) (adP g) 32 32 c7 c8 true (hRX.bel hBX_8) (hRZ.bel hBZ_8) (adP_len _) (adP_len _) (by decide) hsP).mono ?_)
      rintro e v9 ⟨rfl, hb9⟩
      have hK9 := bnx hK8 hb9 hK8.size
      have hBX_9 := bnx hBX_8 hb9 hBX_8.size
      have hBZ_9 := bnx hBZ_8 hb9 hBZ_8.size
      have hcd_9 := hcd_8.below hb9 hld_8
      have hld_9 := Nat.lt_of_lt_of_le hld_8 hb9.size
      have hce_9 := hce_8.below hb9 hle_8
      have hle_9 := Nat.lt_of_lt_of_le hle_8 hb9.size
      have hcp_9 := cell_bel hcp_8 hb9 hlp_8
      have hlp_9 := Nat.lt_of_lt_of_le hlp_8 hb9.size
      have hcq_9 := cell_bel hcq_8 hb9 hlq_8
      have hlq_9 := Nat.lt_of_lt_of_le hlq_8 hb9.size
      refine ⟨_, rfl, ⟨hcd_9, hce_9, hcp_9, hcq_9⟩, ?_⟩
      (try simp only [Act.put, List.getElem_toArray, List.getElem_cons_succ, List.getElem_cons_zero, List.setIfInBounds_toArray, List.set_cons_zero, List.set_cons_succ])
      clear hK8 hBX_8 hBZ_8 hcd_8 hld_8 hce_8 hle_8 hcp_8 hlp_8 hcq_8 hlq_8 hb9
      clear hRX hRZ hBX_9 hBZ_9
      (refine Lx.val 5 ?_ rfl (by kernel_rfl) (by kernel_rfl) (by kernel_rfl) (fun _ _ _ h => h) (by kernel_rfl) ?_ ?_; rotate_left 1; focus (intro w hw; go_simp; with_reducible rfl)); (try simp only [Act.put, List.getElem_toArray, List.getElem_cons_succ, List.getElem_cons_zero, List.setIfInBounds_toArray, List.set_cons_zero, List.set_cons_succ])
      refine Lx.done (by kernel_rfl) ?_
      intro _
      (try simp only [Act.put, List.getElem_toArray, List.getElem_cons_succ, List.getElem_cons_zero, List.setIfInBounds_toArray, List.set_cons_zero, List.set_cons_succ])
      go_wp2_with (first | (refine wpList_blk_yes (t := 46) (T := 46) (by rfl) rfl rfl Tryd.underlying46 rfl (by kernel_rfl) hcd_9 ?_) | (refine wpList_blk_yes (t := 46) (T := 46) (by rfl) rfl rfl Tryd.underlying46 rfl (by kernel_rfl) hce_9 ?_) | (refine wpList_val_yes (o := ⟨some 28, _, _, _, _, _⟩) (.bool true) (by rfl) (exec_eql_ad (d := d) (e := g) hde rfl rfl rfl _) ?_) | (refine wpList_val_yes (o := ⟨some 41, _, _, _, _, _⟩) (.bool true) (by rfl) (exec_eql_ad (d := d) (e := g) hde rfl rfl rfl _) ?_))
      go_ret
      exact ⟨rfl, hK9⟩
  · have hsB : decide (adB d k = adB g m) = false := decide_eq_false fun h => hq (adB_inj d g k m hd he hk hm h).1
    have hsP : decide (adP d = adP g) = false := decide_eq_false fun h => hq (adP_inj d g hd he h)
    have hde : false = true ↔ d = g := by simp [hq]
    refine Lx.enter (fun w' => Blk w' w.heap.size 46 d.cs ∧ Blk w' (w.heap.size + 1) 46 g.cs ∧ w'.cell? ⟨w.heap.size + 2, 0, none⟩ = some (.int .u32 k) ∧ w'.cell? ⟨w.heap.size + 2, 1, none⟩ = some (.int .u32 m)) 10 (by kernel_rfl) (by kernel_rfl) ⟨hcd_1.drew, hce_1.drew, hcp_1, hcq_1⟩ ?_
    refine Lx.val 0 (.agg d.cs) rfl (by kernel_rfl) (by kernel_rfl) (by kernel_rfl) (fun _ _ _ h => h) (by kernel_rfl) (fun w hw => exec_load_row w rfl (by kernel_rfl) Tryd.underlying46 rfl (by kernel_rfl) hw.1) ?_; (try simp only [Act.put, List.getElem_toArray, List.getElem_cons_succ, List.getElem_cons_zero, List.setIfInBounds_toArray, List.set_cons_zero, List.set_cons_succ])
    (refine Lx.val 1 ?_ rfl (by kernel_rfl) (by kernel_rfl) (by kernel_rfl) (fun _ _ _ h => h) (by kernel_rfl) ?_ ?_; rotate_left 1; focus (intro w hw; go_simp; with_reducible rfl)); (try simp only [Act.put, List.getElem_toArray, List.getElem_cons_succ, List.getElem_cons_zero, List.setIfInBounds_toArray, List.set_cons_zero, List.set_cons_succ])
    (refine Lx.val 2 ?_ rfl (by kernel_rfl) (by kernel_rfl) (by kernel_rfl) (fun _ _ _ h => h) (by kernel_rfl) ?_ ?_; rotate_left 1; focus (intro w hw; have hcell := hw.2.2.1; go_simp; with_reducible rfl)); (try simp only [Act.put, List.getElem_toArray, List.getElem_cons_succ, List.getElem_cons_zero, List.setIfInBounds_toArray, List.set_cons_zero, List.set_cons_succ])
    refine Lx.val 4 (.agg g.cs) rfl (by kernel_rfl) (by kernel_rfl) (by kernel_rfl) (fun _ _ _ h => h) (by kernel_rfl) (fun w hw => exec_load_row w rfl (by kernel_rfl) Tryd.underlying46 rfl (by kernel_rfl) hw.2.1) ?_; (try simp only [Act.put, List.getElem_toArray, List.getElem_cons_succ, List.getElem_cons_zero, List.setIfInBounds_toArray, List.set_cons_zero, List.set_cons_succ])
    (refine Lx.val 5 ?_ rfl (by kernel_rfl) (by kernel_rfl) (by kernel_rfl) (fun _ _ _ h => h) (by kernel_rfl) ?_ ?_; rotate_left 1; focus (intro w hw; go_simp; with_reducible rfl)); (try simp only [Act.put, List.getElem_toArray, List.getElem_cons_succ, List.getElem_cons_zero, List.setIfInBounds_toArray, List.set_cons_zero, List.set_cons_succ])
    (refine Lx.val 6 ?_ rfl (by kernel_rfl) (by kernel_rfl) (by kernel_rfl) (fun _ _ _ h => h) (by kernel_rfl) ?_ ?_; rotate_left 1; focus (intro w hw; have hcell := hw.2.2.2; go_simp; with_reducible rfl)); (try simp only [Act.put, List.getElem_toArray, List.getElem_cons_succ, List.getElem_cons_zero, List.setIfInBounds_toArray, List.set_cons_zero, List.set_cons_succ])
    have hK2 := bdw hK1
    have hcd_2 := hcd_1.drew
    have hld_2 := (show _ < v1.drew.heap.size from hld_1)
    have hce_2 := hce_1.drew
    have hle_2 := (show _ < v1.drew.heap.size from hle_1)
    have hcp_2 := cdw hcp_1
    have hlp_2 := (show _ < v1.drew.heap.size from hlp_1)
    have hcq_2 := cdw hcq_1
    have hlq_2 := (show _ < v1.drew.heap.size from hlq_1)
    generalize v1.drew = v2 at hK2 hcd_2 hld_2 hce_2 hle_2 hcp_2 hlp_2 hcq_2 hlq_2 ⊢
    clear hK1 hcd_1 hld_1 hce_1 hle_1 hcp_1 hlp_1 hcq_1 hlq_1
    refine Lx.call 3 rfl (by kernel_rfl) (by kernel_rfl) (by kernel_rfl) (fun _ => (bytes_any d k v2 hd hk).mono ?_)
    rintro e v3 ⟨A3, c3, rfl, hF3, hb3⟩
    have hK3 := bnx hK2 hb3 hK2.size
    have hcd_3 := hcd_2.below hb3 hld_2
    have hld_3 := Nat.lt_of_lt_of_le hld_2 hb3.size
    have hce_3 := hce_2.below hb3 hle_2
    have hle_3 := Nat.lt_of_lt_of_le hle_2 hb3.size
    have hcp_3 := cell_bel hcp_2 hb3 hlp_2
    have hlp_3 := Nat.lt_of_lt_of_le hlp_2 hb3.size
    have hcq_3 := cell_bel hcq_2 hb3 hlq_2
    have hlq_3 := Nat.lt_of_lt_of_le hlq_2 hb3.size
    refine ⟨_, rfl, ⟨hcd_3, hce_3, hcp_3, hcq_3⟩, ?_⟩
    (try simp only [Act.put, List.getElem_toArray, List.getElem_cons_succ, List.getElem_cons_zero, List.setIfInBounds_toArray, List.set_cons_zero, List.set_cons_succ])
    have hRX := hF3.rd
    have hBX_3 := Below.refl v3.heap.size v3
    clear hK2 hcd_2 hld_2 hce_2 hle_2 hcp_2 hlp_2 hcq_2 hlq_2 hb3 hF3
    refine Lx.call 7 rfl (by kernel_rfl) (by kernel_rfl) (by kernel_rfl) (fun _ => (bytes_any g m v3 he hm).mono ?_)
    rintro e v4 ⟨A4, c4, rfl, hF4, hb4⟩
    have hK4 := bnx hK3 hb4 hK3.size
    have hBX_4 := bnx hBX_3 hb4 hBX_3.size
    have hcd_4 := hcd_3.below hb4 hld_3
    have hld_4 := Nat.lt_of_lt_of_le hld_3 hb4.size
    have hce_4 := hce_3.below hb4 hle_3
    have hle_4 := Nat.lt_of_lt_of_le hle_3 hb4.size
    have hcp_4 := cell_bel hcp_3 hb4 hlp_3
    have hlp_4 := Nat.lt_of_lt_of_le hlp_3 hb4.size
    have hcq_4 := cell_bel hcq_3 hb4 hlq_3
    have hlq_4 := Nat.lt_of_lt_of_le hlq_3 hb4.size
    refine ⟨_, rfl, ⟨hcd_4, hce_4, hcp_4, hcq_4⟩, ?_⟩
    (try simp only [Act.put, List.getElem_toArray, List.getElem_cons_succ, List.getElem_cons_zero, List.setIfInBounds_toArray, List.set_cons_zero, List.set_cons_succ])
    have hRZ := hF4.rd
    have hBZ_4 := Below.refl v4.heap.size v4
    clear hK3 hBX_3 hcd_3 hld_3 hce_3 hle_3 hcp_3 hlp_3 hcq_3 hlq_3 hb4 hF4
    refine Lx.call 8 rfl (by kernel_rfl) (by kernel_rfl) (by kernel_rfl) (fun _ => (same_to v4 A3 A4 (adB d k) (adB g m) 32 32 c3 c4 false (hRX.bel hBX_4) (hRZ.bel hBZ_4) (adB_len _ _) (adB_len _ _) (by decide) hsB).mono ?_)
    rintro e v5 ⟨rfl, hb5⟩
    have hK5 := bnx hK4 hb5 hK4.size
    have hBX_5 := bnx hBX_4 hb5 hBX_4.size
    have hBZ_5 := bnx hBZ_4 hb5 hBZ_4.size
    have hcd_5 := hcd_4.below hb5 hld_4
    have hld_5 := Nat.lt_of_lt_of_le hld_4 hb5.size
    have hce_5 := hce_4.below hb5 hle_4
    have hle_5 := Nat.lt_of_lt_of_le hle_4 hb5.size
    have hcp_5 := cell_bel hcp_4 hb5 hlp_4
    have hlp_5 := Nat.lt_of_lt_of_le hlp_4 hb5.size
    have hcq_5 := cell_bel hcq_4 hb5 hlq_4
    have hlq_5 := Nat.lt_of_lt_of_le hlq_4 hb5.size
    refine ⟨_, rfl, ⟨hcd_5, hce_5, hcp_5, hcq_5⟩, ?_⟩
    (try simp only [Act.put, List.getElem_toArray, List.getElem_cons_succ, List.getElem_cons_zero, List.setIfInBounds_toArray, List.set_cons_zero, List.set_cons_succ])
    clear hK4 hBX_4 hBZ_4 hcd_4 hld_4 hce_4 hle_4 hcp_4 hlp_4 hcq_4 hlq_4 hb5
    clear hRX hRZ hBX_5 hBZ_5
    (refine Lx.val 9 ?_ rfl (by kernel_rfl) (by kernel_rfl) (by kernel_rfl) (fun _ _ _ h => h) (by kernel_rfl) ?_ ?_; rotate_left 1; focus (intro w hw; go_simp; with_reducible rfl)); (try simp only [Act.put, List.getElem_toArray, List.getElem_cons_succ, List.getElem_cons_zero, List.setIfInBounds_toArray, List.set_cons_zero, List.set_cons_succ])
    refine Lx.done (by kernel_rfl) ?_
    intro _
    go_upto_region 4 with fail
    refine Lx.enter (fun w' => Blk w' w.heap.size 46 d.cs ∧ Blk w' (w.heap.size + 1) 46 g.cs ∧ w'.cell? ⟨w.heap.size + 2, 0, none⟩ = some (.int .u32 k) ∧ w'.cell? ⟨w.heap.size + 2, 1, none⟩ = some (.int .u32 m)) 6 (by kernel_rfl) (by kernel_rfl) ⟨hcd_5.drew, hce_5.drew, hcp_5, hcq_5⟩ ?_
    refine Lx.val 0 (.agg d.cs) rfl (by kernel_rfl) (by kernel_rfl) (by kernel_rfl) (fun _ _ _ h => h) (by kernel_rfl) (fun w hw => exec_load_row w rfl (by kernel_rfl) Tryd.underlying46 rfl (by kernel_rfl) hw.1) ?_; (try simp only [Act.put, List.getElem_toArray, List.getElem_cons_succ, List.getElem_cons_zero, List.setIfInBounds_toArray, List.set_cons_zero, List.set_cons_succ])
    refine Lx.val 2 (.agg g.cs) rfl (by kernel_rfl) (by kernel_rfl) (by kernel_rfl) (fun _ _ _ h => h) (by kernel_rfl) (fun w hw => exec_load_row w rfl (by kernel_rfl) Tryd.underlying46 rfl (by kernel_rfl) hw.2.1) ?_; (try simp only [Act.put, List.getElem_toArray, List.getElem_cons_succ, List.getElem_cons_zero, List.setIfInBounds_toArray, List.set_cons_zero, List.set_cons_succ])
    have hK6 := bdw hK5
    have hcd_6 := hcd_5.drew
    have hld_6 := (show _ < v5.drew.heap.size from hld_5)
    have hce_6 := hce_5.drew
    have hle_6 := (show _ < v5.drew.heap.size from hle_5)
    have hcp_6 := cdw hcp_5
    have hlp_6 := (show _ < v5.drew.heap.size from hlp_5)
    have hcq_6 := cdw hcq_5
    have hlq_6 := (show _ < v5.drew.heap.size from hlq_5)
    generalize v5.drew = v6 at hK6 hcd_6 hld_6 hce_6 hle_6 hcp_6 hlp_6 hcq_6 hlq_6 ⊢
    clear hK5 hcd_5 hld_5 hce_5 hle_5 hcp_5 hlp_5 hcq_5 hlq_5
    refine Lx.call 1 rfl (by kernel_rfl) (by kernel_rfl) (by kernel_rfl) (fun _ => (plain_any d v6 hd).mono ?_)
    rintro e v7 ⟨A7, c7, rfl, hF7, hb7⟩
    have hK7 := bnx hK6 hb7 hK6.size
    have hcd_7 := hcd_6.below hb7 hld_6
    have hld_7 := Nat.lt_of_lt_of_le hld_6 hb7.size
    have hce_7 := hce_6.below hb7 hle_6
    have hle_7 := Nat.lt_of_lt_of_le hle_6 hb7.size
    have hcp_7 := cell_bel hcp_6 hb7 hlp_6
    have hlp_7 := Nat.lt_of_lt_of_le hlp_6 hb7.size
    have hcq_7 := cell_bel hcq_6 hb7 hlq_6
    have hlq_7 := Nat.lt_of_lt_of_le hlq_6 hb7.size
    refine ⟨_, rfl, ⟨hcd_7, hce_7, hcp_7, hcq_7⟩, ?_⟩
    (try simp only [Act.put, List.getElem_toArray, List.getElem_cons_succ, List.getElem_cons_zero, List.setIfInBounds_toArray, List.set_cons_zero, List.set_cons_succ])
    have hRX := hF7.rd
    have hBX_7 := Below.refl v7.heap.size v7
    clear hK6 hcd_6 hld_6 hce_6 hle_6 hcp_6 hlp_6 hcq_6 hlq_6 hb7 hF7
    refine Lx.call 3 rfl (by kernel_rfl) (by kernel_rfl) (by kernel_rfl) (fun _ => (plain_any g v7 he).mono ?_)
    rintro e v8 ⟨A8, c8, rfl, hF8, hb8⟩
    have hK8 := bnx hK7 hb8 hK7.size
    have hBX_8 := bnx hBX_7 hb8 hBX_7.size
    have hcd_8 := hcd_7.below hb8 hld_7
    have hld_8 := Nat.lt_of_lt_of_le hld_7 hb8.size
    have hce_8 := hce_7.below hb8 hle_7
    have hle_8 := Nat.lt_of_lt_of_le hle_7 hb8.size
    have hcp_8 := cell_bel hcp_7 hb8 hlp_7
    have hlp_8 := Nat.lt_of_lt_of_le hlp_7 hb8.size
    have hcq_8 := cell_bel hcq_7 hb8 hlq_7
    have hlq_8 := Nat.lt_of_lt_of_le hlq_7 hb8.size
    refine ⟨_, rfl, ⟨hcd_8, hce_8, hcp_8, hcq_8⟩, ?_⟩
    (try simp only [Act.put, List.getElem_toArray, List.getElem_cons_succ, List.getElem_cons_zero, List.setIfInBounds_toArray, List.set_cons_zero, List.set_cons_succ])
    have hRZ := hF8.rd
    have hBZ_8 := Below.refl v8.heap.size v8
    clear hK7 hBX_7 hcd_7 hld_7 hce_7 hle_7 hcp_7 hlp_7 hcq_7 hlq_7 hb8 hF8
    refine Lx.call 4 rfl (by kernel_rfl) (by kernel_rfl) (by kernel_rfl) (fun _ => (same_to v8 A7 A8 (adP d) (adP g) 32 32 c7 c8 false (hRX.bel hBX_8) (hRZ.bel hBZ_8) (adP_len _) (adP_len _) (by decide) hsP).mono ?_)
    rintro e v9 ⟨rfl, hb9⟩
    have hK9 := bnx hK8 hb9 hK8.size
    have hBX_9 := bnx hBX_8 hb9 hBX_8.size
    have hBZ_9 := bnx hBZ_8 hb9 hBZ_8.size
    have hcd_9 := hcd_8.below hb9 hld_8
    have hld_9 := Nat.lt_of_lt_of_le hld_8 hb9.size
    have hce_9 := hce_8.below hb9 hle_8
    have hle_9 := Nat.lt_of_lt_of_le hle_8 hb9.size
    have hcp_9 := cell_bel hcp_8 hb9 hlp_8
    have hlp_9 := Nat.lt_of_lt_of_le hlp_8 hb9.size
    have hcq_9 := cell_bel hcq_8 hb9 hlq_8
    have hlq_9 := Nat.lt_of_lt_of_le hlq_8 hb9.size
    refine ⟨_, rfl, ⟨hcd_9, hce_9, hcp_9, hcq_9⟩, ?_⟩
    (try simp only [Act.put, List.getElem_toArray, List.getElem_cons_succ, List.getElem_cons_zero, List.setIfInBounds_toArray, List.set_cons_zero, List.set_cons_succ])
    clear hK8 hBX_8 hBZ_8 hcd_8 hld_8 hce_8 hle_8 hcp_8 hlp_8 hcq_8 hlq_8 hb9
    clear hRX hRZ hBX_9 hBZ_9
    (refine Lx.val 5 ?_ rfl (by kernel_rfl) (by kernel_rfl) (by kernel_rfl) (fun _ _ _ h => h) (by kernel_rfl) ?_ ?_; rotate_left 1; focus (intro w hw; go_simp; with_reducible rfl)); (try simp only [Act.put, List.getElem_toArray, List.getElem_cons_succ, List.getElem_cons_zero, List.setIfInBounds_toArray, List.set_cons_zero, List.set_cons_succ])
    refine Lx.done (by kernel_rfl) ?_
    intro _
    (try simp only [Act.put, List.getElem_toArray, List.getElem_cons_succ, List.getElem_cons_zero, List.setIfInBounds_toArray, List.set_cons_zero, List.set_cons_succ])
    go_wp2_with (first | (refine wpList_blk_yes (t := 46) (T := 46) (by rfl) rfl rfl Tryd.underlying46 rfl (by kernel_rfl) hcd_9 ?_) | (refine wpList_blk_yes (t := 46) (T := 46) (by rfl) rfl rfl Tryd.underlying46 rfl (by kernel_rfl) hce_9 ?_) | (refine wpList_val_yes (o := ⟨some 28, _, _, _, _, _⟩) (.bool false) (by rfl) (exec_eql_ad (d := d) (e := g) hde rfl rfl rfl _) ?_) | (refine wpList_val_yes (o := ⟨some 41, _, _, _, _, _⟩) (.bool false) (by rfl) (exec_eql_ad (d := d) (e := g) hde rfl rfl rfl _) ?_))
    go_ret
    exact ⟨rfl, hK9⟩
end Go.Proofs.YtfaonieaagepjaaDoor
