/- SetsCodes, walked. Conditions: the tables stand as they were laid; the code is one of 32 bits. -/
import Derived.Test.YtigedohalangbaaDoorS8L
namespace Go.Proofs.YtigedohalangbaaDoor
open Go.RowKit
set_option linter.unusedVariables false
set_option linter.unusedSimpArgs false

def inL (L : List Int) (c : Int) : Nat → Bool
  | 0 => false
  | i + 1 => inL L c i || (gt L i == c)
theorem inL_iff (L : List Int) (c : Int) : ∀ n, inL L c n = true ↔ ∃ i, i < n ∧ gt L i = c
  | 0 => by simp [inL]
  | n + 1 => by
    rw [inL, Bool.or_eq_true, inL_iff L c n, beq_iff_eq]
    constructor
    · rintro (⟨i, h, e⟩ | e)
      · exact ⟨i, by omega, e⟩
      · exact ⟨n, by omega, e⟩
    · rintro ⟨i, h, e⟩
      rcases Nat.lt_or_ge i n with h2 | h2
      · exact .inl ⟨i, h2, e⟩
      · obtain rfl : i = n := by omega
        exact .inr e
theorem otsL_ok : ∀ i, i < 16 → gt otsL i = (i : Int) + 1 ∧ oE ((i : Int) + 1) = 0 ∧ o0 ((i : Int) + 1) = (i : Int) + 1 ∧ o4 ((i : Int) + 1) ≤ 265 := by decide +kernel
theorem treeL_up : ∀ i, i < 36 → t0 (gt treeL i) = gt treeL i ∧ lvN (t3 (gt treeL i)) ≠ 0 ∧ (0 < i → gt treeL (i - 1) < gt treeL i) := by decide +kernel
theorem otsL_ok2 : ∀ i, i < 16 → (0 ≤ gt otsL i ∧ gt otsL i < 4294967296) := by decide +kernel
theorem add_block (ad : Addr) (i j : Nat) : (ad.add i).block = (ad.add j).block := by
  unfold Addr.add; split <;> split <;> rfl
theorem otsL_up3 : ∀ i, i < 16 → oE (gt otsL i) = 0 ∧ o0 (gt otsL i) = gt otsL i ∧ o4 (gt otsL i) ≤ 265 := by decide +kernel
theorem otsL_up : ∀ i, i < 16 → 0 < i → gt otsL (i - 1) < gt otsL i := by decide +kernel
theorem treeL_up3 : ∀ i, i < 36 → tE (gt treeL i) = 0 ∧ t0 (gt treeL i) = gt treeL i ∧ lvN (t3 (gt treeL i)) ≠ 0 := by decide +kernel
theorem treeL_up2 : ∀ i, i < 36 → 0 < i → gt treeL (i - 1) < gt treeL i := by decide +kernel
theorem inO_end (c : Int) : (oE c == 0) = inL otsL c 16 := by
  rw [Bool.eq_iff_iff, inL_iff, beq_iff_eq]
  unfold oE
  constructor
  · intro h
    split at h
    · rename_i h2
      unfold oIn at h2
      exact ⟨(c - 1).toNat, by omega, by rw [(otsL_ok _ (by omega)).1]; omega⟩
    · cases h
  · rintro ⟨i, h, e⟩
    rw [(otsL_ok i h).1] at e
    rw [if_pos (by unfold oIn; omega)]
theorem treeL_gt (i : Nat) (h : i < 36) : gt treeL i = if i < 20 then 5 + (i : Int) else 4026531841 + ((i - 20 : Nat) : Int) := by
  unfold treeL
  split
  · rw [gt_append_left _ _ _ (by rw [rowL_len]; omega), gt_rowL _ _ _ (by omega)]
  · rw [gt_append_right _ _ _ (by rw [rowL_len]; omega), rowL_len, gt_rowL _ _ _ (by omega)]
theorem inT_end (c : Int) : (tE c == 0) = inL treeL c 36 := by
  rw [Bool.eq_iff_iff, inL_iff, beq_iff_eq]
  unfold tE
  constructor
  · intro h
    split at h
    · rename_i h2
      unfold tStd at h2
      exact ⟨(c - 5).toNat, by omega, by rw [treeL_gt _ (by omega), if_pos (by omega)]; omega⟩
    · split at h
      · rename_i h2
        unfold tOwn at h2
        exact ⟨(c - 4026531841).toNat + 20, by omega, by rw [treeL_gt _ (by omega), if_neg (by omega)]; omega⟩
      · cases h
  · rintro ⟨i, h, e⟩
    rw [treeL_gt i h] at e
    split at e
    · rw [if_pos (by unfold tStd; omega)]
    · rw [if_neg (by unfold tStd; omega), if_pos (by unfold tOwn; omega)]
set_option maxRecDepth 100000 in
set_option maxHeartbeats 4000000 in
theorem codes8_walk (code : Int) (w : World) (B : Nat) (hT : STab w B) (hB : B ≤ w.heap.size) (hc : 0 ≤ code ∧ code < 4294967296) :
    Calls Tryd.prog 4 #[.int .u32 code] w fun e w' => e = .returned (.bool true) ∧ Below w.heap.size w w' := by
  have hOr := fun (i : Nat) (hi : i < 16) v (hk : Below w.heap.size w v) => ots_any (gt otsL i) v B (hT.below (hk.mono hB)) (Nat.le_trans hB hk.size) (otsL_ok2 i hi)
  have hTr := fun (i : Nat) (hi : i < 36) v (hk : Below w.heap.size w v) => tree_any (gt treeL i) v B (hT.below (hk.mono hB)) (Nat.le_trans hB hk.size) (treeL_ok i hi).2
  have hOc := fun v (hk : Below w.heap.size w v) => ots_any code v B (hT.below (hk.mono hB)) (Nat.le_trans hB hk.size) hc
  have hTc := fun v (hk : Below w.heap.size w v) => tree_any code v B (hT.below (hk.mono hB)) (Nat.le_trans hB hk.size) hc
  have hCa := awake8_any w B hT hB
  have hfit1 := inO_end code
  have hfit2 := inT_end code
  unfold OPost at hOr hOc
  unfold TPost at hTr hTc
  generalize o0 code = z0 at hOc
  generalize o1 code = z1 at hOc
  generalize o2 code = z2 at hOc
  generalize o3 code = z3 at hOc
  generalize o4 code = z4 at hOc
  generalize o5 code = z5 at hOc
  generalize oE code = eo at hOc hfit1
  generalize t0 code = s0 at hTc
  generalize t1 code = s1 at hTc
  generalize t2 code = s2 at hTc
  generalize t3 code = s3 at hTc
  generalize tE code = et at hTc hfit2
  have HF1 := Lib.hid hfit1
  have HF2 := Lib.hid hfit2
  clear hfit1 hfit2
  go_enter Tryd.func4, Tryd.ntmps4
  go_wp2_with fail
  refine hCa.mono ?_
  rintro e v0 ⟨rfl, hK⟩
  clear hCa
  go_wp2_with fail
  refine (otscodes_any v0).mono ?_
  rintro e v2 ⟨A, ca, rfl, hl, hOw, hb⟩
  have hR := hOw.rd
  have hK := hK.trans (hb.mono hK.size)
  clear hb hOw
  have HL := Lib.hid hl
  clear hl
  go_wp2_with fail
  go_loopg [4, 5] 16 (fun g sa sb wr => ∃ i : Nat, sb = .int .i64 i ∧ g = 16 - i ∧ i ≤ 16 ∧ sa = .bool (inL otsL code i) ∧ Below v2.heap.size v2 wr)
  case atStart => exact ⟨0, rfl, rfl, Nat.zero_le _, rfl, Below.refl _ _⟩
  case round =>
    obtain ⟨i, rfl, hg, hi, rfl, hK2⟩ := hrel
    have HG := Lib.hid hg
    clear hg
    have hKw := hK.trans (hK2.mono hK.size)
    obtain ⟨n, hn⟩ : ∃ n, inL otsL code i = n := ⟨_, rfl⟩
    rw [hn]
    by_cases hlt : i < 16
    · have hltI : (i : Int) < 16 := by omega
      have hT2 := hOr i hlt wr hKw
      have hup := otsL_up3 i hlt
      obtain ⟨ad, rfl, hadB, hcell⟩ := hR.at_ (i := i) (by rw [HL.out]; exact hlt)
      have hcell := (World.cell?_of_block (hK2.block _ (World.block_lt_of_cell? _ _ hcell))).trans hcell
      have hcb := World.block_lt_of_cell? _ _ hcell
      have hsuc : inL otsL code (i + 1) = (n || (gt otsL i == code)) := by rw [inL, hn]
      have hprev : ∀ m, i = m + 1 → wr.cell? (ad.add m) = some (.int .u32 (gt otsL m)) ∧ gt otsL m < gt otsL i := fun m hm => by
        obtain ⟨ad', e, _, hc'⟩ := hR.at_ (i := m) (by rw [HL.out]; omega)
        injection e with e
        subst e
        have hc' := (World.cell?_of_block (hK2.block _ (World.block_lt_of_cell? _ _ hc'))).trans hc'
        refine ⟨hc', ?_⟩
        have := otsL_up i hlt (by omega)
        rwa [show i - 1 = m by omega] at this
      obtain ⟨hEq, h0q, h4q⟩ := hup
      rw [hEq, h0q] at hT2
      generalize o1 (gt otsL i) = x1 at hT2
      generalize o2 (gt otsL i) = x2 at hT2
      generalize o3 (gt otsL i) = x3 at hT2
      generalize o4 (gt otsL i) = x4 at hT2 h4q
      generalize o5 (gt otsL i) = x5 at hT2
      generalize gt otsL i = d at hT2 hcell hsuc hprev
      have HS := Lib.hid hsuc
      have HN := Lib.hid hn
      have HP := Lib.hid hprev
      have H4 := Lib.hid h4q
      clear hsuc hn hprev hTr hOr hOc hTc hEq h0q h4q
      go_wp2_with fail
      refine hT2.mono ?_
      rintro e v3 ⟨rfl, hb⟩
      clear hT2
      have hcell := (World.cell?_of_block (hb.block _ hcb)).trans hcell
      have hK3 := hK2.trans (hb.mono hK2.size)
      obtain ⟨u, hu⟩ : ∃ u, v3.alloc (.cells #[.int .u32 d, .int .i64 x1, .int .i64 x2, .int .i64 x3, .int .i64 x4, .int .i64 x5] 24) = u := ⟨_, rfl⟩
      have hbu : Below v3.heap.size v3 u := by rw [← hu]; exact (Below.refl _ v3).alloc (Nat.le_refl _) _
      have r1 : u.heap[v3.heap.size]? = some (.cells #[.int .u32 d, .int .i64 x1, .int .i64 x2, .int .i64 x3, .int .i64 x4, .int .i64 x5] 24) := by rw [← hu]; exact heap_alloc_new v3 _
      have hcell := (World.cell?_of_block (hbu.block _ (World.block_lt_of_cell? _ _ hcell))).trans hcell
      have hKu := hK3.trans (hbu.mono hK3.size)
      have hcu := World.block_lt_of_cell? _ _ hcell
      have hbw := hb.trans (hbu.mono hb.size)
      have HP2 : ∀ m, i = m + 1 → u.cell? (ad.add m) = some (.int .u32 (gt otsL m)) ∧ gt otsL m < d := fun m hm => ⟨(World.cell?_of_block (hbw.block _ (by rw [add_block ad m i]; exact hcb))).trans (HP.out m hm).1, (HP.out m hm).2⟩
      obtain ⟨p, hp⟩ : ∃ p, v3.heap.size = p := ⟨_, rfl⟩
      rw [hp] at r1
      have l1 := (Array.getElem?_eq_some_iff.1 r1).1
      have HU := Lib.hid (And.intro hu hp)
      have HP3 := Lib.hid HP2
      clear HP hb hbu hbw HP2
      go_wp2_with fail
      clear hu hp
      rcases Nat.eq_zero_or_pos i with hz | hz
      · refine wp_region_hold (fun w' => Below u.heap.size u w') (by kernel_rfl) (by kernel_rfl) (below_dr (Below.refl _ _)) ?_
        refine Hd.val (.int .i64 0) (by kernel_rfl) (fun w => by kernel_rfl) ?_
        refine Hd.val (.bool false) (by kernel_rfl) (fun w => by kernel_rfl) ?_
        refine Hd.val (.bool false) (by kernel_rfl) (fun w => by kernel_rfl) ?_
        refine Hd.val (.pointer (some ⟨p, 0, none⟩)) (by kernel_rfl) (fun w => by kernel_rfl) ?_
        refine Hd.cell (.int .u32 d) (⟨p, 0, none⟩) (by kernel_rfl) rfl (by kernel_rfl) Tryd.underlying22 rfl (fun w hw => by have := (hw.block _ l1).trans r1; simp [World.cell?, this]) ?_
        refine Hd.val (.slice (some ad) 16 ca) (by kernel_rfl) (fun w => by kernel_rfl) ?_
        refine Hd.val (.int .i64 (i : Nat)) (by kernel_rfl) (fun w => by kernel_rfl) ?_
        refine Hd.val (.pointer (some (ad.add i))) (by kernel_rfl) (fun w => exec_index (k := .i64) (n := 16) (c := ca) (ad := ad) (i) w rfl (by kernel_rfl) (by kernel_rfl) (by kernel_rfl) (by kernel_rfl) (by omega)) ?_
        refine Hd.cell (.int .u32 d) ((ad.add i)) (by kernel_rfl) rfl (by kernel_rfl) Tryd.underlying22 rfl (fun w hw => (World.cell?_of_block (hw.block _ hcu)).trans hcell) ?_
        refine Hd.val (.bool false) (by kernel_rfl) (fun w => Eq.trans (b := .ok (.value (.bool (d != d))) w) (by kernel_rfl) (okB (by simp))) ?_
        refine Hd.val (.bool false) (by kernel_rfl) (fun w => by kernel_rfl) ?_
        refine Hd.val (.bool false) (by kernel_rfl) (fun w => by kernel_rfl) ?_
        refine Hd.val (.pointer (some ⟨p, 4, none⟩)) (by kernel_rfl) (fun w => by kernel_rfl) ?_
        refine Hd.cell (.int .i64 x4) (⟨p, 4, none⟩) (by kernel_rfl) rfl (by kernel_rfl) Tryd.underlying3 rfl (fun w hw => by have := (hw.block _ l1).trans r1; simp [World.cell?, this]) ?_
        refine Hd.val (.bool false) (by kernel_rfl) (fun w => Eq.trans (b := .ok (.value (.bool (decide (x4 > 265)))) w) (by kernel_rfl) (okB (by have := H4.out; simp; omega))) ?_
        refine Hd.val (.bool false) (by kernel_rfl) (fun w => by kernel_rfl) ?_
        refine Hd.val (.bool false) (by kernel_rfl) (fun w => by kernel_rfl) ?_
        refine Hd.val (.int .i64 (i : Nat)) (by kernel_rfl) (fun w => by kernel_rfl) ?_
        refine Hd.val (.bool false) (by kernel_rfl) (fun w => Eq.trans (b := .ok (.value (.bool (decide ((i : Int) > 0)))) w) (by kernel_rfl) (okB (by simp; omega))) ?_
        refine Hd.val (.bool false) (by kernel_rfl) (fun w => by kernel_rfl) ?_
        refine Hd.no (by kernel_rfl) ?_
        refine Hd.no (by kernel_rfl) ?_
        refine Hd.no (by kernel_rfl) ?_
        refine Hd.no (by kernel_rfl) ?_
        refine Hd.no (by kernel_rfl) ?_
        refine Hd.no (by kernel_rfl) ?_
        refine Hd.no (by kernel_rfl) ?_
        refine Hd.no (by kernel_rfl) ?_
        refine Hd.no (by kernel_rfl) ?_
        refine Hd.no (by kernel_rfl) ?_
        refine Hd.val (.bool false) (by kernel_rfl) (fun w => by kernel_rfl) ?_
        refine Hd.val (.bool false) (by kernel_rfl) (fun w => by kernel_rfl) ?_
        refine wpHold_nil ?_
        simp only [Act.put, List.setIfInBounds_toArray, List.set_cons_zero, List.set_cons_succ]
        intro w5 hw5
        have hK5 := hKu.trans (hw5.mono hKu.size)
        have hcell5 := (World.cell?_of_block (hw5.block _ hcu)).trans hcell
        clear hw5 hKu hcell hcu r1 l1 HU HP3 hK3 hcb hKw hK2 hK hz
        rcases hbb : (d == code) with _ | _
        all_goals
          have hbs := HS.out
          rw [hbb] at hbs
          have HBS := Lib.hid hbs
          clear hbs
          rcases n with _ | _
          all_goals
            go_wp2_with fail
            go_roundg (16 - (i + 1))
            case measure => have := HG.out; omega
            case rel => exact ⟨i + 1, by go_num, rfl, by omega, by rw [HBS.out]; rfl, hK5⟩
      · obtain ⟨m, hm⟩ : ∃ m, i = m + 1 := ⟨i - 1, by omega⟩
        obtain ⟨hcm, hdm⟩ := HP3.out m hm
        generalize gt otsL m = dm at hcm hdm
        refine wp_region_hold (fun w' => Below u.heap.size u w') (by kernel_rfl) (by kernel_rfl) (below_dr (Below.refl _ _)) ?_
        refine Hd.val (.int .i64 0) (by kernel_rfl) (fun w => by kernel_rfl) ?_
        refine Hd.val (.bool false) (by kernel_rfl) (fun w => by kernel_rfl) ?_
        refine Hd.val (.bool false) (by kernel_rfl) (fun w => by kernel_rfl) ?_
        refine Hd.val (.pointer (some ⟨p, 0, none⟩)) (by kernel_rfl) (fun w => by kernel_rfl) ?_
        refine Hd.cell (.int .u32 d) (⟨p, 0, none⟩) (by kernel_rfl) rfl (by kernel_rfl) Tryd.underlying22 rfl (fun w hw => by have := (hw.block _ l1).trans r1; simp [World.cell?, this]) ?_
        refine Hd.val (.slice (some ad) 16 ca) (by kernel_rfl) (fun w => by kernel_rfl) ?_
        refine Hd.val (.int .i64 (i : Nat)) (by kernel_rfl) (fun w => by kernel_rfl) ?_
        refine Hd.val (.pointer (some (ad.add i))) (by kernel_rfl) (fun w => exec_index (k := .i64) (n := 16) (c := ca) (ad := ad) (i) w rfl (by kernel_rfl) (by kernel_rfl) (by kernel_rfl) (by kernel_rfl) (by omega)) ?_
        refine Hd.cell (.int .u32 d) ((ad.add i)) (by kernel_rfl) rfl (by kernel_rfl) Tryd.underlying22 rfl (fun w hw => (World.cell?_of_block (hw.block _ hcu)).trans hcell) ?_
        refine Hd.val (.bool false) (by kernel_rfl) (fun w => Eq.trans (b := .ok (.value (.bool (d != d))) w) (by kernel_rfl) (okB (by simp))) ?_
        refine Hd.val (.bool false) (by kernel_rfl) (fun w => by kernel_rfl) ?_
        refine Hd.val (.bool false) (by kernel_rfl) (fun w => by kernel_rfl) ?_
        refine Hd.val (.pointer (some ⟨p, 4, none⟩)) (by kernel_rfl) (fun w => by kernel_rfl) ?_
        refine Hd.cell (.int .i64 x4) (⟨p, 4, none⟩) (by kernel_rfl) rfl (by kernel_rfl) Tryd.underlying3 rfl (fun w hw => by have := (hw.block _ l1).trans r1; simp [World.cell?, this]) ?_
        refine Hd.val (.bool false) (by kernel_rfl) (fun w => Eq.trans (b := .ok (.value (.bool (decide (x4 > 265)))) w) (by kernel_rfl) (okB (by have := H4.out; simp; omega))) ?_
        refine Hd.val (.bool false) (by kernel_rfl) (fun w => by kernel_rfl) ?_
        refine Hd.val (.bool false) (by kernel_rfl) (fun w => by kernel_rfl) ?_
        refine Hd.val (.int .i64 (i : Nat)) (by kernel_rfl) (fun w => by kernel_rfl) ?_
        refine Hd.val (.bool true) (by kernel_rfl) (fun w => Eq.trans (b := .ok (.value (.bool (decide ((i : Int) > 0)))) w) (by kernel_rfl) (okB (by simp; omega))) ?_
        refine Hd.val (.bool true) (by kernel_rfl) (fun w => by kernel_rfl) ?_
        refine Hd.val (.slice (some ad) 16 ca) (by kernel_rfl) (fun w => by kernel_rfl) ?_
        refine Hd.val (.int .i64 (i : Nat)) (by kernel_rfl) (fun w => by kernel_rfl) ?_
        refine Hd.val (.pointer (some (ad.add i))) (by kernel_rfl) (fun w => exec_index (k := .i64) (n := 16) (c := ca) (ad := ad) (i) w rfl (by kernel_rfl) (by kernel_rfl) (by kernel_rfl) (by kernel_rfl) (by omega)) ?_
        refine Hd.cell (.int .u32 d) ((ad.add i)) (by kernel_rfl) rfl (by kernel_rfl) Tryd.underlying22 rfl (fun w hw => (World.cell?_of_block (hw.block _ hcu)).trans hcell) ?_
        refine Hd.val (.slice (some ad) 16 ca) (by kernel_rfl) (fun w => by kernel_rfl) ?_
        refine Hd.val (.int .i64 (i : Nat)) (by kernel_rfl) (fun w => by kernel_rfl) ?_
        refine Hd.val (.int .i64 ((m : Nat))) (by kernel_rfl) (fun w => Eq.trans (b := .ok (.value (.int .i64 (IntKind.i64.wrap ((i : Int) - 1)))) w) (by kernel_rfl) (okI (by rw [IntWalk.i64_in _ (by omega)]; omega))) ?_
        refine Hd.val (.pointer (some (ad.add m))) (by kernel_rfl) (fun w => exec_index (k := .i64) (n := 16) (c := ca) (ad := ad) (m) w rfl (by kernel_rfl) (by kernel_rfl) (by kernel_rfl) (by kernel_rfl) (by omega)) ?_
        refine Hd.cell (.int .u32 dm) ((ad.add m)) (by kernel_rfl) rfl (by kernel_rfl) Tryd.underlying22 rfl (fun w hw => (World.cell?_of_block (hw.block _ (by rw [add_block ad m i]; exact hcu))).trans hcm) ?_
        refine Hd.val (.bool false) (by kernel_rfl) (fun w => Eq.trans (b := .ok (.value (.bool (decide (d ≤ dm)))) w) (by kernel_rfl) (okB (by simp; omega))) ?_
        refine Hd.val (.bool false) (by kernel_rfl) (fun w => by kernel_rfl) ?_
        refine Hd.val (.bool false) (by kernel_rfl) (fun w => by kernel_rfl) ?_
        refine wpHold_nil ?_
        simp only [Act.put, List.setIfInBounds_toArray, List.set_cons_zero, List.set_cons_succ]
        intro w5 hw5
        have hK5 := hKu.trans (hw5.mono hKu.size)
        have hcell5 := (World.cell?_of_block (hw5.block _ hcu)).trans hcell
        clear hw5 hKu hcell hcu r1 l1 HU HP3 hK3 hcb hKw hK2 hK hcm hdm hz hm
        rcases hbb : (d == code) with _ | _
        all_goals
          have hbs := HS.out
          rw [hbb] at hbs
          have HBS := Lib.hid hbs
          clear hbs
          rcases n with _ | _
          all_goals
            go_wp2_with fail
            go_roundg (16 - (i + 1))
            case measure => have := HG.out; omega
            case rel => exact ⟨i + 1, by go_num, rfl, by omega, by rw [HBS.out]; rfl, hK5⟩
    · have hltI : ¬ (i : Int) < 16 := by omega
      obtain rfl : i = 16 := by omega
      have HNO := Lib.hid hn
      clear hR HL hn hOr
      have hK := hKw
      clear hKw hK2
      go_wp2_with fail
      refine (treecodes_any wr).mono ?_
      rintro e v4 ⟨A, ca, rfl, hl, hOw, hb⟩
      have hR := hOw.rd
      have hK := hK.trans (hb.mono hK.size)
      clear hb hOw HG
      have HL := Lib.hid hl
      clear hl
      obtain ⟨no, hno⟩ : ∃ no, n = no := ⟨_, rfl⟩
      rw [hno] at HNO ⊢
      clear hno n
      go_wp2_with fail
      go_loopg [9, 10] 36 (fun g sa sb wr => ∃ i : Nat, sb = .int .i64 i ∧ g = 36 - i ∧ i ≤ 36 ∧ sa = .bool (inL treeL code i) ∧ Below v4.heap.size v4 wr)
      case atStart => exact ⟨0, rfl, rfl, Nat.zero_le _, rfl, Below.refl _ _⟩
      case round =>
        obtain ⟨i, rfl, hg, hi, rfl, hK2⟩ := hrel
        have HG := Lib.hid hg
        clear hg
        have hKw := hK.trans (hK2.mono hK.size)
        obtain ⟨n, hn⟩ : ∃ n, inL treeL code i = n := ⟨_, rfl⟩
        rw [hn]
        by_cases hlt : i < 36
        · have hltI : (i : Int) < 36 := by omega
          have hT2 := hTr i hlt wr hKw
          have hup := treeL_up3 i hlt
          obtain ⟨ad, rfl, hadB, hcell⟩ := hR.at_ (i := i) (by rw [HL.out]; exact hlt)
          have hcell := (World.cell?_of_block (hK2.block _ (World.block_lt_of_cell? _ _ hcell))).trans hcell
          have hcb := World.block_lt_of_cell? _ _ hcell
          have hsuc : inL treeL code (i + 1) = (n || (gt treeL i == code)) := by rw [inL, hn]
          have hprev : ∀ m, i = m + 1 → wr.cell? (ad.add m) = some (.int .u32 (gt treeL m)) ∧ gt treeL m < gt treeL i := fun m hm => by
            obtain ⟨ad', e, _, hc'⟩ := hR.at_ (i := m) (by rw [HL.out]; omega)
            injection e with e
            subst e
            have hc' := (World.cell?_of_block (hK2.block _ (World.block_lt_of_cell? _ _ hc'))).trans hc'
            refine ⟨hc', ?_⟩
            have := treeL_up2 i hlt (by omega)
            rwa [show i - 1 = m by omega] at this
          obtain ⟨hEq, h0q, h4q⟩ := hup
          rw [hEq, h0q] at hT2
          generalize t1 (gt treeL i) = x1 at hT2
          generalize t2 (gt treeL i) = x2 at hT2
          generalize t3 (gt treeL i) = x3 at hT2 h4q
          generalize gt treeL i = d at hT2 hcell hsuc hprev
          have HS := Lib.hid hsuc
          have HN := Lib.hid hn
          have HP := Lib.hid hprev
          have H4 := Lib.hid h4q
          clear hsuc hn hprev hTr hOc hTc hEq h0q h4q
          go_wp2_with fail
          refine hT2.mono ?_
          rintro e v3 ⟨rfl, hb⟩
          clear hT2
          have hcell := (World.cell?_of_block (hb.block _ hcb)).trans hcell
          have hK3 := hK2.trans (hb.mono hK2.size)
          obtain ⟨u, hu⟩ : ∃ u, v3.alloc (.cells #[.int .u32 d, .int .i64 x1, .int .i64 x2, .int .i64 x3] 26) = u := ⟨_, rfl⟩
          have hbu : Below v3.heap.size v3 u := by rw [← hu]; exact (Below.refl _ v3).alloc (Nat.le_refl _) _
          have r1 : u.heap[v3.heap.size]? = some (.cells #[.int .u32 d, .int .i64 x1, .int .i64 x2, .int .i64 x3] 26) := by rw [← hu]; exact heap_alloc_new v3 _
          have hcell := (World.cell?_of_block (hbu.block _ (World.block_lt_of_cell? _ _ hcell))).trans hcell
          have hKu := hK3.trans (hbu.mono hK3.size)
          have hcu := World.block_lt_of_cell? _ _ hcell
          have hbw := hb.trans (hbu.mono hb.size)
          have HP2 : ∀ m, i = m + 1 → u.cell? (ad.add m) = some (.int .u32 (gt treeL m)) ∧ gt treeL m < d := fun m hm => ⟨(World.cell?_of_block (hbw.block _ (by rw [add_block ad m i]; exact hcb))).trans (HP.out m hm).1, (HP.out m hm).2⟩
          obtain ⟨p, hp⟩ : ∃ p, v3.heap.size = p := ⟨_, rfl⟩
          rw [hp] at r1
          have l1 := (Array.getElem?_eq_some_iff.1 r1).1
          have HU := Lib.hid (And.intro hu hp)
          have HP3 := Lib.hid HP2
          clear HP hb hbu hbw HP2
          go_wp2_with fail
          clear hu hp
          obtain ⟨lv, hlv⟩ : ∃ lv, lvN x3 = lv := ⟨_, rfl⟩
          have hlv0 := H4.out
          rw [hlv] at hlv0
          clear H4
          have H4 := Lib.hid hlv0
          clear hlv0
          rcases Nat.eq_zero_or_pos i with hz | hz
          · refine wp_region_hold (fun w' => Below u.heap.size u w') (by kernel_rfl) (by kernel_rfl) (below_dr (Below.refl _ _)) ?_
            refine Hd.val (.int .i64 0) (by kernel_rfl) (fun w => by kernel_rfl) ?_
            refine Hd.val (.bool false) (by kernel_rfl) (fun w => by kernel_rfl) ?_
            refine Hd.val (.bool false) (by kernel_rfl) (fun w => by kernel_rfl) ?_
            refine Hd.val (.pointer (some ⟨p, 0, none⟩)) (by kernel_rfl) (fun w => by kernel_rfl) ?_
            refine Hd.cell (.int .u32 d) (⟨p, 0, none⟩) (by kernel_rfl) rfl (by kernel_rfl) Tryd.underlying22 rfl (fun w hw => by have := (hw.block _ l1).trans r1; simp [World.cell?, this]) ?_
            refine Hd.val (.slice (some ad) 36 ca) (by kernel_rfl) (fun w => by kernel_rfl) ?_
            refine Hd.val (.int .i64 (i : Nat)) (by kernel_rfl) (fun w => by kernel_rfl) ?_
            refine Hd.val (.pointer (some (ad.add i))) (by kernel_rfl) (fun w => exec_index (k := .i64) (n := 36) (c := ca) (ad := ad) (i) w rfl (by kernel_rfl) (by kernel_rfl) (by kernel_rfl) (by kernel_rfl) (by omega)) ?_
            refine Hd.cell (.int .u32 d) ((ad.add i)) (by kernel_rfl) rfl (by kernel_rfl) Tryd.underlying22 rfl (fun w hw => (World.cell?_of_block (hw.block _ hcu)).trans hcell) ?_
            refine Hd.val (.bool false) (by kernel_rfl) (fun w => Eq.trans (b := .ok (.value (.bool (d != d))) w) (by kernel_rfl) (okB (by simp))) ?_
            refine Hd.val (.bool false) (by kernel_rfl) (fun w => by kernel_rfl) ?_
            refine Hd.val (.bool false) (by kernel_rfl) (fun w => by kernel_rfl) ?_
            refine Hd.row (#[.int .u32 d, .int .i64 x1, .int .i64 x2, .int .i64 x3]) (p) (by kernel_rfl) rfl (by kernel_rfl) Tryd.underlying26 rfl (by kernel_rfl) (fun w hw => (hw.block _ l1).trans r1) ?_
            refine Hd.call (f := 14) (args := #[.agg #[.int .u32 d, .int .i64 x1, .int .i64 x2, .int .i64 x3]]) (.int .u64 lv) (by kernel_rfl) (fun w => by kernel_rfl) (fun w hw => (leaves_any d x1 x2 x3 lv w hlv).mono fun e w' h => ⟨h.1, hw.trans (h.2.mono hw.size)⟩) ?_
            refine Hd.val (.bool false) (by kernel_rfl) (fun w => Eq.trans (b := .ok (.value (.bool (lv == 0))) w) (by kernel_rfl) (okB (by simpa using H4.out))) ?_
            refine Hd.val (.bool false) (by kernel_rfl) (fun w => by kernel_rfl) ?_
            refine Hd.val (.bool false) (by kernel_rfl) (fun w => by kernel_rfl) ?_
            refine Hd.val (.int .i64 (i : Nat)) (by kernel_rfl) (fun w => by kernel_rfl) ?_
            refine Hd.val (.bool false) (by kernel_rfl) (fun w => Eq.trans (b := .ok (.value (.bool (decide ((i : Int) > 0)))) w) (by kernel_rfl) (okB (by simp; omega))) ?_
            refine Hd.val (.bool false) (by kernel_rfl) (fun w => by kernel_rfl) ?_
            refine Hd.no (by kernel_rfl) ?_
            refine Hd.no (by kernel_rfl) ?_
            refine Hd.no (by kernel_rfl) ?_
            refine Hd.no (by kernel_rfl) ?_
            refine Hd.no (by kernel_rfl) ?_
            refine Hd.no (by kernel_rfl) ?_
            refine Hd.no (by kernel_rfl) ?_
            refine Hd.no (by kernel_rfl) ?_
            refine Hd.no (by kernel_rfl) ?_
            refine Hd.no (by kernel_rfl) ?_
            refine Hd.val (.bool false) (by kernel_rfl) (fun w => by kernel_rfl) ?_
            refine Hd.val (.bool false) (by kernel_rfl) (fun w => by kernel_rfl) ?_
            refine wpHold_nil ?_
            simp only [Act.put, List.setIfInBounds_toArray, List.set_cons_zero, List.set_cons_succ]
            intro w5 hw5
            have hK5 := hKu.trans (hw5.mono hKu.size)
            have hcell5 := (World.cell?_of_block (hw5.block _ hcu)).trans hcell
            clear hw5 hKu hcell hcu r1 l1 HU HP3 hK3 hcb hKw hK2 hK hz
            rcases hbb : (d == code) with _ | _
            all_goals
              have hbs := HS.out
              rw [hbb] at hbs
              have HBS := Lib.hid hbs
              clear hbs
              rcases n with _ | _
              all_goals
                go_wp2_with fail
                go_roundg (36 - (i + 1))
                case measure => have := HG.out; omega
                case rel => exact ⟨i + 1, by go_num, rfl, by omega, by rw [HBS.out]; rfl, hK5⟩
          · obtain ⟨m, hm⟩ : ∃ m, i = m + 1 := ⟨i - 1, by omega⟩
            obtain ⟨hcm, hdm⟩ := HP3.out m hm
            generalize gt treeL m = dm at hcm hdm
            refine wp_region_hold (fun w' => Below u.heap.size u w') (by kernel_rfl) (by kernel_rfl) (below_dr (Below.refl _ _)) ?_
            refine Hd.val (.int .i64 0) (by kernel_rfl) (fun w => by kernel_rfl) ?_
            refine Hd.val (.bool false) (by kernel_rfl) (fun w => by kernel_rfl) ?_
            refine Hd.val (.bool false) (by kernel_rfl) (fun w => by kernel_rfl) ?_
            refine Hd.val (.pointer (some ⟨p, 0, none⟩)) (by kernel_rfl) (fun w => by kernel_rfl) ?_
            refine Hd.cell (.int .u32 d) (⟨p, 0, none⟩) (by kernel_rfl) rfl (by kernel_rfl) Tryd.underlying22 rfl (fun w hw => by have := (hw.block _ l1).trans r1; simp [World.cell?, this]) ?_
            refine Hd.val (.slice (some ad) 36 ca) (by kernel_rfl) (fun w => by kernel_rfl) ?_
            refine Hd.val (.int .i64 (i : Nat)) (by kernel_rfl) (fun w => by kernel_rfl) ?_
            refine Hd.val (.pointer (some (ad.add i))) (by kernel_rfl) (fun w => exec_index (k := .i64) (n := 36) (c := ca) (ad := ad) (i) w rfl (by kernel_rfl) (by kernel_rfl) (by kernel_rfl) (by kernel_rfl) (by omega)) ?_
            refine Hd.cell (.int .u32 d) ((ad.add i)) (by kernel_rfl) rfl (by kernel_rfl) Tryd.underlying22 rfl (fun w hw => (World.cell?_of_block (hw.block _ hcu)).trans hcell) ?_
            refine Hd.val (.bool false) (by kernel_rfl) (fun w => Eq.trans (b := .ok (.value (.bool (d != d))) w) (by kernel_rfl) (okB (by simp))) ?_
            refine Hd.val (.bool false) (by kernel_rfl) (fun w => by kernel_rfl) ?_
            refine Hd.val (.bool false) (by kernel_rfl) (fun w => by kernel_rfl) ?_
            refine Hd.row (#[.int .u32 d, .int .i64 x1, .int .i64 x2, .int .i64 x3]) (p) (by kernel_rfl) rfl (by kernel_rfl) Tryd.underlying26 rfl (by kernel_rfl) (fun w hw => (hw.block _ l1).trans r1) ?_
            refine Hd.call (f := 14) (args := #[.agg #[.int .u32 d, .int .i64 x1, .int .i64 x2, .int .i64 x3]]) (.int .u64 lv) (by kernel_rfl) (fun w => by kernel_rfl) (fun w hw => (leaves_any d x1 x2 x3 lv w hlv).mono fun e w' h => ⟨h.1, hw.trans (h.2.mono hw.size)⟩) ?_
            refine Hd.val (.bool false) (by kernel_rfl) (fun w => Eq.trans (b := .ok (.value (.bool (lv == 0))) w) (by kernel_rfl) (okB (by simpa using H4.out))) ?_
            refine Hd.val (.bool false) (by kernel_rfl) (fun w => by kernel_rfl) ?_
            refine Hd.val (.bool false) (by kernel_rfl) (fun w => by kernel_rfl) ?_
            refine Hd.val (.int .i64 (i : Nat)) (by kernel_rfl) (fun w => by kernel_rfl) ?_
            refine Hd.val (.bool true) (by kernel_rfl) (fun w => Eq.trans (b := .ok (.value (.bool (decide ((i : Int) > 0)))) w) (by kernel_rfl) (okB (by simp; omega))) ?_
            refine Hd.val (.bool true) (by kernel_rfl) (fun w => by kernel_rfl) ?_
            refine Hd.val (.slice (some ad) 36 ca) (by kernel_rfl) (fun w => by kernel_rfl) ?_
            refine Hd.val (.int .i64 (i : Nat)) (by kernel_rfl) (fun w => by kernel_rfl) ?_
            refine Hd.val (.pointer (some (ad.add i))) (by kernel_rfl) (fun w => exec_index (k := .i64) (n := 36) (c := ca) (ad := ad) (i) w rfl (by kernel_rfl) (by kernel_rfl) (by kernel_rfl) (by kernel_rfl) (by omega)) ?_
            refine Hd.cell (.int .u32 d) ((ad.add i)) (by kernel_rfl) rfl (by kernel_rfl) Tryd.underlying22 rfl (fun w hw => (World.cell?_of_block (hw.block _ hcu)).trans hcell) ?_
            refine Hd.val (.slice (some ad) 36 ca) (by kernel_rfl) (fun w => by kernel_rfl) ?_
            refine Hd.val (.int .i64 (i : Nat)) (by kernel_rfl) (fun w => by kernel_rfl) ?_
            refine Hd.val (.int .i64 ((m : Nat))) (by kernel_rfl) (fun w => Eq.trans (b := .ok (.value (.int .i64 (IntKind.i64.wrap ((i : Int) - 1)))) w) (by kernel_rfl) (okI (by rw [IntWalk.i64_in _ (by omega)]; omega))) ?_
            refine Hd.val (.pointer (some (ad.add m))) (by kernel_rfl) (fun w => exec_index (k := .i64) (n := 36) (c := ca) (ad := ad) (m) w rfl (by kernel_rfl) (by kernel_rfl) (by kernel_rfl) (by kernel_rfl) (by omega)) ?_
            refine Hd.cell (.int .u32 dm) ((ad.add m)) (by kernel_rfl) rfl (by kernel_rfl) Tryd.underlying22 rfl (fun w hw => (World.cell?_of_block (hw.block _ (by rw [add_block ad m i]; exact hcu))).trans hcm) ?_
            refine Hd.val (.bool false) (by kernel_rfl) (fun w => Eq.trans (b := .ok (.value (.bool (decide (d ≤ dm)))) w) (by kernel_rfl) (okB (by simp; omega))) ?_
            refine Hd.val (.bool false) (by kernel_rfl) (fun w => by kernel_rfl) ?_
            refine Hd.val (.bool false) (by kernel_rfl) (fun w => by kernel_rfl) ?_
            refine wpHold_nil ?_
            simp only [Act.put, List.setIfInBounds_toArray, List.set_cons_zero, List.set_cons_succ]
            intro w5 hw5
            have hK5 := hKu.trans (hw5.mono hKu.size)
            have hcell5 := (World.cell?_of_block (hw5.block _ hcu)).trans hcell
            clear hw5 hKu hcell hcu r1 l1 HU HP3 hK3 hcb hKw hK2 hK hcm hdm hz hm
            rcases hbb : (d == code) with _ | _
            all_goals
              have hbs := HS.out
              rw [hbb] at hbs
              have HBS := Lib.hid hbs
              clear hbs
              rcases n with _ | _
              all_goals
                go_wp2_with fail
                go_roundg (36 - (i + 1))
                case measure => have := HG.out; omega
                case rel => exact ⟨i + 1, by go_num, rfl, by omega, by rw [HBS.out]; rfl, hK5⟩
        · have hltI : ¬ (i : Int) < 36 := by omega
          obtain rfl : i = 36 := by omega
          clear hTr
          go_wp2_with fail
          refine (hOc _ hKw).mono ?_
          rintro e v5 ⟨rfl, hb⟩
          have hK5 := hKw.trans (hb.mono hKw.size)
          clear hb hOc
          go_wp2_with fail
          refine (hTc _ (hK5.alloc hK5.size _)).mono ?_
          rintro e v6 ⟨rfl, hb⟩
          have hK6 := (hK5.alloc hK5.size (.cells #[.int .u32 z0, .int .i64 z1, .int .i64 z2, .int .i64 z3, .int .i64 z4, .int .i64 z5] 24)).trans (hb.mono (by have := hK5.size; simp; omega))
          clear hb hTc
          have e1 : (eo == 0) = no := HF1.out.trans HNO.out
          have e2 : (et == 0) = n := HF2.out.trans hn
          clear hn
          rcases no with _ | _
          all_goals
            rcases n with _ | _
            all_goals
              go_wp2_with fail
              go_ret
              exact ⟨rfl, hK6.alloc hK6.size _⟩
end Go.Proofs.YtigedohalangbaaDoor
