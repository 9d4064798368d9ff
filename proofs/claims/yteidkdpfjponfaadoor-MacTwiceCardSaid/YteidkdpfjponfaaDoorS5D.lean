/- sha5.Parts, sha5.One, walked. Conditions: the parts read as bytes, at most 100000000 in all; the tables. -/
import Derived.Test.YteidkdpfjponfaaDoorS5B
import Derived.Test.YteidkdpfjponfaaDoorS5C
import Derived.Deep.RegionWith
import Derived.Test.YteidkdpfjponfaaDoorZA
import Derived.Deep.MidRow
namespace Go.Proofs.YteidkdpfjponfaaDoor
open Go.RowKit
set_option linter.unusedVariables false
set_option linter.unusedSimpArgs false

theorem pads1 {wm wp : World} {N n c c2 : Nat} {A A2 AZ : Option Addr} {l p : List Int} (h : Rd wm wm.heap.size .u8 A l) (hz : Rd wm wm.heap.size .u8 AZ (zrs N)) (hn : l.length = n) (hc : n ≤ c)
    (hO : Own wp wm.heap.size 5 .u8 (.slice A2 8 c2) p) (hb : Below wm.heap.size wm wp) :
    Parts (wp.alloc (.cells #[.slice A n c, .slice AZ N N, .slice A2 8 c2] 22)) (wp.heap.size + 1) (some ⟨wp.heap.size, 0, none⟩) [l, zrs N, p] := by
  have hs := hb.size
  have hp8 := hO.len
  refine parts3 (B := wp.heap.size) (Nat.le_refl _) ?_ ?_ ?_
  · exact ((h.below hb).more hs).part hn hc
  · exact ((hz.below hb).more hs).part (zrs_len N) (Nat.le_refl _)
  · exact hO.rd.part (n := 8) (c := c2) hp8.1.symm (by omega)
theorem pads2 {w wp : World} {N n c c2 : Nat} {A A2 : Option Addr} {l p : List Int} (h : Rd w w.heap.size .u8 A l) (hn : l.length = n) (hc : n ≤ c)
    (hO : Own wp w.heap.size 5 .u8 (.slice A2 8 c2) p) (hb : Below w.heap.size w wp) :
    Parts ((wp.alloc (.cells (U .u8 (zrs N)) 5)).alloc (.cells #[.slice A n c, .slice (some ⟨wp.heap.size, 0, none⟩) N N, .slice A2 8 c2] 22)) (wp.heap.size + 1 + 1) (some ⟨wp.heap.size + 1, 0, none⟩) [l, zrs N, p] := by
  have hs := hb.size
  have hz : Rd (wp.alloc (.cells (U .u8 (zrs N)) 5)) (wp.heap.size + 1) .u8 (some ⟨wp.heap.size, 0, none⟩) (zrs N) := Rd.of_arr (Arr.new wp 5 .u8 (zrs N)) (by omega)
  have hp8 := hO.len
  have hsz : (wp.alloc (.cells (U .u8 (zrs N)) 5)).heap.size = wp.heap.size + 1 := by simp
  have := parts3 (w := wp.alloc (.cells (U .u8 (zrs N)) 5)) (B := wp.heap.size + 1) (T := 22) (by omega)
    ((((h.below hb).alloc (by omega) (.cells (U .u8 (zrs N)) 5)).more (by omega)).part hn hc) (hz.part (zrs_len N) (Nat.le_refl _)) (((hO.alloc (.cells (U .u8 (zrs N)) 5)).rd.more (by omega)).part (n := 8) (c := c2) hp8.1.symm (by omega))
  rwa [hsz] at this

theorem chain1 {w wm wp wz : World} {B : Nat} {o : Obj} (h : Kept B (fun _ => False) w wm) (hB : B ≤ wm.heap.size) (hb : Below wm.heap.size wm wp) (hz : Below (wp.alloc o).heap.size (wp.alloc o) wz) : Kept B (fun _ => False) w wz ∧ wm.heap.size ≤ wp.heap.size ∧ wp.heap.size ≤ (wp.alloc o).heap.size := by
  have hs := hb.size
  have hs2 : (wp.alloc o).heap.size = wp.heap.size + 1 := by simp
  exact ⟨((h.trans (S' := fun _ => False) (Kept.of_below hb) hB (fun _ _ h => h)).alloc o (by omega)).trans (S' := fun _ => False) (Kept.of_below hz) (by omega) (fun _ _ h => h), hs, by omega⟩
theorem chain2 {w wm wp wz : World} {B : Nat} {o o' : Obj} (h : Kept B (fun _ => False) w wm) (hB : B ≤ wm.heap.size) (hb : Below wm.heap.size wm wp) (hz : Below ((wp.alloc o).alloc o').heap.size ((wp.alloc o).alloc o') wz) : Kept B (fun _ => False) w wz ∧ wm.heap.size ≤ wp.heap.size ∧ wp.heap.size ≤ ((wp.alloc o).alloc o').heap.size := by
  have hs := hb.size
  have hs2 : ((wp.alloc o).alloc o').heap.size = wp.heap.size + 2 := by simp
  exact ⟨(((h.trans (S' := fun _ => False) (Kept.of_below hb) hB (fun _ _ h => h)).alloc o (by omega)).alloc o' (by simp; omega)).trans (S' := fun _ => False) (Kept.of_below hz) (by omega) (fun _ _ h => h), hs, by omega⟩
def PartPost (w : World) (L : List Int) (e : Ending) (w' : World) : Prop :=
  ∃ A c, e = .returned (.slice A 64 c) ∧ Frs w' w.heap.size A c (sum5 L) ∧ Below w.heap.size w w'
/-- The text with its end. -/
def TX (w0 : World) (B : Nat) (T : List Int) (v : Value) (w : World) : Prop := ∃ A c, v = .slice A T.length c ∧ Frs w B A c T ∧ Kept B (fun _ => False) w0 w
theorem Frs.empty (w : World) (b : Nat) : Frs w b none 0 [] := ⟨Nat.le_refl _, Nat.zero_le _, fun _ => rfl, fun h => absurd h (by simp)⟩
def BL (w0 : World) (D : Nat) (T : List Int) (gk : Nat) (v : Value) (w : World) : Prop :=
  ∃ i : Nat, v = .int .i64 ((128 * i : Nat) : Int) ∧ 128 * i ≤ T.length ∧ gk = T.length / 128 - i ∧ Arr w D 75 .u64 (tS T i) ∧ Kept D (fun _ => False) w0 w
def OL (w0 : World) (B : Nat) (s : List Int) (gk : Nat) (v x : Value) (w : World) : Prop :=
  ∃ (j : Nat) (A : Option Addr) (c : Nat), v = .slice A (8 * j) c ∧ x = .int .i64 j ∧ j ≤ 8 ∧ gk = 8 - j ∧ Frs w B A c (outS s j) ∧ Kept B (fun _ => False) w0 w
theorem Tab.range {w : World} {g : Nat} {k : IntKind} {l : List Int} (h : Tab w g k l) : w.rangeAt g 0 (nums k l) := fun j v hj => by
  have hl : j < l.length := by have := (List.getElem?_eq_some_iff.1 hj).1; rwa [nums_len] at this
  rw [Nat.zero_add, h j hl, ← hj, nums_get k l j hl]
theorem wpList_load_tab {P : Program} {ops : Array Oper} {rest : List Oper} {o : Oper} {a : Act} {w : World} {Q : Exit → Act → World → Prop} {g : Nat} {k : IntKind} {s : List Int} {d : TypeDesc} (hgd : o.guard = none) (ty : TypeId) (x : Operand) (ho : o.op = .load ty x) (hx : a.eval x = .pointer (some ⟨g, 0, none⟩)) (h : Tab w g k s)
    (hu : P.underlying ty = some d) (hd : d.isRow = true) (n : Nat) (hi : (P.info? ty).map (·.size) = some n) (hn : s.length = n)
    (hk : wpList P ops Q rest (a.put o.dst (.agg (U k s))) w) : wpList P ops Q (o :: rest) a w :=
  wpList_load_mid hgd ty x ho g 0 hx (nums k s) d h.range hu hd (by rw [nums_len, hn]; exact hi) hk
set_option maxRecDepth 100000 in
set_option maxHeartbeats 4000000 in
theorem parts_any (w : World) (A : Option Addr) (c BB n : Nat) (ls : List (List Int)) (L : List Int) (hL : ls.flatten = L) (hp : Parts w BB A ls) (hn : ls.length = n) (hBB : BB ≤ w.heap.size) (hc : n ≤ c) (hn47 : n ≤ 140737488355328) (hl : L.length ≤ 100000000) (hby : Bys L)
    (ht : S5Tab w) (hz : 3 < w.heap.size) (hz1 : 2 < w.heap.size) :
    Calls Tryd.prog 46 #[.slice A n c] w (PartPost w L) := by
  obtain ⟨B, hB⟩ : ∃ B, w.heap.size = B := ⟨_, rfl⟩
  have HB := Lib.hid hB
  rw [hB] at hz hz1 hBB
  have hBw : B ≤ w.heap.size := by omega
  clear hB
  go_enter Tryd.func46, Tryd.ntmps46
  go_wp2_with fail
  (with_reducible refine (cat_any w A c BB n ls L hL hp hn (by omega) hc hn47 (by omega)).mono ?_)
  rintro e w1 ⟨A1, c1, rfl, hF1, hb1⟩
  have hK1 : Kept B (fun _ => False) w w1 := by have := Kept.of_below (S := fun _ => False) hb1; rwa [HB.out] at this
  have hs1 := hb1.size
  rw [HB.out] at hF1
  obtain ⟨n0, hn0⟩ : ∃ n0, L.length = n0 := ⟨_, rfl⟩
  have hn8 : IntKind.u64.wrap ((n0 : Int) * 8) = ((8 * n0 : Nat) : Int) := by rw [IntKind.wrap_u64]; omega
  have hR1 := hF1.rd
  have hc1 := hF1.cap
  rw [hn0] at hc1 ⊢
  have HN0 := Lib.hid hn0
  clear hL hp hb1 hF1
  go_wp2_with fail
  have hP2 := parts2 (w := w1.alloc (.cells (U .u8 [128]) 5)) (B := w1.heap.size + 1) (T := 22) (by simp) (((hR1.alloc (Nat.le_refl _) (.cells (U .u8 [128]) 5)).more (Nat.le_succ _)).part hn0 hc1) ((Rd.of_arr (Arr.new w1 5 .u8 [128]) (Nat.lt_succ_self _)).part (n := 1) (c := 1) rfl (Nat.le_refl _))
  have hK2 := (hK1.alloc (.cells (U .u8 [128]) 5) (by omega)).alloc (.cells #[.slice A1 n0 c1, .slice (some ⟨w1.heap.size, 0, none⟩) 1 1] 22) (by simp; omega)
  rw [show (w1.alloc (.cells (U .u8 [128]) 5)).heap.size = w1.heap.size + 1 by simp] at hP2
  have hs2 : ((w1.alloc (.cells (U .u8 [128]) 5)).alloc (.cells #[.slice A1 n0 c1, .slice (some ⟨w1.heap.size, 0, none⟩) 1 1] 22)).heap.size = w1.heap.size + 2 := by simp
  change Calls _ _ _ ((w1.alloc (.cells (U .u8 [128]) 5)).alloc (.cells #[.slice A1 n0 c1, .slice (some ⟨w1.heap.size, 0, none⟩) 1 1] 22)) _
  generalize (w1.alloc (.cells (U .u8 [128]) 5)).alloc (.cells #[.slice A1 n0 c1, .slice (some ⟨w1.heap.size, 0, none⟩) 1 1] 22) = w2 at hP2 hK2 hs2 ⊢
  (with_reducible refine (cat_any w2 _ 2 (w1.heap.size + 1 + 1) 2 [L, [128]] (L ++ [128]) (by simp) hP2 rfl (by omega) (by omega) (by omega) (by simp; omega)).mono ?_)
  rintro e w3 ⟨A3, c3, rfl, hF3, hb3⟩
  have hs3 := hb3.size
  have hK3 := hK2.trans (S' := fun _ => False) (Kept.of_below hb3) (by omega) (fun _ _ h => h)
  have hF3' := hF3.low (b' := B) (by omega)
  have hl3 : (L ++ [128]).length = n0 + 1 := by simp [hn0]
  obtain ⟨L1, hL1⟩ : ∃ L1, L ++ [128] = L1 := ⟨_, rfl⟩
  rw [hL1] at hF3' hl3 ⊢
  have hR3 := hF3'.rd
  have hc3 := hF3'.cap
  rw [hl3] at hc3 ⊢
  have HL1 := Lib.hid hL1
  have HL3 := Lib.hid hl3
  clear hR1 hK1 hP2 hK2 hF3 hb3 hL1
  obtain ⟨z5, hz5⟩ : ∃ z, zn5 n0 = z := ⟨_, rfl⟩
  obtain ⟨r, hr⟩ : ∃ r : Nat, ((n0 : Int) + 1 + 16) % 128 = (r : Int) := ⟨(n0 + 1 + 16) % 128, by omega⟩
  obtain ⟨pd, hpd⟩ : ∃ p : Nat, 128 - (r : Int) = (p : Int) := ⟨128 - r, by omega⟩
  have hz5' : z5 = pd % 128 + 8 := by rw [← hz5]; unfold zn5; omega
  have HZ5 := Lib.hid hz5
  clear hz5
  go_upto_region 5 with fail
  obtain ⟨m, hm⟩ : ∃ m : Nat, pd % 128 = m := ⟨_, rfl⟩
  have f1 : (pd : Int).tmod 128 = (m : Int) := by rw [Int.tmod_eq_emod_of_nonneg (by omega)]; omega
  have f2 : IntKind.i64.wrap ((m : Int) + 16) = ((m + 16 : Nat) : Int) := by rw [IntWalk.i64_in _ (by omega)]; omega
  have f2' : ((m + 16 : Nat) : Int) = (m : Int) + 16 := by omega
  have f3 : IntKind.i64.wrap ((m : Int) + 16 - 8) = (z5 : Int) := by rw [IntWalk.i64_in _ (by omega)]; omega
  rw [f2'] at f2
  have hmk : ∀ wx, (Instr.makeSlice 22 (.int .i64 (z5 : Int)) (.int .i64 (z5 : Int))).run Tryd.prog wx = .ok (.slice (some ⟨wx.heap.size, 0, none⟩) z5 z5) (wx.alloc (.cells (U .u8 (zrs z5)) 5)) := fun wx => run_make_nums wx 22 5 .u8 1 Tryd.underlying22 inf_u8 .i64 .i64 z5 z5 (Nat.le_refl _) (by omega) (by omega)
  have f3n : IntKind.i64.wrap (IntKind.i64.wrap ((m : Int) + 16) - 8) = (z5 : Int) := by rw [f2, f3]
  have hTd : Rd ((w3.alloc (.cells (U .u8 (zrs z5)) 5)).drew) ((w3.alloc (.cells (U .u8 (zrs z5)) 5)).drew).heap.size .u8 A3 L1 := ((hR3.alloc (Nat.le_refl _) (.cells (U .u8 (zrs z5)) 5)).more (by simp)).drew
  have hZd : Rd ((w3.alloc (.cells (U .u8 (zrs z5)) 5)).drew) ((w3.alloc (.cells (U .u8 (zrs z5)) 5)).drew).heap.size .u8 (some ⟨w3.heap.size, 0, none⟩) (zrs z5) := (Rd.of_arr (Arr.new w3 5 .u8 (zrs z5)) (by simp)).drew
  have hKd : Kept B (fun _ => False) w ((w3.alloc (.cells (U .u8 (zrs z5)) 5)).drew) := (hK3.alloc _ (by omega)).drew
  have HTD := Lib.hid hTd
  have HZD := Lib.hid hZd
  have HKD := Lib.hid hKd
  have HR3 := Lib.hid hR3
  have HK3 := Lib.hid hK3
  have hT0 : ([L1, zrs z5, putL (8 * (n0 : Int)) 8] : List (List Int)).flatten = text5 L := by
    have e : ((8 * L.length : Nat) : Int) = 8 * (n0 : Int) := by rw [HN0.out]; push_cast; rfl
    simp [text5, ← HL1.out, HN0.out, HZ5.out]
  obtain ⟨T, hT⟩ : ∃ T, text5 L = T := ⟨_, rfl⟩
  rw [hT] at hT0
  have hTl : T.length ≤ 200000000 := by rw [← hT, text5_len]; unfold zn5; omega
  have HTL := Lib.hid hTl
  have HT0 := Lib.hid hT0
  have HT := Lib.hid hT
  clear hm hTd hZd hKd hT0 hT hR3 hK3 hTl f2' HZ5 hz5' hF3' f2 f3
  go_cut [3] (fun v wx => TX w B T v wx)
  case first =>
    go_region_with (first | (go_at_call 40; refine (put_any _ 8 8 _ rfl (by decide)).mono ?_; rintro e wp ⟨Ap, cp, rfl, hOp, hbp⟩) | (go_at_call 39; first | (refine (cat_any _ _ 3 _ 3 [L1, zrs z5, putL (8 * (n0 : Int)) 8] T HT0.out (pads1 HTD.out HZD.out HL3.out hc3 hOp hbp) rfl (by simp) (Nat.le_refl _) (by omega) (by have := HTL.out; omega)).mono ?_; rintro e wz ⟨Az, cz, rfl, hFz, hbz⟩) | (refine (cat_any _ _ 3 _ 3 [L1, zrs z5, putL (8 * (n0 : Int)) 8] T HT0.out (pads2 HR3.out.drew HL3.out hc3 hOp hbp) rfl (by simp) (Nat.le_refl _) (by omega) (by have := HTL.out; omega)).mono ?_; rintro e wz ⟨Az, cz, rfl, hFz, hbz⟩)))
    all_goals go_wp2_with fail
    all_goals go_meet
    all_goals first
      | (have hX := chain1 HKD.out (by simp; omega) hbp hbz; exact ⟨Az, cz, rfl, hFz.low (by have := hX.2; simp at this ⊢; omega), hX.1⟩)
      | (have hX := chain2 HK3.out.drew (by simp; omega) hbp hbz; exact ⟨Az, cz, rfl, hFz.low (by have := hX.2; simp at this ⊢; omega), hX.1⟩)
  case rest =>
    obtain ⟨Az, cz, rfl, hFz, hK⟩ := hcut
    have hTm : T.length % 128 = 0 := by rw [← HT.out]; exact text5_mod L
    have hTB : Bys T := by rw [← HT.out]; exact text5_B hby
    clear hmk f3n
    have hfc := ht.2.kept hK hz1 (fun h => h)
    have hS0 := Arr.new wc 75 .u64 (List.replicate 8 0)
    go_wp2_with (first | (refine wpList_load_tab (o := ⟨some 36, _, _, _, _, _⟩) rfl 75 _ rfl rfl hfc Tryd.underlying75 rfl 8 inf_a8 f5_len ?_) | (refine wpList_store_arr (o := ⟨none, _, _, _, _, _⟩) rfl 75 _ _ rfl rfl rfl hS0 8 inf_a8 f5_len rfl ?_))
    obtain ⟨D, hD⟩ : ∃ D, wc.heap.size = D := ⟨_, rfl⟩
    have hRz := hFz.rd
    have hcz := hFz.cap
    have hS7 := hS0.setRow f5L
    have hK7 := (hK.alloc (.cells (U .u64 (List.replicate 8 0)) 75) (by have := hK.size; omega)).setRow wc.heap.size (U .u64 f5L) (.inl (by have := hK.size; omega))
    have hR7 := hRz.keep (w' := (wc.alloc (.cells (U .u64 (List.replicate 8 0)) 75)).setRow wc.heap.size (U .u64 f5L)) (fun p hp => World.cell?_of_block (by rw [setRow_other _ _ _ _ (by omega)]; exact Below.heap_alloc wc _ p.block hp))
    have hBD : B ≤ D := by have := hK.size; omega
    change Code.wp _ _ _ _ ((wc.alloc (.cells (U .u64 (List.replicate 8 0)) 75)).setRow wc.heap.size (U .u64 f5L))
    rw [hD] at hS7 hK7 hR7 ⊢
    generalize (wc.alloc (.cells (U .u64 (List.replicate 8 0)) 75)).setRow D (U .u64 f5L) = w7 at hS7 hK7 hR7 ⊢
    have HTM := Lib.hid hTm
    have HTB := Lib.hid hTB
    clear hTm hTB hfc hS0 hRz hFz hK hD
    go_loopg [7] (T.length / 128) (fun gk v wr => BL w7 D T gk v wr)
    case atStart => exact ⟨0, rfl, by omega, rfl, hS7, Kept.refl _ _ _⟩
    case round =>
      clear hS7
      obtain ⟨wq, rfl⟩ : ∃ wq : World, wq = wr := ⟨_, rfl⟩
      obtain ⟨i, rfl, hi, hgk, hS, hKq⟩ := hrel
      obtain ⟨at_, hat⟩ : ∃ a, 128 * i = a := ⟨_, rfl⟩
      obtain ⟨si, hsi⟩ : ∃ s, tS T i = s := ⟨_, rfl⟩
      have hsl8 : si.length = 8 := by rw [← hsi, tS_len]
      have hsw8 : Ws si := hsi ▸ tS_W T i
      rw [hat] at hi ⊢
      rw [hsi] at hS
      have hRq := hR7.kept hKq (Nat.le_refl _) (fun _ _ h => h)
      have hKw := hK7.trans (S' := fun _ => False) hKq hBD (fun _ _ h => h)
      have HGK := Lib.hid hgk
      have HAT := Lib.hid hat
      have HSI := Lib.hid hsi
      clear hgk hat hsi
      by_cases hlt : at_ < T.length
      · have hltI : (at_ : Int) < (T.length : Int) := by omega
        have hfit : at_ + 128 ≤ T.length := by have := HTM.out; have := HAT.out; omega
        obtain ⟨a2, ha2⟩ : ∃ a, at_ + 128 = a := ⟨_, rfl⟩
        have ha2w : IntKind.i64.wrap ((at_ : Int) + 128) = (a2 : Int) := by rw [IntWalk.i64_in _ (by have := HTL.out; omega)]; omega
        have e1 : a2 - at_ = 128 := by omega
        have hsl := fun wx => run_slice_ab (P := Tryd.prog) 22 5 Tryd.underlying22 (by kernel_rfl) Az T.length cz at_ a2 (by omega) (by omega) .i64 .i64 wx
        obtain ⟨A2, hA2⟩ : ∃ A2, (if cz = at_ then Az else Az.map (·.add at_)) = A2 := ⟨_, rfl⟩
        obtain ⟨c2, hc2⟩ : ∃ c2, cz - at_ = c2 := ⟨_, rfl⟩
        rw [e1, hA2, hc2] at hsl
        have HA2 := Lib.hid hA2
        have hcle : a2 ≤ cz := by omega
        have ha2T : a2 ≤ T.length := by omega
        have HA2E := Lib.hid ha2
        have hc128 : 128 ≤ c2 := by omega
        obtain ⟨blk, hblk⟩ : ∃ b, (T.drop at_).take 128 = b := ⟨_, rfl⟩
        have hblk2 : (T.take a2).drop at_ = blk := by rw [← hblk, List.take_drop, ha2]
        have hbl : blk.length = 128 := by rw [← hblk]; simp; omega
        have hbB : Bys blk := by rw [← hblk]; exact (HTB.out.drop _).take _
        have hnext : Hid (turn5 si blk = tS T (i + 1)) := by show turn5 si blk = _; rw [tS, HAT.out, HSI.out, hblk]
        have HBLK2 := Lib.hid hblk2
        clear e1 hA2 hc2 hblk hblk2 ha2
        have hDq : D < wq.heap.size := hS.lt
        have KB : ∀ {w' : World}, Rd w' D .u8 Az T → Rd w' D .u8 A2 blk := fun h => by
          have h2 := h.cut at_ a2 cz ha2T hcle
          rw [HA2.out, HBLK2.out] at h2
          exact h2
        go_upto_region 10 with fail
        refine wp_region_hold_tail 7 (fun w' => Arr w' D 75 .u64 si ∧ Rd w' D .u8 Az T ∧ Kept B (fun _ => False) w w' ∧ Kept D (fun _ => False) w7 w') (by kernel_rfl) (by kernel_rfl) ⟨hS.drew, hRq.drew, hKw.drew, hKq.drew⟩ ?_
        simp only [List.take_succ_cons, List.take_zero, List.drop_succ_cons, List.drop_zero]
        ((first | (refine wpHold_step (.agg (U .u64 (si))) ?_ ?_ ?_; focus (with_reducible rfl)) | (refine wpHold_yes (.agg (U .u64 (si))) ?_ ?_ ?_; focus rfl)); (focus (intro w hw; exact gives_load_arr hw 75 _ rfl rfl (hw.1) Tryd.underlying75 rfl 8 inf_a8 hsl8)); (try simp only [Act.put, List.setIfInBounds_toArray, List.set_cons_zero, List.set_cons_succ]))
        ((first | (refine wpHold_step ?_ ?_ ?_ ?_; rotate_left 1; focus (with_reducible rfl)) | (refine wpHold_yes ?_ ?_ ?_ ?_; rotate_left 1; focus rfl)); (focus (intro w hw; unfold Gives; go_simp; refine ⟨?_, hw⟩; with_reducible rfl)); (try simp only [Act.put, List.setIfInBounds_toArray, List.set_cons_zero, List.set_cons_succ]))
        ((first | (refine wpHold_step ?_ ?_ ?_ ?_; rotate_left 1; focus (with_reducible rfl)) | (refine wpHold_yes ?_ ?_ ?_ ?_; rotate_left 1; focus rfl)); (focus (intro w hw; unfold Gives; go_simp; refine ⟨?_, hw⟩; with_reducible rfl)); (try simp only [Act.put, List.setIfInBounds_toArray, List.set_cons_zero, List.set_cons_succ]))
        ((first | (refine wpHold_step ?_ ?_ ?_ ?_; rotate_left 1; focus (with_reducible rfl)) | (refine wpHold_yes ?_ ?_ ?_ ?_; rotate_left 1; focus rfl)); (focus (intro w hw; unfold Gives; go_simp; refine ⟨?_, hw⟩; with_reducible rfl)); (try simp only [Act.put, List.setIfInBounds_toArray, List.set_cons_zero, List.set_cons_succ]))
        ((first | (refine wpHold_step ?_ ?_ ?_ ?_; rotate_left 1; focus (with_reducible rfl)) | (refine wpHold_yes ?_ ?_ ?_ ?_; rotate_left 1; focus rfl)); (focus (intro w hw; unfold Gives; go_simp; refine ⟨?_, hw⟩; with_reducible rfl)); (try simp only [Act.put, List.setIfInBounds_toArray, List.set_cons_zero, List.set_cons_succ]))
        ((first | (refine wpHold_step ?_ ?_ ?_ ?_; rotate_left 1; focus (with_reducible rfl)) | (refine wpHold_yes ?_ ?_ ?_ ?_; rotate_left 1; focus rfl)); (focus (intro w hw; unfold Gives; go_simp; refine ⟨?_, hw⟩; with_reducible rfl)); (try simp only [Act.put, List.setIfInBounds_toArray, List.set_cons_zero, List.set_cons_succ]))
        ((first | (refine wpHold_step (.agg (U .u64 (turn5 si blk))) ?_ ?_ ?_; focus (with_reducible rfl)) | (refine wpHold_yes (.agg (U .u64 (turn5 si blk))) ?_ ?_ ?_; focus rfl)); (focus (intro w hw; unfold Gives; go_simp; exact (turn5_any si blk A2 c2 D w hsl8 hsw8 (KB hw.2.1) (by have := hw.1.lt; omega) hbB hbl hc128 (ht.1.kept hw.2.2.1 hz (fun h => h)) (by have := hw.1.lt; omega)).mono fun e w' ⟨h1, h2⟩ => ⟨h1, hw.1.below h2 hw.1.lt, hw.2.1.below (h2.mono (by have := hw.1.lt; omega)), hw.2.2.1.trans (S' := fun _ => False) (Kept.of_below h2) (by have := hw.1.lt; omega) (fun _ _ h => h), hw.2.2.2.trans (S' := fun _ => False) (Kept.of_below h2) (by have := hw.1.lt; omega) (fun _ _ h => h)⟩)); (try simp only [Act.put, List.setIfInBounds_toArray, List.set_cons_zero, List.set_cons_succ]))
        refine wpHold_nil ?_
        intro w' ⟨hS8, hR8, hK8, hK9⟩
        have hln : (turn5 si blk).length = 8 := turn5_len _ hsl8
        obtain ⟨sn, hsn⟩ : ∃ s, turn5 si blk = s := ⟨_, rfl⟩
        rw [hsn] at hln hnext ⊢
        clear hS hRq hKw hKq KB hsl hsn
        go_wp2_with (refine wpList_store_arr (o := ⟨none, _, _, _, _, _⟩) rfl 75 _ _ rfl rfl rfl hS8 8 inf_a8 hln hsl8 ?_)
        go_roundg (T.length / 128 - (i + 1))
        case measure => have := HGK.out; have := HAT.out; omega
        case rel =>
          have h1 := hS8.setRow sn
          refine ⟨i + 1, ?_, ?_, rfl, by rw [← hnext.out]; exact h1, hK9.setRow D _ (.inl (Nat.le_refl _))⟩
          · rw [show (128 * (i + 1) : Nat) = a2 by have := HAT.out; have := HA2E.out; omega]
          · have := HAT.out; omega
      · have hltI : ¬ (at_ : Int) < (T.length : Int) := by omega
        have hit : i = T.length / 128 := by have := HAT.out; have := HTM.out; omega
        have hfin : sum5 L = outS si 8 := by rw [sum5, HT.out, ← hit, HSI.out]
        have HFIN := Lib.hid hfin
        have hBq : B ≤ wq.heap.size := by have := hKw.size; omega
        clear hit hfin hKq hRq HGK
        go_wp2_with (refine wpList_load_arr (o := ⟨some 50, _, _, _, _, _⟩) rfl 75 _ rfl rfl hS Tryd.underlying75 rfl 8 inf_a8 hsl8 ?_)
        go_loopg [8, 51] 8 (fun gk v x wr => OL w B si gk v x wr)
        case atStart => exact ⟨0, none, 0, rfl, rfl, Nat.zero_le _, rfl, Frs.empty _ _, hKw⟩
        case round =>
          clear hKw hS
          obtain ⟨j, Aj, cj, rfl, rfl, hj, hgk, hFj, hKj⟩ := hrel
          have HGK := Lib.hid hgk
          clear hgk
          by_cases hlt8 : j < 8
          · have hlt8I : (j : Int) < 8 := by omega
            have hix := run_index_arr (P := Tryd.prog) Tryd.underlying75 Tryd.underlying39 inf_q64 hsl8 j hlt8
            have hBr : B ≤ wr.heap.size := by have := hKj.size; omega
            go_wp2_with fail
            (with_reducible refine (put_any (gt si j) 8 8 wr rfl (by decide)).mono ?_)
            rintro e wp ⟨Ap, cp, rfl, hOp, hbp⟩
            have hsp := hbp.size
            have hFp := hFj.below hbp (Nat.le_refl _)
            have hP := parts2 (w := wp) (B := wp.heap.size) (T := 22) (Nat.le_refl _) (hFp.rd.part (n := 8 * j) (c := cj) (outS_len _ _) (by have := hFj.cap; rw [outS_len] at this; exact this)) (hOp.rd.part (n := 8) (c := cp) (putL_len _ _) (by have := hOp.len; omega))
            have hKp := (hKj.trans (S' := fun _ => False) (Kept.of_below hbp) hBr (fun _ _ h => h)).alloc (.cells #[.slice Aj (8 * j) cj, .slice Ap 8 cp] 22) (by omega)
            have hsz : (wp.alloc (.cells #[.slice Aj (8 * j) cj, .slice Ap 8 cp] 22)).heap.size = wp.heap.size + 1 := by simp
            clear hFj hKj hbp hFp hOp
            go_wp2_with fail
            have hcat := cat_any (wp.alloc (.cells #[.slice Aj (8 * j) cj, .slice Ap 8 cp] 22)) _ 2 (wp.heap.size + 1) 2 [outS si j, putL (gt si j) 8] (outS si (j + 1)) (by simp [outS]) hP rfl (by omega) (by omega) (by omega) (by rw [outS_len]; omega)
            (with_reducible refine hcat.mono ?_)
            rintro e wz ⟨Az', cz', rfl, hFz, hbz⟩
            rw [outS_len]
            have hKz := hKp.trans (S' := fun _ => False) (Kept.of_below hbz) (by omega) (fun _ _ h => h)
            have hFz' := hFz.low (b' := B) (by omega)
            clear hcat hP hKp hbz hFz
            go_wp2_with fail
            go_roundg (8 - (j + 1))
            case measure => have := HGK.out; omega
            case rel => exact ⟨j + 1, Az', cz', rfl, by go_num, by omega, rfl, hFz', hKz⟩
          · have hlt8I : ¬ (j : Int) < 8 := by omega
            obtain rfl : j = 8 := by omega
            go_wp2_with fail
            go_ret
            refine ⟨Aj, cj, rfl, ?_, ?_⟩
            · rw [HFIN.out, HB.out]; exact hFj
            · rw [HB.out]; exact hKj.below

end Go.Proofs.YteidkdpfjponfaaDoor
