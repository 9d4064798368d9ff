/- digits.Lack: what the digits of bytes lack. Conditions: the text reads as bytes. -/
import Derived.Test.YtigedohalangbaaDoorD7D
import Derived.Test.YtigedohalangbaaDoorD7C
namespace Go.Proofs.YtigedohalangbaaDoor
open Go.RowKit Go.Shelf
set_option linter.unusedVariables false
set_option linter.unusedSimpArgs false
attribute [local go_sem] Oper.semAt_some

def lackF (m : Int) (l : List Int) : Int := l.foldl (fun s x => IntKind.i64.wrap (s + IntKind.i64.wrap (m - x))) 0
theorem lackF_snoc (m : Int) (l : List Int) (x : Int) : lackF m (l ++ [x]) = IntKind.i64.wrap (lackF m l + IntKind.i64.wrap (m - x)) := by simp [lackF]
theorem lackF_take (b : List Int) (w : Nat) (hw : IsW w) (hb : b.length ≤ 1000000) : ∀ k, k ≤ (digL b w).length → lackF (2 ^ w - 1) ((digL b w).take k) = lackN (digL b w) w k
  | 0, _ => rfl
  | k + 1, hk => by
    have hk' : k < 8 / w * b.length := by rw [digL_len] at hk; omega
    rw [← digL_snoc b w k hk', lackF_snoc, lackF_take b w hw hb k (by omega), lackN, gt_digL b w k hk']
    have h0 := lackN_nn (digL b w) w (digL_lt b w) k
    have h1 := lackN_le (digL b w) w (digL_nn b w) k
    have h2 := dig_bd (gt b (k / (8 / w))) w (k % (8 / w))
    have hm : (2 : Int) ^ w - 1 ≤ 255 := by rcases hw with rfl | rfl | rfl | rfl <;> decide
    have hm0 : (0 : Int) ≤ 2 ^ w - 1 := by rcases hw with rfl | rfl | rfl | rfl <;> decide
    have hkb : k < 8000000 := by rcases hw with rfl | rfl | rfl | rfl <;> omega
    have h3 : (k : Int) * (2 ^ w - 1) ≤ k * 255 := Int.mul_le_mul_of_nonneg_left hm (by omega)
    rw [IntWalk.i64_in (2 ^ w - 1 - dig _ w _) (by omega), IntWalk.i64_in _ (by omega)]
theorem lackF_all (b : List Int) (w : Nat) (hw : IsW w) (hb : b.length ≤ 1000000) : lackF (2 ^ w - 1) (digL b w) = lackOf b w := by
  have h := lackF_take b w hw hb (digL b w).length (Nat.le_refl _)
  rw [List.take_length, digL_len] at h
  exact h

theorem lack_none (A : Option Addr) (L c : Nat) (wd : Int) (w : World) (hw : mayB wd = false) :
    Calls Tryd.prog 32 #[.slice A L c, .int .i64 wd] w fun e w' => e = .returned (.int .i64 0) ∧ Below w.heap.size w w' := by
  have hM := may_any false wd (w.alloc (.cells #[.int .i64 wd] 3)) hw
  go_enter Tryd.func32, Tryd.ntmps32
  go_wp2_with (with_reducible refine hM.mono ?_; rintro e w' ⟨rfl, hb⟩)
  go_ret
  exact ⟨rfl, ((Below.refl _ _).alloc (Nat.le_refl _) _).trans (hb.mono (by simp))⟩

set_option maxRecDepth 100000 in
set_option maxHeartbeats 1000000 in
theorem lack_1 (b : List Int) (A : Option Addr) (L c : Nat) (w : World) (hL : b.length = L) (hL2 : L ≤ 1000000) (hb : Bys b) (hr : Rd w w.heap.size .u8 A b) :
    Calls Tryd.prog 32 #[.slice A L c, .int .i64 1] w fun e w' => e = .returned (.int .i64 (lackF 1 (digL b 1))) ∧ Below w.heap.size w w' := by
  have hM := may_any true 1 (w.alloc (.cells #[.int .i64 1] 3)) rfl
  refine (callsIn_wide (n := 6)).1 ?_
  have hfn : ∀ f, Fence.wide.fn f := fun _ => trivial
  refine callsIn_of_wp_marks Tryd.func32 rfl trivial ?_ rfl
  simp only [Tryd.ntmps32, List.size_toArray, List.length_cons, List.length_nil, Nat.reduceAdd, Nat.reduceSub, Array.replicate_succ, Array.replicate_zero, List.push_toArray, List.append_toArray, List.nil_append, List.cons_append]
  have b3 := Boxed.new w 3 (.int .i64 1)
  have hK1 : Below w.heap.size w (w.alloc (.cells #[.int .i64 1] 3)) := (Below.refl _ _).alloc (Nat.le_refl _) _
  gi_wp2_with (first | (gi_at_call 40; refine (each_in Fence.wide _ trivial rfl _ _ _ _ _).mono ?_; rintro e w' ⟨rfl, rfl⟩) | ((with_reducible refine (callsIn_wide.2 hM).mono ?_); rintro e w1 ⟨rfl, hb1⟩; have hc3 := (hb1.cell (p := ⟨w.heap.size, 0, none⟩) b3.lt).trans b3.cell; have hlt1 : w.heap.size < w1.heap.size := Nat.lt_of_lt_of_le b3.lt hb1.size))
  obtain ⟨q, hq⟩ : ∃ q, w1.heap.size = q := ⟨_, rfl⟩
  have hqs : w.heap.size < q := by rw [← hq]; exact hlt1
  have hb0 : Below w.heap.size w w1 := hK1.trans (hb1.mono (by simp))
  have b31 : Boxed w1 w.heap.size 3 (.int .i64 1) := (hb1.block w.heap.size b3.lt).trans b3
  have bO := Boxed.new w1 3 (.int .i64 0)
  have bB := Boxed.new (w1.alloc (.cells #[.int .i64 0] 3)) 47 (.slice A L c)
  rw [World.size_alloc] at bB
  have bW := Boxed.new ((w1.alloc (.cells #[.int .i64 0] 3)).alloc (.cells #[.slice A L c] 47)) 3 (.int .i64 1)
  rw [World.size_alloc, World.size_alloc] at bW
  have hB0 : Below w.heap.size w (((w1.alloc (.cells #[.int .i64 0] 3)).alloc (.cells #[.slice A L c] 47)).alloc (.cells #[.int .i64 1] 3)) := ((hb0.alloc (by omega) _).alloc (by simp; omega) _).alloc (by simp; omega) _
  have bO := (bO.alloc (.cells #[.slice A L c] 47)).alloc (.cells #[.int .i64 1] 3)
  have bB := bB.alloc (.cells #[.int .i64 1] 3)
  have b3' := ((b31.alloc (.cells #[.int .i64 0] 3)).alloc (.cells #[.slice A L c] 47)).alloc (.cells #[.int .i64 1] 3)
  have hsz : (((w1.alloc (.cells #[.int .i64 0] 3)).alloc (.cells #[.slice A L c] 47)).alloc (.cells #[.int .i64 1] 3)).heap.size = q + 3 := by simp [hq]
  rw [hq] at bO bB bW ⊢
  clear hlt1 hb0
  generalize ((w1.alloc (.cells #[.int .i64 0] 3)).alloc (.cells #[.slice A L c] 47)).alloc (.cells #[.int .i64 1] 3) = W0 at *
  have hr0 := hr.below hB0
  have HQ := Lib.hid hq
  obtain ⟨p, hp⟩ : ∃ p, w.heap.size = p := ⟨_, rfl⟩
  rw [hp] at hqs b3' ⊢
  have HP := Lib.hid hp
  clear hq hM hp hb1 hK1 b3 b31 hc3
  refine wpIn_rangeFunc_ownG rfl (by decide) (gf := 42) (lb := #[.pointer (some ⟨q + 1, 0, none⟩), .pointer (some ⟨q + 1 + 1, 0, none⟩)]) rfl trivial (enters_of Tryd.func42 (by kernel_rfl) rfl)
    (each_stops Fence.wide _ trivial rfl (by decide) (q + 1) (q + 1 + 1) w.heap.size b A c L 1 (by unfold IsW; omega) hL (by omega) hb W0 (by omega) (by omega) hB0.size bB.cell bW.cell hr0) (fun h k => h.trans k) (fun W l o o' hl h h1 h2 => KpD.putObj (m := W0.heap.size) hB0.size (by omega) W l o o' hl h h1 h2) (Below.refl _ _) (fun _ => rfl)
    (fun pre W => Boxed W q 3 (.int .i64 (lackF 1 pre)) ∧ Kept W0.heap.size (fun g => g = q) W0 W)
    (fun _ _ _ => False)
    (OwnFrom.and (Go.Own.from (boxed_own _ _ (fun pre : List Int => .int .i64 (lackF 1 pre))) _) ownFrom_kept)
    (fun _ _ _ _ _ hs _ _ => hs)
    ⟨bO, Kept.refl _ _ _⟩
    (fun x => { tmps := #[.slice A L c, .int .i64 1, undef, .pointer (some ⟨p, 0, none⟩), .int .i64 0, .pointer (some ⟨q, 0, none⟩), .int .i64 x, .int .i64 1, .bool true, .bool false, .slice A L c, .int .i64 1, .func (.func 42) #[] #[.pointer (some ⟨q + 1, 0, none⟩), .pointer (some ⟨q + 1 + 1, 0, none⟩)], .int .i64 x, undef, undef, undef, undef, undef, undef, undef, undef], defers := [] }) ?assign ?body ?done ?stop
  case assign =>
    intro l x W K hK
    gi_wp2
    exact hK
  case body =>
    rintro l pre x W ⟨hv, hB⟩ hlt
    have hc := hv.cell
    have hf := hv.frozen
    have hWs := hB.size
    have hc3 : W.cell? ⟨p, 0, none⟩ = some (.int .i64 1) := hB.cell b3'.cell (by have := hsz; show p < _; omega) (fun h => by have : p = q := h; omega)
    have hmx : Tryd.prog.follows .mixedOrders = true := by kernel_rfl
    have hw2 : IntKind.i64.wrap 2 = 2 := by decide
    have hw3 : IntKind.i64.wrap 1 = 1 := by decide
    gi_wp2
    have hN : Boxed (W.setCell ⟨q, 0, none⟩ (.int .i64 (lackF 1 (pre ++ [x])))) q 3 (.int .i64 (lackF 1 (pre ++ [x]))) := hv.set _
    have hKN : Kept W0.heap.size (fun g => g = q) W (W.setCell ⟨q, 0, none⟩ (.int .i64 (lackF 1 (pre ++ [x])))) := (Kept.refl _ _ W).set q 0 _ (.inr rfl)
    rw [lackF_snoc] at hN hKN
    have HN := Lib.hid hN
    have HKN := Lib.hid hKN
    have HB := Lib.hid hB
    clear hN hKN hB hv
    gi_region_with (fail)
    all_goals gi_wp2
    all_goals exact ⟨((KeepsOthers.setCell _ _ _).trans (KeepsOthers.drew _)).from _, KpD.of_kept (B := q) HKN.out.drew (by have := HP.out; omega) (by omega) (by omega) (by omega), by rw [lackF_snoc]; exact HN.out, HB.out.trans (S' := fun g => g = q) HKN.out.drew (Nat.le_refl _) (fun _ _ h => h)⟩
  case done =>
    rintro D ys W hD rfl ⟨hv, hB⟩ hK
    have hc := hv.cell
    gi_wp2
    refine ⟨by simp, .inl ⟨_, _, rfl, run_takeDeferred hK, ?_⟩⟩
    have hbb : Below w.heap.size w W := hB0.trans ((hB.mono (S' := fun _ => False) (by have := HP.out; omega) (fun k hk e => by have := HP.out; omega)).below)
    exact ⟨_, results_tmp rfl _ _ _, rfl, hbb.trans (belowK_b (w := w) (Nat.le_refl _) W D _ _ (by have := HP.out; omega) hK rfl rfl)⟩
  case stop =>
    rintro D c pre W _ _ h _
    exact h.elim
set_option maxRecDepth 100000 in
set_option maxHeartbeats 1000000 in
theorem lack_2 (b : List Int) (A : Option Addr) (L c : Nat) (w : World) (hL : b.length = L) (hL2 : L ≤ 1000000) (hb : Bys b) (hr : Rd w w.heap.size .u8 A b) :
    Calls Tryd.prog 32 #[.slice A L c, .int .i64 2] w fun e w' => e = .returned (.int .i64 (lackF 3 (digL b 2))) ∧ Below w.heap.size w w' := by
  have hM := may_any true 2 (w.alloc (.cells #[.int .i64 2] 3)) rfl
  refine (callsIn_wide (n := 6)).1 ?_
  have hfn : ∀ f, Fence.wide.fn f := fun _ => trivial
  refine callsIn_of_wp_marks Tryd.func32 rfl trivial ?_ rfl
  simp only [Tryd.ntmps32, List.size_toArray, List.length_cons, List.length_nil, Nat.reduceAdd, Nat.reduceSub, Array.replicate_succ, Array.replicate_zero, List.push_toArray, List.append_toArray, List.nil_append, List.cons_append]
  have b3 := Boxed.new w 3 (.int .i64 2)
  have hK1 : Below w.heap.size w (w.alloc (.cells #[.int .i64 2] 3)) := (Below.refl _ _).alloc (Nat.le_refl _) _
  gi_wp2_with (first | (gi_at_call 40; refine (each_in Fence.wide _ trivial rfl _ _ _ _ _).mono ?_; rintro e w' ⟨rfl, rfl⟩) | ((with_reducible refine (callsIn_wide.2 hM).mono ?_); rintro e w1 ⟨rfl, hb1⟩; have hc3 := (hb1.cell (p := ⟨w.heap.size, 0, none⟩) b3.lt).trans b3.cell; have hlt1 : w.heap.size < w1.heap.size := Nat.lt_of_lt_of_le b3.lt hb1.size))
  obtain ⟨q, hq⟩ : ∃ q, w1.heap.size = q := ⟨_, rfl⟩
  have hqs : w.heap.size < q := by rw [← hq]; exact hlt1
  have hb0 : Below w.heap.size w w1 := hK1.trans (hb1.mono (by simp))
  have b31 : Boxed w1 w.heap.size 3 (.int .i64 2) := (hb1.block w.heap.size b3.lt).trans b3
  have bO := Boxed.new w1 3 (.int .i64 0)
  have bB := Boxed.new (w1.alloc (.cells #[.int .i64 0] 3)) 47 (.slice A L c)
  rw [World.size_alloc] at bB
  have bW := Boxed.new ((w1.alloc (.cells #[.int .i64 0] 3)).alloc (.cells #[.slice A L c] 47)) 3 (.int .i64 2)
  rw [World.size_alloc, World.size_alloc] at bW
  have hB0 : Below w.heap.size w (((w1.alloc (.cells #[.int .i64 0] 3)).alloc (.cells #[.slice A L c] 47)).alloc (.cells #[.int .i64 2] 3)) := ((hb0.alloc (by omega) _).alloc (by simp; omega) _).alloc (by simp; omega) _
  have bO := (bO.alloc (.cells #[.slice A L c] 47)).alloc (.cells #[.int .i64 2] 3)
  have bB := bB.alloc (.cells #[.int .i64 2] 3)
  have b3' := ((b31.alloc (.cells #[.int .i64 0] 3)).alloc (.cells #[.slice A L c] 47)).alloc (.cells #[.int .i64 2] 3)
  have hsz : (((w1.alloc (.cells #[.int .i64 0] 3)).alloc (.cells #[.slice A L c] 47)).alloc (.cells #[.int .i64 2] 3)).heap.size = q + 3 := by simp [hq]
  rw [hq] at bO bB bW ⊢
  clear hlt1 hb0
  generalize ((w1.alloc (.cells #[.int .i64 0] 3)).alloc (.cells #[.slice A L c] 47)).alloc (.cells #[.int .i64 2] 3) = W0 at *
  have hr0 := hr.below hB0
  have HQ := Lib.hid hq
  obtain ⟨p, hp⟩ : ∃ p, w.heap.size = p := ⟨_, rfl⟩
  rw [hp] at hqs b3' ⊢
  have HP := Lib.hid hp
  clear hq hM hp hb1 hK1 b3 b31 hc3
  refine wpIn_rangeFunc_ownG rfl (by decide) (gf := 42) (lb := #[.pointer (some ⟨q + 1, 0, none⟩), .pointer (some ⟨q + 1 + 1, 0, none⟩)]) rfl trivial (enters_of Tryd.func42 (by kernel_rfl) rfl)
    (each_stops Fence.wide _ trivial rfl (by decide) (q + 1) (q + 1 + 1) w.heap.size b A c L 2 (by unfold IsW; omega) hL (by omega) hb W0 (by omega) (by omega) hB0.size bB.cell bW.cell hr0) (fun h k => h.trans k) (fun W l o o' hl h h1 h2 => KpD.putObj (m := W0.heap.size) hB0.size (by omega) W l o o' hl h h1 h2) (Below.refl _ _) (fun _ => rfl)
    (fun pre W => Boxed W q 3 (.int .i64 (lackF 3 pre)) ∧ Kept W0.heap.size (fun g => g = q) W0 W)
    (fun _ _ _ => False)
    (OwnFrom.and (Go.Own.from (boxed_own _ _ (fun pre : List Int => .int .i64 (lackF 3 pre))) _) ownFrom_kept)
    (fun _ _ _ _ _ hs _ _ => hs)
    ⟨bO, Kept.refl _ _ _⟩
    (fun x => { tmps := #[.slice A L c, .int .i64 2, undef, .pointer (some ⟨p, 0, none⟩), .int .i64 0, .pointer (some ⟨q, 0, none⟩), .int .i64 x, .int .i64 2, .bool true, .bool false, .slice A L c, .int .i64 2, .func (.func 42) #[] #[.pointer (some ⟨q + 1, 0, none⟩), .pointer (some ⟨q + 1 + 1, 0, none⟩)], .int .i64 x, undef, undef, undef, undef, undef, undef, undef, undef], defers := [] }) ?assign ?body ?done ?stop
  case assign =>
    intro l x W K hK
    gi_wp2
    exact hK
  case body =>
    rintro l pre x W ⟨hv, hB⟩ hlt
    have hc := hv.cell
    have hf := hv.frozen
    have hWs := hB.size
    have hc3 : W.cell? ⟨p, 0, none⟩ = some (.int .i64 2) := hB.cell b3'.cell (by have := hsz; show p < _; omega) (fun h => by have : p = q := h; omega)
    have hmx : Tryd.prog.follows .mixedOrders = true := by kernel_rfl
    have hw2 : IntKind.i64.wrap 4 = 4 := by decide
    have hw3 : IntKind.i64.wrap 3 = 3 := by decide
    gi_wp2
    have hN : Boxed (W.setCell ⟨q, 0, none⟩ (.int .i64 (lackF 3 (pre ++ [x])))) q 3 (.int .i64 (lackF 3 (pre ++ [x]))) := hv.set _
    have hKN : Kept W0.heap.size (fun g => g = q) W (W.setCell ⟨q, 0, none⟩ (.int .i64 (lackF 3 (pre ++ [x])))) := (Kept.refl _ _ W).set q 0 _ (.inr rfl)
    rw [lackF_snoc] at hN hKN
    have HN := Lib.hid hN
    have HKN := Lib.hid hKN
    have HB := Lib.hid hB
    clear hN hKN hB hv
    gi_region_with (fail)
    all_goals gi_wp2
    all_goals exact ⟨((KeepsOthers.setCell _ _ _).trans (KeepsOthers.drew _)).from _, KpD.of_kept (B := q) HKN.out.drew (by have := HP.out; omega) (by omega) (by omega) (by omega), by rw [lackF_snoc]; exact HN.out, HB.out.trans (S' := fun g => g = q) HKN.out.drew (Nat.le_refl _) (fun _ _ h => h)⟩
  case done =>
    rintro D ys W hD rfl ⟨hv, hB⟩ hK
    have hc := hv.cell
    gi_wp2
    refine ⟨by simp, .inl ⟨_, _, rfl, run_takeDeferred hK, ?_⟩⟩
    have hbb : Below w.heap.size w W := hB0.trans ((hB.mono (S' := fun _ => False) (by have := HP.out; omega) (fun k hk e => by have := HP.out; omega)).below)
    exact ⟨_, results_tmp rfl _ _ _, rfl, hbb.trans (belowK_b (w := w) (Nat.le_refl _) W D _ _ (by have := HP.out; omega) hK rfl rfl)⟩
  case stop =>
    rintro D c pre W _ _ h _
    exact h.elim
set_option maxRecDepth 100000 in
set_option maxHeartbeats 1000000 in
theorem lack_4 (b : List Int) (A : Option Addr) (L c : Nat) (w : World) (hL : b.length = L) (hL2 : L ≤ 1000000) (hb : Bys b) (hr : Rd w w.heap.size .u8 A b) :
    Calls Tryd.prog 32 #[.slice A L c, .int .i64 4] w fun e w' => e = .returned (.int .i64 (lackF 15 (digL b 4))) ∧ Below w.heap.size w w' := by
  have hM := may_any true 4 (w.alloc (.cells #[.int .i64 4] 3)) rfl
  refine (callsIn_wide (n := 6)).1 ?_
  have hfn : ∀ f, Fence.wide.fn f := fun _ => trivial
  refine callsIn_of_wp_marks Tryd.func32 rfl trivial ?_ rfl
  simp only [Tryd.ntmps32, List.size_toArray, List.length_cons, List.length_nil, Nat.reduceAdd, Nat.reduceSub, Array.replicate_succ, Array.replicate_zero, List.push_toArray, List.append_toArray, List.nil_append, List.cons_append]
  have b3 := Boxed.new w 3 (.int .i64 4)
  have hK1 : Below w.heap.size w (w.alloc (.cells #[.int .i64 4] 3)) := (Below.refl _ _).alloc (Nat.le_refl _) _
  gi_wp2_with (first | (gi_at_call 40; refine (each_in Fence.wide _ trivial rfl _ _ _ _ _).mono ?_; rintro e w' ⟨rfl, rfl⟩) | ((with_reducible refine (callsIn_wide.2 hM).mono ?_); rintro e w1 ⟨rfl, hb1⟩; have hc3 := (hb1.cell (p := ⟨w.heap.size, 0, none⟩) b3.lt).trans b3.cell; have hlt1 : w.heap.size < w1.heap.size := Nat.lt_of_lt_of_le b3.lt hb1.size))
  obtain ⟨q, hq⟩ : ∃ q, w1.heap.size = q := ⟨_, rfl⟩
  have hqs : w.heap.size < q := by rw [← hq]; exact hlt1
  have hb0 : Below w.heap.size w w1 := hK1.trans (hb1.mono (by simp))
  have b31 : Boxed w1 w.heap.size 3 (.int .i64 4) := (hb1.block w.heap.size b3.lt).trans b3
  have bO := Boxed.new w1 3 (.int .i64 0)
  have bB := Boxed.new (w1.alloc (.cells #[.int .i64 0] 3)) 47 (.slice A L c)
  rw [World.size_alloc] at bB
  have bW := Boxed.new ((w1.alloc (.cells #[.int .i64 0] 3)).alloc (.cells #[.slice A L c] 47)) 3 (.int .i64 4)
  rw [World.size_alloc, World.size_alloc] at bW
  have hB0 : Below w.heap.size w (((w1.alloc (.cells #[.int .i64 0] 3)).alloc (.cells #[.slice A L c] 47)).alloc (.cells #[.int .i64 4] 3)) := ((hb0.alloc (by omega) _).alloc (by simp; omega) _).alloc (by simp; omega) _
  have bO := (bO.alloc (.cells #[.slice A L c] 47)).alloc (.cells #[.int .i64 4] 3)
  have bB := bB.alloc (.cells #[.int .i64 4] 3)
  have b3' := ((b31.alloc (.cells #[.int .i64 0] 3)).alloc (.cells #[.slice A L c] 47)).alloc (.cells #[.int .i64 4] 3)
  have hsz : (((w1.alloc (.cells #[.int .i64 0] 3)).alloc (.cells #[.slice A L c] 47)).alloc (.cells #[.int .i64 4] 3)).heap.size = q + 3 := by simp [hq]
  rw [hq] at bO bB bW ⊢
  clear hlt1 hb0
  generalize ((w1.alloc (.cells #[.int .i64 0] 3)).alloc (.cells #[.slice A L c] 47)).alloc (.cells #[.int .i64 4] 3) = W0 at *
  have hr0 := hr.below hB0
  have HQ := Lib.hid hq
  obtain ⟨p, hp⟩ : ∃ p, w.heap.size = p := ⟨_, rfl⟩
  rw [hp] at hqs b3' ⊢
  have HP := Lib.hid hp
  clear hq hM hp hb1 hK1 b3 b31 hc3
  refine wpIn_rangeFunc_ownG rfl (by decide) (gf := 42) (lb := #[.pointer (some ⟨q + 1, 0, none⟩), .pointer (some ⟨q + 1 + 1, 0, none⟩)]) rfl trivial (enters_of Tryd.func42 (by kernel_rfl) rfl)
    (each_stops Fence.wide _ trivial rfl (by decide) (q + 1) (q + 1 + 1) w.heap.size b A c L 4 (by unfold IsW; omega) hL (by omega) hb W0 (by omega) (by omega) hB0.size bB.cell bW.cell hr0) (fun h k => h.trans k) (fun W l o o' hl h h1 h2 => KpD.putObj (m := W0.heap.size) hB0.size (by omega) W l o o' hl h h1 h2) (Below.refl _ _) (fun _ => rfl)
    (fun pre W => Boxed W q 3 (.int .i64 (lackF 15 pre)) ∧ Kept W0.heap.size (fun g => g = q) W0 W)
    (fun _ _ _ => False)
    (OwnFrom.and (Go.Own.from (boxed_own _ _ (fun pre : List Int => .int .i64 (lackF 15 pre))) _) ownFrom_kept)
    (fun _ _ _ _ _ hs _ _ => hs)
    ⟨bO, Kept.refl _ _ _⟩
    (fun x => { tmps := #[.slice A L c, .int .i64 4, undef, .pointer (some ⟨p, 0, none⟩), .int .i64 0, .pointer (some ⟨q, 0, none⟩), .int .i64 x, .int .i64 4, .bool true, .bool false, .slice A L c, .int .i64 4, .func (.func 42) #[] #[.pointer (some ⟨q + 1, 0, none⟩), .pointer (some ⟨q + 1 + 1, 0, none⟩)], .int .i64 x, undef, undef, undef, undef, undef, undef, undef, undef], defers := [] }) ?assign ?body ?done ?stop
  case assign =>
    intro l x W K hK
    gi_wp2
    exact hK
  case body =>
    rintro l pre x W ⟨hv, hB⟩ hlt
    have hc := hv.cell
    have hf := hv.frozen
    have hWs := hB.size
    have hc3 : W.cell? ⟨p, 0, none⟩ = some (.int .i64 4) := hB.cell b3'.cell (by have := hsz; show p < _; omega) (fun h => by have : p = q := h; omega)
    have hmx : Tryd.prog.follows .mixedOrders = true := by kernel_rfl
    have hw2 : IntKind.i64.wrap 16 = 16 := by decide
    have hw3 : IntKind.i64.wrap 15 = 15 := by decide
    gi_wp2
    have hN : Boxed (W.setCell ⟨q, 0, none⟩ (.int .i64 (lackF 15 (pre ++ [x])))) q 3 (.int .i64 (lackF 15 (pre ++ [x]))) := hv.set _
    have hKN : Kept W0.heap.size (fun g => g = q) W (W.setCell ⟨q, 0, none⟩ (.int .i64 (lackF 15 (pre ++ [x])))) := (Kept.refl _ _ W).set q 0 _ (.inr rfl)
    rw [lackF_snoc] at hN hKN
    have HN := Lib.hid hN
    have HKN := Lib.hid hKN
    have HB := Lib.hid hB
    clear hN hKN hB hv
    gi_region_with (fail)
    all_goals gi_wp2
    all_goals exact ⟨((KeepsOthers.setCell _ _ _).trans (KeepsOthers.drew _)).from _, KpD.of_kept (B := q) HKN.out.drew (by have := HP.out; omega) (by omega) (by omega) (by omega), by rw [lackF_snoc]; exact HN.out, HB.out.trans (S' := fun g => g = q) HKN.out.drew (Nat.le_refl _) (fun _ _ h => h)⟩
  case done =>
    rintro D ys W hD rfl ⟨hv, hB⟩ hK
    have hc := hv.cell
    gi_wp2
    refine ⟨by simp, .inl ⟨_, _, rfl, run_takeDeferred hK, ?_⟩⟩
    have hbb : Below w.heap.size w W := hB0.trans ((hB.mono (S' := fun _ => False) (by have := HP.out; omega) (fun k hk e => by have := HP.out; omega)).below)
    exact ⟨_, results_tmp rfl _ _ _, rfl, hbb.trans (belowK_b (w := w) (Nat.le_refl _) W D _ _ (by have := HP.out; omega) hK rfl rfl)⟩
  case stop =>
    rintro D c pre W _ _ h _
    exact h.elim
set_option maxRecDepth 100000 in
set_option maxHeartbeats 1000000 in
theorem lack_8 (b : List Int) (A : Option Addr) (L c : Nat) (w : World) (hL : b.length = L) (hL2 : L ≤ 1000000) (hb : Bys b) (hr : Rd w w.heap.size .u8 A b) :
    Calls Tryd.prog 32 #[.slice A L c, .int .i64 8] w fun e w' => e = .returned (.int .i64 (lackF 255 (digL b 8))) ∧ Below w.heap.size w w' := by
  have hM := may_any true 8 (w.alloc (.cells #[.int .i64 8] 3)) rfl
  refine (callsIn_wide (n := 6)).1 ?_
  have hfn : ∀ f, Fence.wide.fn f := fun _ => trivial
  refine callsIn_of_wp_marks Tryd.func32 rfl trivial ?_ rfl
  simp only [Tryd.ntmps32, List.size_toArray, List.length_cons, List.length_nil, Nat.reduceAdd, Nat.reduceSub, Array.replicate_succ, Array.replicate_zero, List.push_toArray, List.append_toArray, List.nil_append, List.cons_append]
  have b3 := Boxed.new w 3 (.int .i64 8)
  have hK1 : Below w.heap.size w (w.alloc (.cells #[.int .i64 8] 3)) := (Below.refl _ _).alloc (Nat.le_refl _) _
  gi_wp2_with (first | (gi_at_call 40; refine (each_in Fence.wide _ trivial rfl _ _ _ _ _).mono ?_; rintro e w' ⟨rfl, rfl⟩) | ((with_reducible refine (callsIn_wide.2 hM).mono ?_); rintro e w1 ⟨rfl, hb1⟩; have hc3 := (hb1.cell (p := ⟨w.heap.size, 0, none⟩) b3.lt).trans b3.cell; have hlt1 : w.heap.size < w1.heap.size := Nat.lt_of_lt_of_le b3.lt hb1.size))
  obtain ⟨q, hq⟩ : ∃ q, w1.heap.size = q := ⟨_, rfl⟩
  have hqs : w.heap.size < q := by rw [← hq]; exact hlt1
  have hb0 : Below w.heap.size w w1 := hK1.trans (hb1.mono (by simp))
  have b31 : Boxed w1 w.heap.size 3 (.int .i64 8) := (hb1.block w.heap.size b3.lt).trans b3
  have bO := Boxed.new w1 3 (.int .i64 0)
  have bB := Boxed.new (w1.alloc (.cells #[.int .i64 0] 3)) 47 (.slice A L c)
  rw [World.size_alloc] at bB
  have bW := Boxed.new ((w1.alloc (.cells #[.int .i64 0] 3)).alloc (.cells #[.slice A L c] 47)) 3 (.int .i64 8)
  rw [World.size_alloc, World.size_alloc] at bW
  have hB0 : Below w.heap.size w (((w1.alloc (.cells #[.int .i64 0] 3)).alloc (.cells #[.slice A L c] 47)).alloc (.cells #[.int .i64 8] 3)) := ((hb0.alloc (by omega) _).alloc (by simp; omega) _).alloc (by simp; omega) _
  have bO := (bO.alloc (.cells #[.slice A L c] 47)).alloc (.cells #[.int .i64 8] 3)
  have bB := bB.alloc (.cells #[.int .i64 8] 3)
  have b3' := ((b31.alloc (.cells #[.int .i64 0] 3)).alloc (.cells #[.slice A L c] 47)).alloc (.cells #[.int .i64 8] 3)
  have hsz : (((w1.alloc (.cells #[.int .i64 0] 3)).alloc (.cells #[.slice A L c] 47)).alloc (.cells #[.int .i64 8] 3)).heap.size = q + 3 := by simp [hq]
  rw [hq] at bO bB bW ⊢
  clear hlt1 hb0
  generalize ((w1.alloc (.cells #[.int .i64 0] 3)).alloc (.cells #[.slice A L c] 47)).alloc (.cells #[.int .i64 8] 3) = W0 at *
  have hr0 := hr.below hB0
  have HQ := Lib.hid hq
  obtain ⟨p, hp⟩ : ∃ p, w.heap.size = p := ⟨_, rfl⟩
  rw [hp] at hqs b3' ⊢
  have HP := Lib.hid hp
  clear hq hM hp hb1 hK1 b3 b31 hc3
  refine wpIn_rangeFunc_ownG rfl (by decide) (gf := 42) (lb := #[.pointer (some ⟨q + 1, 0, none⟩), .pointer (some ⟨q + 1 + 1, 0, none⟩)]) rfl trivial (enters_of Tryd.func42 (by kernel_rfl) rfl)
    (each_stops Fence.wide _ trivial rfl (by decide) (q + 1) (q + 1 + 1) w.heap.size b A c L 8 (by unfold IsW; omega) hL (by omega) hb W0 (by omega) (by omega) hB0.size bB.cell bW.cell hr0) (fun h k => h.trans k) (fun W l o o' hl h h1 h2 => KpD.putObj (m := W0.heap.size) hB0.size (by omega) W l o o' hl h h1 h2) (Below.refl _ _) (fun _ => rfl)
    (fun pre W => Boxed W q 3 (.int .i64 (lackF 255 pre)) ∧ Kept W0.heap.size (fun g => g = q) W0 W)
    (fun _ _ _ => False)
    (OwnFrom.and (Go.Own.from (boxed_own _ _ (fun pre : List Int => .int .i64 (lackF 255 pre))) _) ownFrom_kept)
    (fun _ _ _ _ _ hs _ _ => hs)
    ⟨bO, Kept.refl _ _ _⟩
    (fun x => { tmps := #[.slice A L c, .int .i64 8, undef, .pointer (some ⟨p, 0, none⟩), .int .i64 0, .pointer (some ⟨q, 0, none⟩), .int .i64 x, .int .i64 8, .bool true, .bool false, .slice A L c, .int .i64 8, .func (.func 42) #[] #[.pointer (some ⟨q + 1, 0, none⟩), .pointer (some ⟨q + 1 + 1, 0, none⟩)], .int .i64 x, undef, undef, undef, undef, undef, undef, undef, undef], defers := [] }) ?assign ?body ?done ?stop
  case assign =>
    intro l x W K hK
    gi_wp2
    exact hK
  case body =>
    rintro l pre x W ⟨hv, hB⟩ hlt
    have hc := hv.cell
    have hf := hv.frozen
    have hWs := hB.size
    have hc3 : W.cell? ⟨p, 0, none⟩ = some (.int .i64 8) := hB.cell b3'.cell (by have := hsz; show p < _; omega) (fun h => by have : p = q := h; omega)
    have hmx : Tryd.prog.follows .mixedOrders = true := by kernel_rfl
    have hw2 : IntKind.i64.wrap 256 = 256 := by decide
    have hw3 : IntKind.i64.wrap 255 = 255 := by decide
    gi_wp2
    have hN : Boxed (W.setCell ⟨q, 0, none⟩ (.int .i64 (lackF 255 (pre ++ [x])))) q 3 (.int .i64 (lackF 255 (pre ++ [x]))) := hv.set _
    have hKN : Kept W0.heap.size (fun g => g = q) W (W.setCell ⟨q, 0, none⟩ (.int .i64 (lackF 255 (pre ++ [x])))) := (Kept.refl _ _ W).set q 0 _ (.inr rfl)
    rw [lackF_snoc] at hN hKN
    have HN := Lib.hid hN
    have HKN := Lib.hid hKN
    have HB := Lib.hid hB
    clear hN hKN hB hv
    gi_region_with (fail)
    all_goals gi_wp2
    all_goals exact ⟨((KeepsOthers.setCell _ _ _).trans (KeepsOthers.drew _)).from _, KpD.of_kept (B := q) HKN.out.drew (by have := HP.out; omega) (by omega) (by omega) (by omega), by rw [lackF_snoc]; exact HN.out, HB.out.trans (S' := fun g => g = q) HKN.out.drew (Nat.le_refl _) (fun _ _ h => h)⟩
  case done =>
    rintro D ys W hD rfl ⟨hv, hB⟩ hK
    have hc := hv.cell
    gi_wp2
    refine ⟨by simp, .inl ⟨_, _, rfl, run_takeDeferred hK, ?_⟩⟩
    have hbb : Below w.heap.size w W := hB0.trans ((hB.mono (S' := fun _ => False) (by have := HP.out; omega) (fun k hk e => by have := HP.out; omega)).below)
    exact ⟨_, results_tmp rfl _ _ _, rfl, hbb.trans (belowK_b (w := w) (Nat.le_refl _) W D _ _ (by have := HP.out; omega) hK rfl rfl)⟩
  case stop =>
    rintro D c pre W _ _ h _
    exact h.elim
theorem lack_any (b : List Int) (A : Option Addr) (L c wd : Nat) (w : World) (hw : IsW wd) (hL : b.length = L) (hL2 : L ≤ 1000000) (hb : Bys b) (hr : Rd w w.heap.size .u8 A b) :
    Calls Tryd.prog 32 #[.slice A L c, .int .i64 (wd : Int)] w fun e w' => e = .returned (.int .i64 (lackOf b wd)) ∧ Below w.heap.size w w' := by
  rcases hw with rfl | rfl | rfl | rfl
  · rw [← lackF_all b 1 (.inl rfl) (by omega)]; exact lack_1 b A L c w hL hL2 hb hr
  · rw [← lackF_all b 2 (.inr (.inl rfl)) (by omega)]; exact lack_2 b A L c w hL hL2 hb hr
  · rw [← lackF_all b 4 (.inr (.inr (.inl rfl))) (by omega)]; exact lack_4 b A L c w hL hL2 hb hr
  · rw [← lackF_all b 8 (.inr (.inr (.inr rfl))) (by omega)]; exact lack_8 b A L c w hL hL2 hb hr

end Go.Proofs.YtigedohalangbaaDoor
