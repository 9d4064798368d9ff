/- digits.All: the digits, and those of what they lack. Conditions: the text reads as bytes. -/
import Derived.Test.YtigedohalangbaaDoorD7E
import Derived.Test.YtigedohalangbaaDoorOct
import Derived.Test.YtigedohalangbaaDoorSl
import Derived.Deep.RegionLaw
namespace Go.Proofs.YtigedohalangbaaDoor
open Go.RowKit
set_option linter.unusedVariables false
set_option linter.unusedSimpArgs false

theorem put_at (V : Int) (v : Int) (n : Nat) (N : Int) (w : World) (hV : V = v) (hN : N = n) (hn : n ≤ 8) :
    Calls Tryd.prog 31 #[.int .u64 V, .int .i64 N] w (PutPost w v n) := by subst hV; exact put_any V n N w hN hn
theorem own_none {w : World} {b e n c : Nat} {k : IntKind} {A : Option Addr} {l : List Int} (h : Proofs.YtigedohalangbaaDoor.Own w b e k (.slice A n c) l) : A = none → c = 0 := h.nilcap
theorem all_none (b : List Int) (A : Option Addr) (L c : Nat) (wd : Int) (w : World) (h : (L : Int) < 1 ∨ 64 < (L : Int) ∨ mayB wd = false) :
    Calls Tryd.prog 19 #[.slice A L c, .int .i64 wd] w (OfPost w []) := by
  have hS := shape_none (L : Int) wd w h
  clear h
  go_enter Tryd.func19, Tryd.ntmps19
  go_wp2_with (with_reducible refine hS.mono ?_; rintro e w' ⟨rfl, hb⟩)
  go_ret
  exact ⟨none, 0, rfl, Proofs.YtigedohalangbaaDoor.Own.nil _ _ _ _, hb⟩

set_option maxRecDepth 100000 in
set_option maxHeartbeats 1000000 in
theorem all_any (b : List Int) (A : Option Addr) (L c wd s : Nat) (w : World) (hw : IsW wd) (hL : b.length = L) (h1 : 1 ≤ L) (h64 : L ≤ 64) (hb : Bys b) (hr : Rd w w.heap.size .u8 A b) (hs : wd * vOf L wd + s = 16) :
    Calls Tryd.prog 19 #[.slice A L c, .int .i64 (wd : Int)] w (OfPost w (allL b wd (vOf L wd) s)) := by
  have hok := shape_ok wd hw L h64 h1
  have hlt := lackOf_lt b wd hw (by omega) (by omega) s (by rw [hL]; exact hs)
  have hnn := lackOf_nn b wd
  have hlen := allL_len b wd (vOf L wd) s (by rcases hw with rfl | rfl | rfl | rfl <;> omega)
  have hdl := lackD_len b wd s
  obtain ⟨v, hv⟩ : ∃ v, vOf L wd = v := ⟨_, rfl⟩
  obtain ⟨u, hu⟩ : ∃ u, uOf L wd = u := ⟨_, rfl⟩
  have hS : Calls Tryd.prog 18 #[.int .i64 (L : Int), .int .i64 (wd : Int)] w (fun e W' => e = .returned (.tuple #[.int .i64 (u : Int), .int .i64 (v : Int), .int .i64 (s : Int)]) ∧ Below w.heap.size w W') := by
    refine (shape_any L wd w hw h1 h64).mono ?_
    rintro e w' ⟨rfl, hB⟩
    refine ⟨?_, hB⟩
    have e1 : (16 - (wd : Int) * (vOf L wd : Nat)) = (s : Int) := by
      have : ((wd * vOf L wd : Nat) : Int) + (s : Int) = 16 := by exact_mod_cast hs
      rw [Int.natCast_mul] at this; omega
    rw [e1, hu, hv]
  rw [hv] at hok hs hlen ⊢
  rw [hu] at hok
  have hu0 : ((u : Int) == 0) = false := by
    rw [beq_eq_false_iff_ne]
    have := hok.1
    rcases hw with rfl | rfl | rfl | rfl <;> omega
  obtain ⟨x, hx⟩ : ∃ x, lackOf b wd = x := ⟨_, rfl⟩
  obtain ⟨y, hy⟩ : ∃ y, x * 2 ^ s = y := ⟨_, rfl⟩
  rw [hx] at hlt hnn
  rw [hy] at hlt
  have hy0 : 0 ≤ y := by rw [← hy]; exact Int.mul_nonneg hnn (Int.le_of_lt (Int.pow_pos (by decide)))
  have hs16 : s ≤ 15 := by
    have h := hok.2.1
    have : 1 * 1 ≤ wd * v := Nat.mul_le_mul (by rcases hw with rfl | rfl | rfl | rfl <;> omega) h
    omega
  have hxw : IntKind.u64.wrap x = x := by
    rw [IntKind.wrap_u64]
    have h2 : (1 : Int) ≤ 2 ^ s := Int.pow_pos (by decide)
    have h3 : x * 1 ≤ x * 2 ^ s := Int.mul_le_mul_of_nonneg_left h2 hnn
    omega
  have hyw : IntKind.u64.wrap y = y := by rw [IntKind.wrap_u64]; omega
  have hLk : ∀ W, Rd W W.heap.size .u8 A b → Calls Tryd.prog 32 #[.slice A L c, .int .i64 (wd : Int)] W fun e w' => e = .returned (.int .i64 x) ∧ Below W.heap.size W w' := fun W h => by
    rw [← hx]; exact lack_any b A L c wd W hw hL (by omega) hb h
  have hD : lackD b wd s = digL (putL y 2) wd := by rw [lackD, hx, hy]
  have HD := Lib.hid hD
  have HY := Lib.hid hy
  have HOK := Lib.hid hok
  have HLEN := Lib.hid hlen
  have HDL := Lib.hid hdl
  have HS := Lib.hid hs
  have HLK := Lib.hid hLk
  have hs0 : (s : Int) ≤ 15 := by omega
  clear hD hy hok hlen hdl hs hLk hx hu hv
  go_enter Tryd.func19, Tryd.ntmps19
  go_wp2_with fail
  refine hS.mono ?_
  rintro e w1 ⟨rfl, hb1⟩
  clear hS
  have hr1 := hr.below hb1
  have hs1 := hb1.size
  go_wp2_with fail
  refine (HLK.out w1 (hr1.more hs1)).mono ?_
  rintro e w2 ⟨rfl, hb2⟩
  have hr2 := (hr1.more hs1).below hb2
  have hs2 := hb2.size
  clear hr1
  go_wp2_with fail
  refine (put_at _ y 2 _ w2 (by rw [HY.out, hyw]) rfl (by decide)).mono ?_
  rintro e w3 ⟨A3, c3, rfl, hO3, hb3⟩
  have hr3 := hr2.below (hb3.mono hs2)
  have hs3 := hb3.size
  have hR3 := hO3.rd
  clear hO3 hr2
  go_wp2_with fail
  refine (of_any (putL y 2) A3 2 c3 wd w3 hw (putL_len _ _) (by omega) (putL_B _ _) hR3).mono ?_
  rintro e w4 ⟨A4, c4, rfl, hO4, hb4⟩
  rw [← HD.out] at hO4 ⊢
  rw [HDL.out] at hO4 ⊢
  have hr4 := hr3.below (hb4.mono (by omega))
  have hs4 := hb4.size
  have hv4 := (HOK.out).2.1
  have hcap := hO4.len.2
  rw [HDL.out] at hcap
  obtain ⟨D, hD⟩ : ∃ D, lackD b wd s = D := ⟨_, rfl⟩
  rw [hD] at hO4
  have hR4 : Rd w4 w4.heap.size .i64 A4 D := hO4.rd
  have hB04 : Below w.heap.size w w4 := ((hb1.trans (hb2.mono hs1)).trans (hb3.mono (by omega))).trans (hb4.mono (by omega))
  clear hR3 hr3 hb1 hb2 hb3 hb4
  go_wp2_with fail
  have hvc : v ≤ 8 / wd * 2 := by have h := (HOK.out).2.2.1; rcases hw with rfl | rfl | rfl | rfl <;> omega
  have hsl : ∀ wx, (Instr.slice 45 (.slice A4 (8 / wd * 2) c4) none (some (.int .i64 (v : Int))) (some (.int .i64 (v : Int)))).run Tryd.prog wx = .ok (.slice A4 v v) wx := fun wx =>
    run_slice_0vv 45 3 Tryd.underlying45 (by kernel_rfl) A4 _ c4 v (by omega) (by omega) .i64 .i64 wx
  have hrd : Rd w4.drew w4.drew.heap.size .u8 A b := hr4.more (by show _ ≤ w4.heap.size; omega)
  have hOf := of_any b A L c wd w4.drew hw hL (by omega) hb hrd
  have hTl : (D.take v).length = v := by rw [List.length_take, ← hD, HDL.out]; omega
  have hcat : digL b wd ++ D.take v = allL b wd v s := by rw [← hD]; rfl
  have hN := HLEN.out
  have hmx : (1000000 : Nat) ≤ maxLen := by decide
  have hR5 : Rd w4.drew w4.drew.heap.size .i64 A4 (D.take v) := hR4.take_ v
  have hlen2 : (digL b wd).length + (D.take v).length ≤ 1000000 := by rw [hTl, digL_len, hL]; rcases hw with rfl | rfl | rfl | rfl <;> omega
  have HD2 := Lib.hid hD
  have HN := Lib.hid hN
  have HC := Lib.hid hcat
  have HT := Lib.hid hTl
  clear hD hN hcat hrd hr4 hO4 hR4 hTl
  go_region_law (first | (go_simp; (with_reducible refine hOf.mono ?_); rintro e w5 ⟨A5, c5, rfl, hO5, hb5⟩; have hR6 := hR5.below hb5; have hs5 := hb5.size) | (refine step_append_nums (by rfl) _ _ 45 3 .i64 8 (by rfl) Tryd.underlying45 inf_int hO5 hR6 (by rfl) (by rfl) HT.out (by omega) (by omega) (by omega) ?_; intro A6 c6 w6 hO6 hg6 hf6))
  have hs45 : w4.heap.size ≤ w5.heap.size := hs5
  have hs04 : w.heap.size ≤ w4.heap.size := hB04.size
  have hK5 : Kept w.heap.size (fun _ => False) w w5 := Kept.of_below (hB04.trans ((show Below w4.heap.size w4 w5 from ⟨hb5.os, hb5.tape, hb5.output, hb5.size, hb5.block⟩).mono hs04))
  have hK6 := hK5.grew hO5 hg6 (by show _ ≤ w4.heap.size; exact hs04) (by omega)
  have hO7 := hO6.low (b' := w.heap.size) hs04
  rw [HC.out] at hO7
  have hNe : (digL b wd).length + min v D.length = (allL b wd v s).length := by rw [← HC.out, List.length_append, List.length_take]
  have hNf : (digL b wd).length + (D.take v).length = (allL b wd v s).length := by rw [← HC.out, List.length_append]
  rw [hNf] at hO7
  rw [hNe]
  clear hO6 hg6 hf6 hO5 hb5 hR6 hs5 hOf hsl hNe hNf
  go_wp2_with fail
  go_ret
  exact ⟨A6, c6, rfl, hO7, hK6.below⟩

end Go.Proofs.YtigedohalangbaaDoor
