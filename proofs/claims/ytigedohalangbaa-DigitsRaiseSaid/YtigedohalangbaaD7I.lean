/- The document's answer of layer 7: All. Conditions: the text reads as bytes. -/
import Derived.Test.YtigedohalangbaaD7H
namespace Go.Proofs.Ytigedohalangbaa
open Go.RowKit
set_option linter.unusedVariables false
set_option linter.unusedSimpArgs false

def dblN (x : Int) : Nat → Int
  | 0 => x
  | i + 1 => 2 * dblN x i
theorem dblN_eq (x : Int) : ∀ i, dblN x i = x * 2 ^ i
  | 0 => by simp [dblN]
  | i + 1 => by rw [dblN, dblN_eq x i, Int.pow_succ, Int.mul_comm 2, Int.mul_assoc]
theorem dblN_mono (x : Int) (h : 0 ≤ x) : ∀ i, 0 ≤ dblN x i ∧ dblN x i ≤ dblN x (i + 1)
  | 0 => by simp only [dblN]; omega
  | i + 1 => by have := dblN_mono x h i; simp only [dblN] at *; omega
theorem dblN_le (x : Int) (h : 0 ≤ x) (s : Nat) : ∀ i, i ≤ s → dblN x i ≤ dblN x s := by
  induction s with
  | zero => intro i hi; rw [show i = 0 by omega]; exact Int.le_refl _
  | succ s ih =>
    intro i hi
    by_cases e : i = s + 1
    · rw [e]; exact Int.le_refl _
    · exact Int.le_trans (ih i (by omega)) (dblN_mono x h s).2
theorem putL_two (y : Int) (h0 : 0 ≤ y) (h1 : y < 65536) : putL y 2 = [y / 256, y % 256] := by
  have e : putL y 2 = [y / 2 ^ (8 * (2 - 1 - 0)) % 256, y / 2 ^ (8 * (2 - 1 - 1)) % 256] := rfl
  rw [e]
  have e1 : y / 2 ^ (8 * (2 - 1 - 0)) % 256 = y / 256 := by
    rw [show (2 : Int) ^ (8 * (2 - 1 - 0)) = 256 by decide]; omega
  have e2 : y / 2 ^ (8 * (2 - 1 - 1)) % 256 = y % 256 := by
    rw [show (2 : Int) ^ (8 * (2 - 1 - 1)) = 1 by decide]; omega
  rw [e1, e2]

theorem rall_none (b : List Int) (A : Option Addr) (L c : Nat) (wd : Int) (w : World) (h : (L : Int) < 1 ∨ 64 < (L : Int) ∨ mayB wd = false) :
    Calls Try.prog 24 #[.slice A L c, .int .i64 wd] w (OfPost w []) := by
  have hS := rshape_none (L : Int) wd w h
  clear h
  go_enter Try.func24, Try.ntmps24
  go_wp2_with (with_reducible refine hS.mono ?_; rintro e w' ⟨rfl, rfl⟩)
  go_ret
  exact ⟨none, 0, rfl, Proofs.Ytigedohalangbaa.Own.nil _ _ _ _, Below.refl _ _⟩

set_option maxRecDepth 100000 in
set_option maxHeartbeats 1000000 in
theorem rall_any (b : List Int) (A : Option Addr) (L c wd s : Nat) (w : World) (hw : IsW wd) (hL : b.length = L) (h1 : 1 ≤ L) (h64 : L ≤ 64) (hb : Bys b) (hr : Rd w w.heap.size .u8 A b) (hs : wd * vOf L wd + s = 16) :
    Calls Try.prog 24 #[.slice A L c, .int .i64 (wd : Int)] w (OfPost w (allL b wd (vOf L wd) s)) := by
  have hok := shape_ok wd hw L h64 h1
  have hlt := lackOf_lt b wd hw (by omega) (by omega) s (by rw [hL]; exact hs)
  have hnn := lackOf_nn b wd
  have hlen := allL_len b wd (vOf L wd) s (by rcases hw with rfl | rfl | rfl | rfl <;> omega)
  have hdl := lackD_len b wd s
  obtain ⟨v, hv⟩ : ∃ v, vOf L wd = v := ⟨_, rfl⟩
  obtain ⟨u, hu⟩ : ∃ u, uOf L wd = u := ⟨_, rfl⟩
  have hS : Calls Try.prog 15 #[.int .i64 (L : Int), .int .i64 (wd : Int)] w (fun e W' => e = .returned (.tuple #[.int .i64 (u : Int), .int .i64 (v : Int), .int .i64 (s : Int)]) ∧ Below w.heap.size w W') := by
    refine (rshape_any L wd w hw h1 h64).mono ?_
    rintro e w' ⟨rfl, hB⟩
    refine ⟨?_, hB⟩
    have e1 : (16 - (wd : Int) * (vOf L wd : Nat)) = (s : Int) := by
      have : ((wd * vOf L wd : Nat) : Int) + (s : Int) = 16 := by exact_mod_cast hs
      rw [Int.natCast_mul] at this; omega
    rw [e1, hu, hv]
  rw [hv] at hok hs hlen ⊢
  rw [hu] at hok
  have hu0 : ((u : Int) == 0) = false := by
    rw [beq_eq_false_iff_ne]
    have := hok.1
    rcases hw with rfl | rfl | rfl | rfl <;> omega
  obtain ⟨x, hx⟩ : ∃ x, lackOf b wd = x := ⟨_, rfl⟩
  obtain ⟨y, hy⟩ : ∃ y, dblN x s = y := ⟨_, rfl⟩
  rw [hx] at hlt hnn
  rw [← dblN_eq, hy] at hlt
  have hmono := fun i => dblN_mono x hnn i
  have hle := dblN_le x hnn s
  have hy0 : 0 ≤ y := by rw [← hy]; exact (hmono s).1
  rw [hy] at hle
  have hs16 : s ≤ 16 := by omega
  have hs0 : (s : Int) ≤ 16 := by omega
  have hLk : ∀ W, Rd W W.heap.size .u8 A b → Calls Try.prog 22 #[.slice A L c, .int .i64 (wd : Int)] W fun e w' => e = .returned (.int .i64 x) ∧ Below W.heap.size W w' := fun W h => by
    rw [← hx]; exact rlack_any b A L c wd W hw hL (by omega) hb h
  have hD : lackD b wd s = digL [y / 256, y % 256] wd := by rw [lackD, hx, ← dblN_eq, hy, putL_two y hy0 hlt]
  have HD := Lib.hid hD
  have HY := Lib.hid hy
  have HOK := Lib.hid hok
  have HLEN := Lib.hid hlen
  have HDL := Lib.hid hdl
  have HS := Lib.hid hs
  have HLK := Lib.hid hLk
  have HM := Lib.hid hmono
  have HLE := Lib.hid hle
  clear hD hy hok hlen hdl hs hLk hx hu hv hmono hle
  go_enter Try.func24, Try.ntmps24
  go_wp2_with fail
  refine hS.mono ?_
  rintro e w1 ⟨rfl, hb1⟩
  clear hS
  have hr1 := hr.below hb1
  have hs1 := hb1.size
  go_wp2_with fail
  refine (HLK.out w1 (hr1.more hs1)).mono ?_
  rintro e w2 ⟨rfl, hb2⟩
  have hr2 := (hr1.more hs1).below hb2
  have hs2 := hb2.size
  clear hr1
  go_wp2_with fail
  go_loopg [8, 9] s (fun g s8 s9 wr => wr = w2 ∧ ∃ i : Nat, i ≤ s ∧ g = s - i ∧ s9 = .int .i64 i ∧ s8 = .int .i64 (dblN x i))
  case atStart => exact ⟨rfl, 0, Nat.zero_le _, rfl, rfl, rfl⟩
  case round =>
    obtain ⟨rfl, i, hi, hg, rfl, rfl⟩ := hrel
    have HG := Lib.hid hg
    clear hg
    have hz0 := (HM.out i).1
    have hz1 := HLE.out i hi
    obtain ⟨z, hz⟩ : ∃ z, dblN x i = z := ⟨_, rfl⟩
    rw [hz] at hz0 hz1 ⊢
    have HZ := Lib.hid hz
    clear hz
    by_cases hlt2 : i < s
    · have hltI : (i : Int) < (s : Int) := by omega
      go_wp2_with fail
      go_roundg (s - (i + 1))
      case measure => have := HG.out; omega
      case rel => exact ⟨rfl, i + 1, by omega, rfl, by go_num, by rw [dblN, HZ.out]⟩
    · have hltI : ¬ (i : Int) < (s : Int) := by omega
      obtain rfl : i = s := by omega
      have hzy : z = y := by rw [← HZ.out]; exact HY.out
      subst hzy
      have hE : Arr (wr.alloc (.cells #[.int .u8 (z / 256), .int .u8 (z % 256)] 5)) wr.heap.size 5 .u8 [z / 256, z % 256] := Arr.new wr 5 .u8 [z / 256, z % 256]
      have hRE : Rd (wr.alloc (.cells #[.int .u8 (z / 256), .int .u8 (z % 256)] 5)) (wr.alloc (.cells #[.int .u8 (z / 256), .int .u8 (z % 256)] 5)).heap.size .u8 (some ⟨wr.heap.size, 0, none⟩) [z / 256, z % 256] := Rd.of_arr hE (by simp)
      have hBE : Bys [z / 256, z % 256] := fun q hq => by
        simp only [List.mem_cons, List.not_mem_nil, or_false] at hq
        rcases hq with rfl | rfl
        · exact ⟨by omega, by omega⟩
        · exact B8.mod _
      have hbE : Below wr.heap.size wr (wr.alloc (.cells #[.int .u8 (z / 256), .int .u8 (z % 256)] 5)) := (Below.refl _ _).alloc (Nat.le_refl _) _
      have hOfE := rof_any [z / 256, z % 256] (some ⟨wr.heap.size, 0, none⟩) 2 2 wd _ hw rfl (by omega) hBE hRE
      have hc1 : z / 256 < 256 := by omega
      have hc2 : 0 ≤ z / 256 := by omega
      have hw1 : IntKind.u8.wrap (z / 256) = z / 256 := by rw [IntKind.wrap_u8]; omega
      have hw2 : IntKind.u8.wrap (z % 256) = z % 256 := by rw [IntKind.wrap_u8]; omega
      clear hE hRE hBE
      go_wp2_with fail
      refine hOfE.mono ?_
      rintro e w4 ⟨A4, c4, rfl, hO4, hb4⟩
      rw [← HD.out] at hO4 ⊢
      rw [HDL.out] at hO4 ⊢
      have hs3 := hbE.size
      have hr4 := (hr2.below (hbE.mono hs2)).below (hb4.mono (by omega))
      have hs4 := hb4.size
      have hv4 := (HOK.out).2.1
      have hcap := hO4.len.2
      rw [HDL.out] at hcap
      obtain ⟨D, hD⟩ : ∃ D, lackD b wd i = D := ⟨_, rfl⟩
      rw [hD] at hO4
      have hR4 : Rd w4 w4.heap.size .i64 A4 D := hO4.rd
      have hB04 : Below w.heap.size w w4 := ((hb1.trans (hb2.mono hs1)).trans (hbE.mono (by omega))).trans (hb4.mono (by omega))
      have hvc : v ≤ 8 / wd * 2 := by have h := (HOK.out).2.2.1; rcases hw with rfl | rfl | rfl | rfl <;> omega
      have hsl : ∀ wx, (Instr.slice 28 (.slice A4 (8 / wd * 2) c4) none (some (.int .i64 (v : Int))) none).run Try.prog wx = .ok (.slice A4 v c4) wx := fun wx =>
        run_slice_0v 28 3 Try.underlying28 (by kernel_rfl) A4 _ c4 v (by omega) .i64 wx
      have hrd : Rd w4.drew w4.drew.heap.size .u8 A b := hr4.more (by show _ ≤ w4.heap.size; omega)
      have hOf := rof_any b A L c wd w4.drew hw hL (by omega) hb hrd
      have hTl : (D.take v).length = v := by rw [List.length_take, ← hD, HDL.out]; omega
      have hcat : digL b wd ++ D.take v = allL b wd v i := by rw [← hD]; rfl
      have hmx : (1000000 : Nat) ≤ maxLen := by decide
      have hR5 : Rd w4.drew w4.drew.heap.size .i64 A4 (D.take v) := hR4.take_ v
      have hlen2 : (digL b wd).length + (D.take v).length ≤ 1000000 := by rw [hTl, digL_len, hL]; rcases hw with rfl | rfl | rfl | rfl <;> omega
      have HD2 := Lib.hid hD
      have HC := Lib.hid hcat
      have HT := Lib.hid hTl
      have hs04 : w.heap.size ≤ w4.heap.size := hB04.size
      clear hD hcat hrd hr4 hO4 hR4 hTl hb1 hb2 hbE hb4 hOfE hw1 hw2 hr2 hs3 hltI hlt2
      go_wp2_with fail
      go_region_law (first | (go_simp; (with_reducible refine hOf.mono ?_); rintro e w5 ⟨A5, c5, rfl, hO5, hb5⟩; have hR6 := hR5.below hb5; have hs5 := hb5.size) | (refine step_append_nums (by rfl) _ _ 28 3 .i64 8 (by rfl) Try.underlying28 inf_int hO5 hR6 (by rfl) (by rfl) HT.out (by omega) (by omega) (by omega) ?_; intro A6 c6 w6 hO6 hg6 hf6))
      have hs45 : w4.heap.size ≤ w5.heap.size := hs5
      have hK5 : Kept w.heap.size (fun _ => False) w w5 := Kept.of_below (hB04.trans ((show Below w4.heap.size w4 w5 from ⟨hb5.os, hb5.tape, hb5.output, hb5.size, hb5.block⟩).mono hs04))
      have hK6 := hK5.grew hO5 hg6 (by show _ ≤ w4.heap.size; exact hs04) (by omega)
      have hO7 := hO6.low (b' := w.heap.size) hs04
      rw [HC.out] at hO7
      have hNe : (digL b wd).length + min v D.length = (allL b wd v i).length := by rw [← HC.out, List.length_append, List.length_take]
      have hNf : (digL b wd).length + (D.take v).length = (allL b wd v i).length := by rw [← HC.out, List.length_append]
      rw [hNf] at hO7
      rw [hNe]
      clear hO6 hg6 hf6 hO5 hb5 hR6 hs5 hOf hsl hNe hNf
      go_wp2_with fail
      go_ret
      exact ⟨A6, c6, rfl, hO7, hK6.below⟩

end Go.Proofs.Ytigedohalangbaa
