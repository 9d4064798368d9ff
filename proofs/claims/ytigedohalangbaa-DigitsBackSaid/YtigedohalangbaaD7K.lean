/- DigitsTell, walked. Conditions: the text reads as bytes. -/
import Derived.Test.YtigedohalangbaaD7J
namespace Go.Proofs.Ytigedohalangbaa
open Go.RowKit
set_option linter.unusedVariables false
set_option linter.unusedSimpArgs false

theorem may_isW {wd : Int} (h : mayB wd = true) : ∃ k : Nat, wd = k ∧ IsW k := by
  have h : wd = 1 ∨ wd = 2 ∨ wd = 4 ∨ wd = 8 := by simpa [mayB] using h
  rcases h with rfl | rfl | rfl | rfl
  · exact ⟨1, rfl, .inl rfl⟩
  · exact ⟨2, rfl, .inr (.inl rfl)⟩
  · exact ⟨4, rfl, .inr (.inr (.inl rfl))⟩
  · exact ⟨8, rfl, .inr (.inr (.inr rfl))⟩
theorem shape_both (n wd : Int) : ∃ x y z : Int, ∀ W, Calls Try.prog 14 #[.int .i64 n, .int .i64 wd] W (fun e W' => e = .returned (.tuple #[.int .i64 x, .int .i64 y, .int .i64 z]) ∧ Below W.heap.size W W') ∧
    Calls Try.prog 15 #[.int .i64 n, .int .i64 wd] W (fun e W' => e = .returned (.tuple #[.int .i64 x, .int .i64 y, .int .i64 z]) ∧ Below W.heap.size W W') := by
  by_cases h : n < 1 ∨ 64 < n ∨ mayB wd = false
  · refine ⟨0, 0, 0, fun W => ⟨shape_none n wd W h, (rshape_none n wd W h).mono ?_⟩⟩
    rintro e w' ⟨rfl, rfl⟩
    exact ⟨rfl, Below.refl _ _⟩
  · have hm : mayB wd = true := by
      cases hh : mayB wd with
      | true => rfl
      | false => exact absurd (.inr (.inr hh)) h
    obtain ⟨k, rfl, hk⟩ := may_isW hm
    obtain ⟨m, rfl⟩ : ∃ m : Nat, n = m := ⟨n.toNat, by omega⟩
    exact ⟨_, _, _, fun W => ⟨shape_any m k W hk (by omega) (by omega), rshape_any m k W hk (by omega) (by omega)⟩⟩
theorem of_both (b : List Int) (L : Nat) (wd : Int) (hL : b.length = L) (hL2 : L ≤ 1000000) (hb : Bys b) : ∃ l : List Int, l.length ≤ 8000000 ∧ ∀ W A c, Rd W W.heap.size .u8 A b →
    Calls Try.prog 19 #[.slice A L c, .int .i64 wd] W (OfPost W l) ∧ Calls Try.prog 20 #[.slice A L c, .int .i64 wd] W (OfPost W l) := by
  cases hm : mayB wd with
  | false => exact ⟨[], by simp, fun W A c hr => ⟨of_none A L c wd W hm, rof_none A L c wd W hm⟩⟩
  | true =>
    obtain ⟨k, rfl, hk⟩ := may_isW hm
    exact ⟨digL b k, by rw [digL_len, hL]; rcases hk with rfl | rfl | rfl | rfl <;> omega, fun W A c hr => ⟨of_any b A L c k W hk hL hL2 hb hr, rof_any b A L c k W hk hL hL2 hb hr⟩⟩
theorem lack_both (b : List Int) (L : Nat) (wd : Int) (hL : b.length = L) (hL2 : L ≤ 1000000) (hb : Bys b) : ∃ x : Int, ∀ W A c, Rd W W.heap.size .u8 A b →
    Calls Try.prog 21 #[.slice A L c, .int .i64 wd] W (fun e W' => e = .returned (.int .i64 x) ∧ Below W.heap.size W W') ∧ Calls Try.prog 22 #[.slice A L c, .int .i64 wd] W (fun e W' => e = .returned (.int .i64 x) ∧ Below W.heap.size W W') := by
  cases hm : mayB wd with
  | false => exact ⟨0, fun W A c hr => ⟨lack_none A L c wd W hm, rlack_none A L c wd W hm⟩⟩
  | true =>
    obtain ⟨k, rfl, hk⟩ := may_isW hm
    exact ⟨_, fun W A c hr => ⟨lack_any b A L c k W hk hL hL2 hb hr, rlack_any b A L c k W hk hL hL2 hb hr⟩⟩
theorem all_both (b : List Int) (L : Nat) (wd : Int) (hL : b.length = L) (hL2 : L ≤ 1000000) (hb : Bys b) : ∃ l : List Int, l.length ≤ 8000000 ∧ ∀ W A c, Rd W W.heap.size .u8 A b →
    Calls Try.prog 23 #[.slice A L c, .int .i64 wd] W (OfPost W l) ∧ Calls Try.prog 24 #[.slice A L c, .int .i64 wd] W (OfPost W l) := by
  by_cases h : (L : Int) < 1 ∨ 64 < (L : Int) ∨ mayB wd = false
  · exact ⟨[], by simp, fun W A c hr => ⟨all_none b A L c wd W h, rall_none b A L c wd W h⟩⟩
  · have hm : mayB wd = true := by
      cases hh : mayB wd with
      | true => rfl
      | false => exact absurd (.inr (.inr hh)) h
    obtain ⟨k, rfl, hk⟩ := may_isW hm
    have hok := shape_ok k hk L (by omega) (by omega)
    obtain ⟨s, hs⟩ : ∃ s, k * vOf L k + s = 16 := ⟨16 - k * vOf L k, by omega⟩
    refine ⟨allL b k (vOf L k) s, ?_, fun W A c hr => ⟨all_any b A L c k s W hk hL (by omega) (by omega) hb hr hs, rall_any b A L c k s W hk hL (by omega) (by omega) hb hr hs⟩⟩
    rw [allL_len _ _ _ _ (by rcases hk with rfl | rfl | rfl | rfl <;> omega), hL]
    rcases hk with rfl | rfl | rfl | rfl <;> omega

set_option maxRecDepth 100000 in
set_option maxHeartbeats 1000000 in
theorem tell7_walk (l : List Int) (A : Option Addr) (c : Nat) (wd n : Int) (w : World) (hr : Rd w w.heap.size .u8 A l) (hlc : l.length ≤ c) (hc : c ≤ 9223372036854775807) (hby : Bys l) :
    Calls Try.prog 3 #[.slice A l.length c, .int .i64 wd, .int .i64 n] w fun e w' => e = .returned (.bool true) ∧ Below w.heap.size w w' := by
  go_enter Try.func3, Try.ntmps3
  go_wp2_with fail
  (with_reducible refine (awake7_any w).mono ?_)
  rintro e w1 ⟨rfl, hb1⟩
  have hr1 := hr.below hb1
  have hs1 := hb1.size
  obtain ⟨L, hL⟩ : ∃ L, l.length = L := ⟨_, rfl⟩
  rw [hL] at hlc ⊢
  by_cases h3 : 2000 < L
  · have h3I : (L : Int) > 2000 := by omega
    go_wp2_with fail
    go_ret
    exact ⟨rfl, hb1⟩
  · have h3I : ¬ (L : Int) > 2000 := by omega
    have hmx : (200000000 : Nat) ≤ maxLen := by decide
    have hLL : L ≤ 2000 := by omega
    obtain ⟨sx, sy, sz, hSh⟩ := shape_both n wd
    obtain ⟨lo, hlo, hOf⟩ := of_both l L wd hL (by omega) hby
    obtain ⟨xl, hLk⟩ := lack_both l L wd hL (by omega) hby
    obtain ⟨la, hla, hAl⟩ := all_both l L wd hL (by omega) hby
    obtain ⟨mb, hmb⟩ : ∃ b, mayB wd = b := ⟨_, rfl⟩
    have HSH := Lib.hid hSh
    have HOF := Lib.hid hOf
    have HLK := Lib.hid hLk
    have HAL := Lib.hid hAl
    have HMB := Lib.hid hmb
    have HL := Lib.hid hL
    have hOe := Proofs.Ytigedohalangbaa.Own.lit (b := w1.heap.size) (e := 5) (k := .u8) w1 [] (by omega) (Nat.zero_le _)
    have hRe := (hr1.more hs1).alloc (Nat.le_refl _) (.cells #[] 5)
    have hKe : Kept w1.heap.size (fun _ => False) w1 (w1.alloc (.cells #[] 5)) := (Kept.refl _ _ _).alloc _ (Nat.le_refl _)
    clear hSh hOf hLk hAl hmb hL h3 h3I
    go_wp2_with (at_builtin; (refine wpList_app rfl _ _ 22 5 .u8 1 rfl Try.underlying22 inf_u8 hOe hRe rfl rfl HL.out l rfl L HL.out (by omega) (by omega) (by simp) ?_; intro Aa ca wa hOa hga hfa))
    have hKa := hKe.grew hOe hga (by omega) (by simp)
    have hsa := hKa.size
    have hK0 := ((Kept.of_below (S := fun _ => False) hb1).trans (S' := fun _ => False) hKa hs1 (fun _ _ h => h)).below
    have hRa := hOa.rd
    have hs0 := hK0.size
    clear hOe hRe hKe hga hfa hKa hb1 hr1 hOa
    have hrA : Rd wa wa.heap.size .u8 A l := (hr.below hK0).more hs0
    have hK1 : Below wa.heap.size wa wa := Below.refl _ _
    have RA : ∀ W, Below wa.heap.size wa W → Rd W W.heap.size .u8 Aa l := fun W h => (hRa.below h).more h.size
    have RB : ∀ W, Below wa.heap.size wa W → Rd W W.heap.size .u8 A l := fun W h => (hrA.below h).more h.size
    have HRA := Lib.hid RA
    have HRB := Lib.hid RB
    clear RA RB
    (with_reducible refine (HSH.out wa).1.mono ?_)
    rintro e w2 ⟨rfl, hb⟩
    have hK2 : Below wa.heap.size wa w2 := hK1.trans (hb.mono hK1.size)
    clear hb
    go_wp2_with fail
    (with_reducible refine (HSH.out w2).2.mono ?_)
    rintro e w3 ⟨rfl, hb⟩
    have hK3 : Below wa.heap.size wa w3 := hK2.trans (hb.mono hK2.size)
    clear hb
    go_wp2_with fail
    (with_reducible refine (may_any mb wd w3 HMB.out).mono ?_)
    rintro e w4 ⟨rfl, hb⟩
    have hK4 : Below wa.heap.size wa w4 := hK3.trans (hb.mono hK3.size)
    clear hb
    go_wp2_with fail
    (with_reducible refine (rmay_any mb wd w4 HMB.out).mono ?_)
    rintro e w5 ⟨rfl, rfl⟩
    go_wp2_with fail
    (with_reducible refine (HOF.out w4 Aa ca (HRA.out w4 hK4)).1.mono ?_)
    rintro e w5 ⟨A5, c5, rfl, hO5, hb⟩
    have hK5 : Below wa.heap.size wa w5 := hK4.trans (hb.mono hK4.size)
    have hR5 := hO5.rd
    clear hb hO5
    go_wp2_with fail
    (with_reducible refine (HOF.out w5 A c (HRB.out w5 hK5)).2.mono ?_)
    rintro e w6 ⟨A6, c6, rfl, hO6, hb⟩
    have hK6 : Below wa.heap.size wa w6 := hK5.trans (hb.mono hK5.size)
    have hR6 := hO6.rd
    have hR56 := hR5.below hb
    clear hb hO6 hR5
    go_wp2_with fail
    (with_reducible refine (ints_true w6 A5 A6 lo lo.length c5 c6 _ _ hR56 hR6 rfl (by omega)).mono ?_)
    rintro e w7 ⟨rfl, q7, rfl⟩
    have hK7 : Below wa.heap.size wa (w6.drewN q7) := ((Kept.of_below (S := fun _ => False) hK6).drewN q7).below
    clear hR56 hR6 hK6
    generalize w6.drewN q7 = w7 at hK7 ⊢
    go_wp2_with fail
    (with_reducible refine (HLK.out w7 Aa ca (HRA.out w7 hK7)).1.mono ?_)
    rintro e w8 ⟨rfl, hb⟩
    have hK8 : Below wa.heap.size wa w8 := hK7.trans (hb.mono hK7.size)
    clear hb
    go_wp2_with fail
    (with_reducible refine (HLK.out w8 A c (HRB.out w8 hK8)).2.mono ?_)
    rintro e w9 ⟨rfl, hb⟩
    have hK9 : Below wa.heap.size wa w9 := hK8.trans (hb.mono hK8.size)
    clear hb
    go_wp2_with fail
    (with_reducible refine (HAL.out w9 Aa ca (HRA.out w9 hK9)).1.mono ?_)
    rintro e wA ⟨A7, c7, rfl, hO5, hb⟩
    have hKA : Below wa.heap.size wa wA := hK9.trans (hb.mono hK9.size)
    have hR5 := hO5.rd
    clear hb hO5
    go_wp2_with fail
    (with_reducible refine (HAL.out wA A c (HRB.out wA hKA)).2.mono ?_)
    rintro e wB ⟨A8, c8, rfl, hO6, hb⟩
    have hKB : Below wa.heap.size wa wB := hKA.trans (hb.mono hKA.size)
    have hR6 := hO6.rd
    have hR56 := hR5.below hb
    clear hb hO6 hR5
    go_wp2_with fail
    (with_reducible refine (ints_true wB A7 A8 la la.length c7 c8 _ _ hR56 hR6 rfl (by omega)).mono ?_)
    rintro e wC ⟨rfl, qC, rfl⟩
    have hKC : Below wa.heap.size wa (wB.drewN qC) := ((Kept.of_below (S := fun _ => False) hKB).drewN qC).below
    clear hR56 hR6 hKB
    generalize wB.drewN qC = wC at hKC ⊢
    clear hK1 hK2 hK3 hK4 hK5 hK7 hK8 hK9 hKA
    go_wp2_with fail
    go_loopg [14] L (fun g s14 wr => ∃ j : Nat, s14 = .int .i64 j ∧ g = L - j ∧ j ≤ L ∧ Below wa.heap.size wa wr)
    case atStart => exact ⟨0, rfl, rfl, Nat.zero_le _, hKC⟩
    case round =>
      clear hKC
      obtain ⟨j, rfl, hg, hj, hK⟩ := hrel
      have HG := Lib.hid hg
      clear hg
      by_cases hlt : j < L
      · have hltI : (j : Int) < (L : Int) := by omega
        obtain ⟨a, rfl, _, hca⟩ := (HRA.out wr hK).at_ (i := j) (by have := HL.out; omega)
        obtain ⟨a', rfl, _, hcb⟩ := (HRB.out wr hK).at_ (i := j) (by have := HL.out; omega)
        obtain ⟨y, hy⟩ : ∃ y, gt l j = y := ⟨_, rfl⟩
        rw [hy] at hca hcb
        clear hy
        go_wp2_with fail
        go_quiet (fail)
        go_wp2_with fail
        go_roundg (L - (j + 1))
        case measure => have := HG.out; omega
        case rel => exact ⟨j + 1, by go_num, rfl, by omega, ((Kept.of_below (S := fun _ => False) hK).drewN _).below⟩
      · have hltI : ¬ (j : Int) < (L : Int) := by omega
        have hbel : Below w.heap.size w wr := hK0.trans (hK.mono hs0)
        go_wp2_with fail
        go_ret
        exact ⟨rfl, hbel⟩

end Go.Proofs.Ytigedohalangbaa
