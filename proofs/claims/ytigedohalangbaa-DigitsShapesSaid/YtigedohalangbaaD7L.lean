/- DigitsBoth, walked. Conditions: the texts read as bytes. -/
import Derived.Test.YtigedohalangbaaD7K
import Derived.Laws.Cover1
namespace Go.Proofs.Ytigedohalangbaa
open Go.RowKit
set_option linter.unusedVariables false
set_option linter.unusedSimpArgs false

def sameN (l m : List Int) : Nat → Bool
  | 0 => true
  | i + 1 => sameN l m i && (gt l i == gt m i)
def lessN (l m : List Int) : Nat → Bool
  | 0 => false
  | i + 1 => lessN l m i || decide (gt l i < gt m i)
theorem sameN_iff (l m : List Int) : ∀ n, sameN l m n = true ↔ ∀ i, i < n → gt l i = gt m i
  | 0 => by simp [sameN]
  | n + 1 => by
    rw [sameN, Bool.and_eq_true, sameN_iff l m n, beq_iff_eq]
    refine ⟨fun ⟨h1, h2⟩ i hi => ?_, fun h => ⟨fun i hi => h i (by omega), h n (by omega)⟩⟩
    rcases Nat.lt_or_ge i n with h | h
    · exact h1 i h
    · rw [show i = n by omega]; exact h2
theorem lessN_iff (l m : List Int) : ∀ n, lessN l m n = true ↔ ∃ i, i < n ∧ gt l i < gt m i
  | 0 => by simp [lessN]
  | n + 1 => by
    rw [lessN, Bool.or_eq_true, lessN_iff l m n, decide_eq_true_iff]
    constructor
    · rintro (⟨i, hi, h⟩ | h)
      · exact ⟨i, by omega, h⟩
      · exact ⟨n, by omega, h⟩
    · rintro ⟨i, hi, h⟩
      rcases Nat.lt_or_ge i n with h2 | h2
      · exact .inl ⟨i, h2, h⟩
      · rw [show n = i by omega]; exact .inr h
theorem both_bool (a b : List Int) (n wd s N : Nat) (hn : a.length = n) (hm : b.length = n) (h1 : 1 ≤ n) (h64 : n ≤ 64) (ha : Bys a) (hb : Bys b) (hw : IsW wd) (hs : wd * vOf n wd + s = 16) (hN : 8 / wd * n + vOf n wd = N) :
    lessN (allL a wd (vOf n wd) s) (allL b wd (vOf n wd) s) N = !sameN a b n ∧ lessN (allL b wd (vOf n wd) s) (allL a wd (vOf n wd) s) N = !sameN a b n := by
  by_cases h : a = b
  · subst h
    have e : sameN a a n = true := (sameN_iff a a n).2 fun i _ => rfl
    rw [e]
    have f : ∀ X : List Int, lessN X X N = false := fun X => by
      cases hh : lessN X X N with
      | false => rfl
      | true => obtain ⟨i, _, hi⟩ := (lessN_iff X X N).1 hh; omega
    exact ⟨f _, f _⟩
  · have e : sameN a b n = false := by
      cases hh : sameN a b n with
      | false => rfl
      | true => exact absurd (ext_gt a b (by omega) (fun i hi => (sameN_iff a b n).1 hh i (by omega))) h
    rw [e]
    have hLa := lackOf_lt a wd hw (by omega) (by omega) s (by rw [hn]; exact hs)
    have hLb := lackOf_lt b wd hw (by omega) (by omega) s (by rw [hm]; exact hs)
    obtain ⟨⟨i, hi, h5⟩, k, hk, h6⟩ := both7 a b (by omega) ha hb wd (vOf n wd) s hw hs hLa hLb h
    rw [hn, hN] at hi hk
    exact ⟨(lessN_iff _ _ _).2 ⟨i, hi, h5⟩, (lessN_iff _ _ _).2 ⟨k, hk, h6⟩⟩

section
variable {P : Program}
theorem wpList_min3_nat {w : World} {ops : Array Oper} {rest : List Oper} {o : Oper} {a : Act} {Q : Exit → Act → World → Prop} (hgd : o.guard = none) (x y z : Operand) (ts : Array TypeId)
    (ho : o.op = .call { callee := .builtin .min, args := #[x, y, z], argTypes := ts }) (p q r : Int) (hx : a.eval x = .int .i64 p) (hy : a.eval y = .int .i64 q) (hz : a.eval z = .int .i64 r) (t : Nat) (ht : (if r < (if q < p then q else p) then r else (if q < p then q else p)) = (t : Int))
    (h : wpList P ops Q rest (a.put o.dst (.int .i64 t)) w) : wpList P ops Q (o :: rest) a w := by
  refine wpList_plain hgd fun K hK => ?_
  unfold Oper.wp execOp
  simp only [ho, resolve, invoke, builtin, Sem.run_bind, Sem.run_pure, Result.andThen_ok, List.map_toArray, List.map_cons, List.map_nil, hx, hy, hz, run_min_int3, ht]
  exact hK _ _ h
end
theorem wid_pick (q : Nat) (h : q < 4) : ∃ wd : Nat, IsW wd ∧ gt [1, 2, 4, 8] q = (wd : Int) := by
  have : q = 0 ∨ q = 1 ∨ q = 2 ∨ q = 3 := by omega
  rcases this with rfl | rfl | rfl | rfl
  · exact ⟨1, .inl rfl, rfl⟩
  · exact ⟨2, .inr (.inl rfl), rfl⟩
  · exact ⟨4, .inr (.inr (.inl rfl)), rfl⟩
  · exact ⟨8, .inr (.inr (.inr rfl)), rfl⟩

set_option maxRecDepth 100000 in
set_option maxHeartbeats 1000000 in
theorem both7_walk (l m : List Int) (A B : Option Addr) (c d : Nat) (x : Int) (w : World) (hr : Rd w w.heap.size .u8 A l) (hr' : Rd w w.heap.size .u8 B m) (hlc : l.length ≤ c) (hmd : m.length ≤ d) (hc : c ≤ 9223372036854775807) (hd : d ≤ 9223372036854775807) (hby : Bys l) (hby' : Bys m) (hx : B8 x) :
    Calls Try.prog 4 #[.slice A l.length c, .slice B m.length d, .int .u8 x] w fun e w' => e = .returned (.bool true) ∧ Below w.heap.size w w' := by
  obtain ⟨x, rfl⟩ : ∃ n : Nat, x = n := ⟨x.toNat, by have := hx.1; omega⟩
  have hx1 : (x : Int) < 256 := hx.2
  obtain ⟨n, hn⟩ : ∃ n, min (min l.length m.length) 64 = n := ⟨_, rfl⟩
  have hnI : (if (64 : Int) < (if (m.length : Int) < (l.length : Int) then (m.length : Int) else (l.length : Int)) then (64 : Int) else (if (m.length : Int) < (l.length : Int) then (m.length : Int) else (l.length : Int))) = (n : Int) := by
    rw [← hn]; repeat' split
    all_goals omega
  have hnl : n ≤ l.length := by omega
  have hnm : n ≤ m.length := by omega
  have hn64 : n ≤ 64 := by omega
  have HNI := Lib.hid hnI
  clear hnI hn
  go_enter Try.func4, Try.ntmps4
  go_wp2_with fail
  (with_reducible refine (awake7_any w).mono ?_)
  rintro e w1 ⟨rfl, hb1⟩
  have hr1 := hr.below hb1
  have hr1' := hr'.below hb1
  have hs1 := hb1.size
  by_cases h0 : n = 0
  · have h0I : ((n : Int) == 0) = true := by simp [h0]
    clear h0
    go_wp2_with (refine wpList_min3_nat (o := ⟨some 22, _, _, _, _, _⟩) rfl _ _ _ _ rfl _ _ _ rfl rfl rfl n HNI.out ?_)
    go_ret
    exact ⟨rfl, hb1⟩
  · have h0I : ((n : Int) == 0) = false := by simp [h0]
    have h1n : 1 ≤ n := by omega
    obtain ⟨q, hq⟩ : ∃ q, x % 4 = q := ⟨_, rfl⟩
    have hq4 : q < 4 := by omega
    have hqI : ((x : Int) % 4) = (q : Int) := by omega
    obtain ⟨wd, hw, hwd⟩ := wid_pick q hq4
    have hW4 : Arr (w1.alloc (.cells #[.int .i64 1, .int .i64 2, .int .i64 4, .int .i64 8] 3)) w1.heap.size 3 .i64 [1, 2, 4, 8] := Arr.new w1 3 .i64 [1, 2, 4, 8]
    have hcl := hW4.cell q hq4
    rw [hwd] at hcl
    have hK2 : Below w.heap.size w (w1.alloc (.cells #[.int .i64 1, .int .i64 2, .int .i64 4, .int .i64 8] 3)) := hb1.alloc hs1 _
    have hs2 : w.heap.size ≤ (w1.alloc (.cells #[.int .i64 1, .int .i64 2, .int .i64 4, .int .i64 8] 3)).heap.size := hK2.size
    have hslA : ∀ wx, (Instr.slice 22 (.slice A l.length c) none (some (.int .i64 (n : Int))) none).run Try.prog wx = .ok (.slice A n c) wx := fun wx =>
      run_slice_0v 22 5 Try.underlying22 (by kernel_rfl) A _ c n (by omega) .i64 wx
    have hslB : ∀ wx, (Instr.slice 22 (.slice B m.length d) none (some (.int .i64 (n : Int))) none).run Try.prog wx = .ok (.slice B n d) wx := fun wx =>
      run_slice_0v 22 5 Try.underlying22 (by kernel_rfl) B _ d n (by omega) .i64 wx
    clear h0 hwd hq hW4
    go_wp2_with (refine wpList_min3_nat (o := ⟨some 22, _, _, _, _, _⟩) rfl _ _ _ _ rfl _ _ _ rfl rfl rfl n HNI.out ?_)
    obtain ⟨w2, hw2⟩ : ∃ w2, w1.alloc (.cells #[.int .i64 1, .int .i64 2, .int .i64 4, .int .i64 8] 3) = w2 := ⟨_, rfl⟩
    rw [hw2] at hK2 hs2 ⊢
    clear hw2 hcl
    obtain ⟨a, ha⟩ : ∃ a, l.take n = a := ⟨_, rfl⟩
    obtain ⟨b, hb⟩ : ∃ b, m.take n = b := ⟨_, rfl⟩
    have hal : a.length = n := by rw [← ha, List.length_take]; omega
    have hbl : b.length = n := by rw [← hb, List.length_take]; omega
    have haB : Bys a := by rw [← ha]; exact hby.take n
    have hbB : Bys b := by rw [← hb]; exact hby'.take n
    have hra : Rd w w.heap.size .u8 A a := by rw [← ha]; exact hr.take_ n
    have hrb : Rd w w.heap.size .u8 B b := by rw [← hb]; exact hr'.take_ n
    have hok := shape_ok wd hw n hn64 h1n
    obtain ⟨s, hs⟩ : ∃ s, wd * vOf n wd + s = 16 := ⟨16 - wd * vOf n wd, by omega⟩
    obtain ⟨N, hN⟩ : ∃ N, 8 / wd * n + vOf n wd = N := ⟨_, rfl⟩
    have hfin := both_bool a b n wd s N hal hbl h1n hn64 haB hbB hw hs hN
    have hAll := fun W => all_any a A n c wd s W hw hal h1n hn64 haB
    have hBll := fun W => all_any b B n d wd s W hw hbl h1n hn64 hbB
    have hXl := allL_len a wd (vOf n wd) s (by rcases hw with rfl | rfl | rfl | rfl <;> omega)
    have hYl := allL_len b wd (vOf n wd) s (by rcases hw with rfl | rfl | rfl | rfl <;> omega)
    rw [hal, hN] at hXl
    rw [hbl, hN] at hYl
    have hN1 : 1 ≤ N := by omega
    have hN2 : N ≤ 100000 := by
      have := hok.2.2.1
      rcases hw with rfl | rfl | rfl | rfl <;> omega
    obtain ⟨X, hX⟩ : ∃ X, allL a wd (vOf n wd) s = X := ⟨_, rfl⟩
    obtain ⟨Y, hY⟩ : ∃ Y, allL b wd (vOf n wd) s = Y := ⟨_, rfl⟩
    unfold OfPost at hAll hBll
    rw [hX] at hfin hXl hAll
    rw [hY] at hfin hYl hBll
    rw [hXl] at hAll
    rw [hYl] at hBll
    have HFIN := Lib.hid hfin
    have HALL := Lib.hid hAll
    have HBLL := Lib.hid hBll
    have HXL := Lib.hid hXl
    have HYL := Lib.hid hYl
    have HAL := Lib.hid hal
    have HBL := Lib.hid hbl
    have HS := Lib.hid hs
    clear hfin hAll hBll hXl hYl hX hY hal hbl hs hN hok ha hb hr1 hr1' hb1
    (with_reducible refine (HALL.out w2 ((hra.below hK2).more hs2) HS.out).mono ?_)
    rintro e w3 ⟨A3, c3, rfl, hO3, hb3⟩
    have hK3 : Below w.heap.size w w3 := hK2.trans (hb3.mono hs2)
    have hR3 := hO3.rd
    have hs3 := hK3.size
    clear hO3 hb3
    go_wp2_with fail
    (with_reducible refine (HBLL.out w3 ((hrb.below hK3).more hs3) HS.out).mono ?_)
    rintro e w4 ⟨A4, c4, rfl, hO4, hb4⟩
    have hK4 : Below w.heap.size w w4 := hK3.trans (hb4.mono hs3)
    have hR4 := hO4.rd
    have hR3' := (hR3.below hb4).more hb4.size
    have hs4 := hK4.size
    have hra4 := hra.below hK4
    have hrb4 := hrb.below hK4
    clear hO4 hb4 hR3 hslA hslB hqI hq4
    go_wp2_with fail
    go_loopg [11, 12] n (fun g s11 s12 wr => ∃ j : Nat, s12 = .int .i64 j ∧ g = n - j ∧ j ≤ n ∧ s11 = .bool (sameN a b j) ∧ ∃ q, wr = w4.drewN q)
    case atStart => exact ⟨0, rfl, rfl, Nat.zero_le _, rfl, 0, rfl⟩
    case round =>
      obtain ⟨j, rfl, hg, hj, rfl, q, rfl⟩ := hrel
      have HG := Lib.hid hg
      clear hg
      by_cases hlt : j < n
      · have hltI : (j : Int) < (n : Int) := by omega
        have hltA : (j : Int) < (l.length : Int) := by omega
        have hltB : (j : Int) < (m.length : Int) := by omega
        obtain ⟨a0, rfl, _, hca⟩ := hra4.at_ (i := j) (by have := HAL.out; omega)
        obtain ⟨b0, rfl, _, hcb⟩ := hrb4.at_ (i := j) (by have := HBL.out; omega)
        obtain ⟨y, hy⟩ : ∃ y, gt a j = y := ⟨_, rfl⟩
        obtain ⟨z, hz⟩ : ∃ z, gt b j = z := ⟨_, rfl⟩
        rw [hy] at hca
        rw [hz] at hcb
        obtain ⟨sb, hsb⟩ : ∃ sb, sameN a b j = sb := ⟨_, rfl⟩
        have hnx : sameN a b (j + 1) = (sb && (y == z)) := by rw [sameN, hsb, hy, hz]
        rw [hsb]
        have HNX := Lib.hid hnx
        clear hy hz hsb hnx
        cases sb with
        | false =>
          clear hca hcb
          go_wp2_with fail
          go_quiet (fail)
          go_wp2_with fail
          go_roundg (n - (j + 1))
          case measure => have := HG.out; omega
          case rel => exact ⟨j + 1, by go_num, rfl, by omega, by rw [HNX.out]; rfl, _, rfl⟩
        | true =>
          go_wp2_with fail
          go_quiet (fail)
          go_wp2_with fail
          go_roundg (n - (j + 1))
          case measure => have := HG.out; omega
          case rel => exact ⟨j + 1, by go_num, rfl, by omega, by rw [HNX.out]; rfl, _, rfl⟩
      · have hltI : ¬ (j : Int) < (n : Int) := by omega
        obtain rfl : j = n := by omega
        obtain ⟨sb, hsb⟩ : ∃ sb, sameN a b j = sb := ⟨_, rfl⟩
        have hf1 := HFIN.out.1
        have hf2 := HFIN.out.2
        rw [hsb] at hf1 hf2 ⊢
        have HF1 := Lib.hid hf1
        have HF2 := Lib.hid hf2
        have hK5 : Below w.heap.size w (w4.drewN q) := ((Kept.of_below (S := fun _ => False) hK4).drewN q).below
        have hR5 := hR3'.drewN q
        have hR6 := hR4.drewN q
        generalize w4.drewN q = w5 at hK5 hR5 hR6 ⊢
        clear hsb hf1 hf2 hR3' hR4 hK4 hK3 hK2 hra4 hrb4 hra hrb HAL HBL HFIN h0I
        go_wp2_with fail
        go_loopg [13, 14, 15] N (fun g s13 s14 s15 wr => ∃ i : Nat, s15 = .int .i64 i ∧ g = N - i ∧ i ≤ N ∧ s13 = .bool (lessN X Y i) ∧ s14 = .bool (lessN Y X i) ∧ ∃ q, wr = w5.drewN q)
        case atStart => exact ⟨0, rfl, rfl, Nat.zero_le _, rfl, rfl, 0, rfl⟩
        case round =>
          obtain ⟨i, rfl, hg, hi, rfl, rfl, q2, rfl⟩ := hrel
          have HG2 := Lib.hid hg
          clear hg
          by_cases hli : i < N
          · have hliI : (i : Int) < (N : Int) := by omega
            obtain ⟨a0, rfl, _, hca⟩ := hR5.at_ (i := i) (by have := HXL.out; omega)
            obtain ⟨b0, rfl, _, hcb⟩ := hR6.at_ (i := i) (by have := HYL.out; omega)
            obtain ⟨y, hy⟩ : ∃ y, gt X i = y := ⟨_, rfl⟩
            obtain ⟨z, hz⟩ : ∃ z, gt Y i = z := ⟨_, rfl⟩
            rw [hy] at hca
            rw [hz] at hcb
            obtain ⟨lb, hlb⟩ : ∃ lb, lessN X Y i = lb := ⟨_, rfl⟩
            obtain ⟨mb, hmb⟩ : ∃ mb, lessN Y X i = mb := ⟨_, rfl⟩
            have hn1 : lessN X Y (i + 1) = (lb || decide (y < z)) := by rw [lessN, hlb, hy, hz]
            have hn2 : lessN Y X (i + 1) = (mb || decide (z < y)) := by rw [lessN, hmb, hy, hz]
            rw [hlb, hmb]
            have HN1 := Lib.hid hn1
            have HN2 := Lib.hid hn2
            clear hy hz hlb hmb hn1 hn2
            cases lb <;> cases mb
            all_goals
              go_wp2_with fail
              go_quiet (fail)
              go_wp2_with fail
              go_quiet (fail)
              go_wp2_with fail
              go_roundg (N - (i + 1))
              case measure => have := HG2.out; omega
              case rel => exact ⟨i + 1, by go_num, rfl, by omega, by rw [HN1.out]; simp, by rw [HN2.out]; simp, _, rfl⟩
          · have hliI : ¬ (i : Int) < (N : Int) := by omega
            obtain rfl : i = N := by omega
            have hN0 : ((i : Int) == 0) = false := by rw [beq_eq_false_iff_ne]; omega
            rw [HF1.out, HF2.out]
            have hK6 : Below w.heap.size w (w5.drewN q2) := ((Kept.of_below (S := fun _ => False) hK5).drewN q2).below
            generalize w5.drewN q2 = w6 at hK6 ⊢
            cases sb
            all_goals
              go_wp2_with fail
              go_ret
              exact ⟨rfl, hK6⟩

end Go.Proofs.Ytigedohalangbaa
