/- ShakeReads, walked. Conditions: the arguments read as bytes and numbers; the tables. -/
import Derived.Test.YtabpbnkipdjnlaaDoorShJ
import Derived.Test.YtabpbnkipdjnlaaDoorSl
namespace Go.Proofs.YtabpbnkipdjnlaaDoor
open Go.RowKit
set_option linter.unusedVariables false
set_option linter.unusedSimpArgs false

theorem same_true2 (w : World) (A A' : Option Addr) (l : List Int) (n n' c c' B B' : Nat) (hA : Rd w B .u8 A l) (hB : Rd w B' .u8 A' l) (hn : l.length = n) (hn' : l.length = n') (hm : n ≤ 9223372036854775807) :
    Calls Tryd.prog 24 #[.slice A n c, .slice A' n' c'] w fun e w' => e = .returned (.bool true) ∧ ∃ q, w' = w.drewN q := by
  subst hn'
  subst hn
  exact same_true w A A' l l.length c c' B B' hA hB rfl hm
/-- A reader of a text's row, at some place. -/
def RdAt (w : World) (S : List Int) (g p : Nat) (ok : Nat → Prop) : Prop := ∃ s rest A c rb, At S p s rest ∧ Rdr w 61 g rb s rest A c ∧ ok rb
/-- Between the rounds: two readers, at g and at o. -/
def RR (w0 : World) (S So : List Int) (g o len gk : Nat) (v v' : Value) (w : World) : Prop :=
  ∃ at_ i p : Nat, v = .int .i64 at_ ∧ v' = .int .i64 i ∧ i ≤ len ∧ at_ ≤ 2000 ∧ gk = len - i ∧ RdAt w S g at_ (fun r => r ≠ o) ∧ RdAt w So o p (fun r => r ≠ g) ∧ Kept w0.heap.size (fun k => k = g ∨ k = o) w0 w

set_option maxRecDepth 100000 in
set_option maxHeartbeats 2000000 in
theorem reads_walk (l z : List Int) (A A' : Option Addr) (c c' : Nat) (w : World) (hr : Rd w w.heap.size .u8 A l) (hlc : l.length ≤ c) (hc : c ≤ 9223372036854775807) (hA : A = none → c = 0) (hby : Bys l)
    (hz_ : Rd w w.heap.size .i64 A' z) (hzc : z.length ≤ c') (hc' : c' ≤ 9223372036854775807) (ht : KTab w) (hzb : ∀ i, -9223372036854775808 ≤ gt z i ∧ gt z i ≤ 9223372036854775807) :
    Calls Tryd.prog 8 #[.slice A l.length c, .slice A' z.length c'] w fun e w' => e = .returned (.bool true) ∧ Below w.heap.size w w' := by
  have hz := World.block_lt_of_cell? w _ (ht.2 0 (by decide))
  have hz0 := World.block_lt_of_cell? w _ (ht.1 0 (by decide))
  have hz2 : 1 < w.heap.size := hz
  have hz3 : 0 < w.heap.size := hz0
  have HZB := Lib.hid hzb
  clear hzb
  go_enter Tryd.func8, Tryd.ntmps8
  go_wp2_with fail
  (with_reducible refine (awake5_any w ht).mono ?_)
  rintro e w1 ⟨rfl, hb1⟩
  have hr1 := hr.below hb1
  have hzr1 := hz_.below hb1
  have ht1 := ht.below hb1 hz3 hz2
  have hs1 := hb1.size
  by_cases h3 : 1000 < l.length
  · have h3I : (1000 : Int) < l.length := by omega
    go_wp2_with fail
    go_ret
    exact ⟨rfl, hb1⟩
  · have h3I : ¬ (1000 : Int) < l.length := by omega
    by_cases h4 : 40 < z.length
    · have h4I : (40 : Int) < z.length := by omega
      go_wp2_with fail
      go_ret
      exact ⟨rfl, hb1⟩
    · have h4I : ¬ (40 : Int) < z.length := by omega
      go_wp2_with fail
      (with_reducible refine (sum_n l A l.length c w.heap.size 2000 w1 hr1 hs1 (by omega) hA ht1 hby (by omega) rfl 2000 rfl).mono ?_)
      rintro e w2 ⟨Ax, cx, rfl, hOx, hb2⟩
      have hr2 := hr1.below (hb2.mono hs1)
      have hzr2 := hzr1.below (hb2.mono hs1)
      have hs2 := hb2.size
      have ht2 := ht1.below hb2 (by omega) (by omega)
      go_wp2_with fail
      (with_reducible refine (new_n l A l.length c w.heap.size w2 hr2 (by omega) (by omega) hA ht2 hby rfl).mono ?_)
      rintro e w3 ⟨g, rb3, A3, c3, rfl, hg3, hrb3, hR3, hb3⟩
      have hr3 := hr2.below (hb3.mono (by omega))
      have hzr3 := hzr2.below (hb3.mono (by omega))
      have hs3 := hb3.size
      have ht3 := ht2.below hb3 (by omega) (by omega)
      have hOx3 := hOx.below hb3 (Nat.le_refl _)
      have hgx : ∀ q, (Value.slice Ax 2000 cx).ownBlock = some q → q < w2.heap.size := fun q hq => (hOx.lt q hq).2
      go_wp2_with fail
      have hN4 := Rd.of_arr (B := w3.heap.size + 1) (Arr.new w3 5 .u8 [7]) (by omega)
      have hK4 : Below w3.heap.size w3 (w3.alloc (.cells (U .u8 [7]) 5)) := ((Kept.refl w3.heap.size (fun _ => False) w3).alloc _ (Nat.le_refl _)).below
      have hs4 : (w3.alloc (.cells (U .u8 [7]) 5)).heap.size = w3.heap.size + 1 := by simp
      have ht4 := ht3.below hK4 (by omega) (by omega)
      change Calls _ _ _ (w3.alloc (.cells (U .u8 [7]) 5)) _
      generalize w3.alloc (.cells (U .u8 [7]) 5) = w4 at hN4 hK4 hs4 ht4 ⊢
      (with_reducible refine (new_n [7] (some ⟨w3.heap.size, 0, none⟩) 1 1 (w3.heap.size + 1) w4 hN4 (by omega) (by decide) (fun h => by cases h) ht4 (by unfold Bys B8; decide) rfl).mono ?_)
      rintro e w5 ⟨o, rb5, A5, c5, rfl, hg5, hrb5, hR5, hb5⟩
      have hs5 := hb5.size
      have ht5 := ht4.below hb5 (by omega) (by omega)
      have hOx5 := (hOx3.below hK4 (Nat.le_refl _)).below hb5 (Nat.le_refl _)
      have hR35 := (hR3.below hK4).below hb5
      have hr5 := (hr3.below (hK4.mono (by omega))).below (hb5.mono (by omega))
      have hzr5 := (hzr3.below (hK4.mono (by omega))).below (hb5.mono (by omega))
      have hltg := hR3.two.lt
      have hltrb := hR3.lt
      have hlto := hR5.two.lt
      have hltrb5 := hR5.lt
      have hX5 : Kept w.heap.size (fun _ => False) w w5 := by
        have k1 := Kept.of_below (S := fun _ => False) hb1
        have k2 := k1.trans (S' := fun _ => False) (Kept.of_below hb2) (by omega) (fun _ _ h => h)
        have k3 := k2.trans (S' := fun _ => False) (Kept.of_below hb3) (by omega) (fun _ _ h => h)
        have k4 := k3.trans (S' := fun _ => False) (Kept.of_below hK4) (by omega) (fun _ _ h => h)
        exact k4.trans (S' := fun _ => False) (Kept.of_below hb5) (by omega) (fun _ _ h => h)
      have hog : g < o := by omega
      have hgw2 : w2.heap.size ≤ g := hg3
      clear hr1 hr2 hr3 hzr1 hzr2 hzr3 hOx hOx3 hR3 hN4 hK4 hb1 hb2 hb3 hb5 hr hz_
      go_wp2_with fail
      go_loopg [8, 9] z.length (fun gk v v' wr => RR w5 (newS l) (newS [7]) g o z.length gk v v' wr)
      case atStart => exact ⟨0, 0, 0, rfl, rfl, Nat.zero_le _, by omega, rfl, ⟨_, _, _, _, rb3, At.start _, hR35, by omega⟩, ⟨_, _, _, _, rb5, At.start _, hR5, by omega⟩, Kept.refl _ _ _⟩
      case round =>
        clear hR35 hR5
        obtain ⟨wq, rfl⟩ : ∃ wq : World, wq = wr := ⟨_, rfl⟩
        obtain ⟨at_, i, p, rfl, rfl, hi, hat, hgk, ⟨s, rest, Ar, cr, rb, hAt, hR, hrbo⟩, ⟨so, resto, Ao, co, rbo, hAto, hRo, hrbg⟩, hK⟩ := hrel
        have HGK := Lib.hid hgk
        have hsq := hK.size
        have hOxq : Own wq w1.heap.size 5 .u8 (.slice Ax 2000 cx) (seg (newS l) 0 2000) := hOx5.keep fun q hq => hK.block q (by have := hgx q hq; omega) (fun e => by have := hgx q hq; omega)
        have hrq := hr5.kept hK (by omega) (fun k hk e => by omega)
        have hzrq := hzr5.kept hK (by omega) (fun k hk e => by omega)
        have htq := ht5.keptS hK (by omega) (by omega) (by omega) (by omega)
        have hxlen := hOxq.len
        rw [seg_len] at hxlen
        have hxc : (2000 : Int) ≤ (cx : Int) := by omega
        have HXL := Lib.hid hxlen
        clear hgk hxlen
        by_cases hlt : i < z.length
        · have hltI : (i : Int) < (z.length : Int) := by omega
          obtain ⟨ad, rfl, hadb, hcell⟩ := hzrq.at_ hlt
          obtain ⟨n, hn⟩ : ∃ n, gt z i = n := ⟨_, rfl⟩
          have hnb := HZB.out i
          rw [hn] at hcell hnb
          have HN := Lib.hid hn
          clear hn
          by_cases hover : 2000 - (at_ : Int) < n ∧ n ≤ 65536
          · obtain ⟨ho1, ho2⟩ := hover
            go_wp2_with fail
            go_ret
            exact ⟨rfl, (hX5.trans (S := fun _ => False) hK (by omega) (fun k hk e => by omega)).below⟩
          · have hcase : (0 ≤ n ∧ n ≤ 2000 - (at_ : Int)) ∨ (n < 0 ∧ ¬ 65536 < n ∧ ¬ (2000 - (at_ : Int) < n)) ∨ (¬ n < 0 ∧ 65536 < n ∧ 2000 - (at_ : Int) < n ∧ ¬ n ≤ 65536) := by omega
            clear hover
            rcases hcase with ⟨h5, h6⟩ | hbad
            · obtain ⟨N, rfl⟩ : ∃ N : Nat, n = N := ⟨n.toNat, by omega⟩
              have h6' : ¬ (2000 - (at_ : Int) < (N : Int)) := by omega
              have hN2 : at_ + N ≤ 2000 := by omega
              have h65 : ¬ (65536 : Int) < (N : Int) := by omega
              have hN0 : ¬ (N : Int) < 0 := by omega
              have hN65 : (N : Int) ≤ 65536 := by omega
              go_wp2_with fail
              (with_reducible refine (read_n N N g rb at_ (newS l) s rest Ar cr wq (newS_len _) (newS_W _) (by omega) hAt hR htq (by omega) (by omega) rfl).mono ?_)
              rintro e w6 ⟨A6, c6, s6, rest6, Ar6, cr6, rb6, rfl, hO6, hat6, hR6, hrb6, hK6⟩
              have hs6 := hK6.size
              have hRo6 := hRo.kept hK6 (Nat.le_refl _) (fun e => by omega) (fun e => hrbg e)
              have ht6 := htq.keptS hK6 (by omega) (by omega) (by omega) (by omega)
              have hlt6 := hR6.two.lt
              have hltr6 := hR6.lt
              go_wp2_with fail
              (with_reducible refine (read_n 3 3 o rbo p (newS [7]) so resto Ao co w6 (newS_len _) (newS_W _) (by decide) hAto hRo6 ht6 (by omega) (by omega) rfl).mono ?_)
              rintro e w7 ⟨A7, c7, s7, rest7, Ao7, co7, rb7, rfl, hO7, hat7, hR7, hrb7, hK7⟩
              have hs7 := hK7.size
              have hrb6o : rb6 ≠ o := by rcases hrb6 with h | h; exact h ▸ hrbo; omega
              have hR67 := hR6.kept hK7 (Nat.le_refl _) (fun e => by omega) (fun e => hrb6o e)
              have hO67 : Own w7 wq.heap.size 5 .u8 (.slice A6 N c6) (seg (newS l) at_ N) := hO6.keep fun q hq => hK7.block q (hO6.lt q hq).2 (fun e => by have := (hO6.lt q hq).1; omega)
              have hKq7 : Kept w5.heap.size (fun k => k = g ∨ k = o) w5 w7 := (hK.trans (S' := (· = g)) hK6 (by omega) (fun k _ e => .inl e)).trans (S' := (· = o)) hK7 (by omega) (fun k _ e => .inr e)
              have hOx7 : Own w7 w1.heap.size 5 .u8 (.slice Ax 2000 cx) (seg (newS l) 0 2000) := hOx5.keep fun q hq => hKq7.block q (by have := hgx q hq; omega) (fun e => by have := hgx q hq; omega)
              have hcut := hOx7.rd.cut at_ (at_ + N) cx (by rw [seg_len]; omega) (by have := HXL.out; omega)
              rw [seg_sub _ _ _ _ _ (by omega), Nat.zero_add] at hcut
              have hrb7' : rb7 ≠ g := by rcases hrb7 with h | h; exact h ▸ hrbg; omega
              obtain ⟨j, hj⟩ : ∃ j, at_ + N = j := ⟨_, rfl⟩
              have hjI : (at_ : Int) + (N : Int) = (j : Int) := by omega
              have hjN : j - at_ = N := by omega
              have hsl := fun wx => run_slice_ab (P := Tryd.prog) 36 5 Tryd.underlying36 (by kernel_rfl) Ax 2000 cx at_ j (by omega) (by have := HXL.out; omega) .i64 .i64 wx
              obtain ⟨A2, hA2⟩ : ∃ A2, (if cx = at_ then Ax else Ax.map (·.add at_)) = A2 := ⟨_, rfl⟩
              obtain ⟨c2, hc2⟩ : ∃ c2, cx - at_ = c2 := ⟨_, rfl⟩
              rw [hjN, hA2, hc2] at hsl
              rw [hA2] at hcut
              have HJ := Lib.hid hj
              have HJN := Lib.hid hjN
              clear hO6 hR6 hRo6 hR hRo hOxq hK6 hK7 hj hjN hA2 hc2
              go_wp2_with fail
              (with_reducible refine (same_true2 w7 A6 _ (seg (newS l) at_ N) N _ c6 _ _ _ hO67.rd hcut (seg_len _ _ _) (seg_len _ _ _) (by omega)).mono ?_)
              rintro e w8 ⟨rfl, q8, rfl⟩
              go_wp2_with fail
              go_roundg (z.length - (i + 1))
              case measure => have := HGK.out; omega
              case rel =>
                refine ⟨j, i + 1, p + 3, rfl, by go_num, by omega, by have := HJ.out; omega, rfl, ⟨s6, rest6, Ar6, cr6, rb6, HJ.out ▸ hat6, hR67.kept ((Kept.refl w7.heap.size (fun _ => False) w7).drewN q8) (Nat.le_refl _) (fun h => h) (fun h => h), hrb6o⟩, ⟨s7, rest7, Ao7, co7, rb7, hat7, hR7.kept ((Kept.refl w7.heap.size (fun _ => False) w7).drewN q8) (Nat.le_refl _) (fun h => h) (fun h => h), hrb7'⟩, hKq7.drewN q8⟩
            · have hBAD : n < 0 ∨ 65536 < n := by omega
              rcases hbad with ⟨h5, h6, h7⟩ | ⟨h5, h6, h7, h8⟩
              · go_wp2_with fail
                (with_reducible refine (read_none n _ wq hBAD).mono ?_)
                rintro e w6 ⟨rfl, rfl⟩
                go_wp2_with fail
                (with_reducible refine (read_n 3 3 o rbo p (newS [7]) so resto Ao co wq (newS_len _) (newS_W _) (by decide) hAto hRo htq (by omega) (by omega) rfl).mono ?_)
                rintro e w7 ⟨A7, c7, s7, rest7, Ao7, co7, rb7, rfl, hO7, hat7, hR7, hrb7, hK7⟩
                have hs7 := hK7.size
                have hR67 := hR.kept hK7 (Nat.le_refl _) (fun e => by omega) (fun e => hrbo e)
                have hltr := hR.two.lt
                have hKq7 : Kept w5.heap.size (fun k => k = g ∨ k = o) w5 w7 := hK.trans (S' := (· = o)) hK7 (by omega) (fun k _ e => .inr e)
                have hrb7' : rb7 ≠ g := by rcases hrb7 with h | h; exact h ▸ hrbg; omega
                clear hR hRo hOxq hK7
                go_wp2_with fail
                go_roundg (z.length - (i + 1))
                case measure => have := HGK.out; omega
                case rel => exact ⟨at_, i + 1, p + 3, rfl, by go_num, by omega, hat, rfl, ⟨s, rest, Ar, cr, rb, hAt, hR67, hrbo⟩, ⟨s7, rest7, Ao7, co7, rb7, hat7, hR7, hrb7'⟩, hKq7⟩
              · go_wp2_with fail
                (with_reducible refine (read_none n _ wq hBAD).mono ?_)
                rintro e w6 ⟨rfl, rfl⟩
                go_wp2_with fail
                (with_reducible refine (read_n 3 3 o rbo p (newS [7]) so resto Ao co wq (newS_len _) (newS_W _) (by decide) hAto hRo htq (by omega) (by omega) rfl).mono ?_)
                rintro e w7 ⟨A7, c7, s7, rest7, Ao7, co7, rb7, rfl, hO7, hat7, hR7, hrb7, hK7⟩
                have hs7 := hK7.size
                have hR67 := hR.kept hK7 (Nat.le_refl _) (fun e => by omega) (fun e => hrbo e)
                have hltr := hR.two.lt
                have hKq7 : Kept w5.heap.size (fun k => k = g ∨ k = o) w5 w7 := hK.trans (S' := (· = o)) hK7 (by omega) (fun k _ e => .inr e)
                have hrb7' : rb7 ≠ g := by rcases hrb7 with h | h; exact h ▸ hrbg; omega
                clear hR hRo hOxq hK7
                go_wp2_with fail
                go_roundg (z.length - (i + 1))
                case measure => have := HGK.out; omega
                case rel => exact ⟨at_, i + 1, p + 3, rfl, by go_num, by omega, hat, rfl, ⟨s, rest, Ar, cr, rb, hAt, hR67, hrbo⟩, ⟨s7, rest7, Ao7, co7, rb7, hat7, hR7, hrb7'⟩, hKq7⟩
        · have hltI : ¬ (i : Int) < (z.length : Int) := by omega
          go_wp2_with fail
          have hrs : Calls Tryd.prog 26 #[.slice A l.length c, .int .i64 2000] wq (RefPost wq l 2000) := refsum_any l A c w.heap.size 2000 wq hrq (by omega) (by omega) (by omega) hby
          (with_reducible refine hrs.mono ?_)
          rintro e w6 ⟨A6, c6, rfl, hR6, hb6⟩
          have hO6 := hOxq.below hb6 (Nat.le_refl _)
          go_wp2_with fail
          (with_reducible refine (same_true w6 Ax A6 (seg (newS l) 0 2000) 2000 cx c6 _ _ hO6.rd hR6 (seg_len _ _ _) (by omega)).mono ?_)
          rintro e w7 ⟨rfl, q, rfl⟩
          go_wp2_with fail
          go_ret
          exact ⟨rfl, (((hX5.trans (S := fun _ => False) hK (by omega) (fun k hk e => by omega)).trans (S' := fun _ => False) (Kept.of_below hb6) (by omega) (fun _ _ h => h)).drewN q).below⟩

end Go.Proofs.YtabpbnkipdjnlaaDoor
