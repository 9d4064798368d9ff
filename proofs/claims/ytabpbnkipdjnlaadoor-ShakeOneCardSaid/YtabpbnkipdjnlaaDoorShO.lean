/- ShakeOne, walked. Conditions: the text reads as bytes; the tables. -/
import Derived.Test.YtabpbnkipdjnlaaDoorShN
namespace Go.Proofs.YtabpbnkipdjnlaaDoor
open Go.RowKit
set_option linter.unusedVariables false
set_option linter.unusedSimpArgs false

def O1 (w0 : World) (C : Nat) (l : List Int) (gk : Nat) (v : Value) (w : World) : Prop :=
  ∃ j : Nat, v = .int .i64 j ∧ j ≤ l.length ∧ gk = l.length - j ∧ Arr w C 5 .u8 (cpN l j) ∧ Kept C (fun _ => False) w0 w
def O2 (w0 : World) (D : Nat) (T : List Int) (gk : Nat) (v : Value) (w : World) : Prop :=
  ∃ j : Nat, v = .int .i64 j ∧ j ≤ 136 ∧ gk = 136 - j ∧ Arr w D 23 .u64 (orN T j) ∧ Kept D (fun _ => False) w0 w
def O3 (w0 : World) (gk : Nat) (v : Value) (w : World) : Prop :=
  ∃ j : Nat, v = .int .i64 j ∧ j ≤ 136 ∧ gk = 136 - j ∧ ∃ q, w = w0.drewN q

set_option maxRecDepth 100000 in
set_option maxHeartbeats 2000000 in
theorem one_walk (l : List Int) (A : Option Addr) (c : Nat) (w : World) (hr : Rd w w.heap.size .u8 A l) (hlc : l.length ≤ c) (hc : c ≤ 9223372036854775807) (hA : A = none → c = 0) (hby : Bys l) (ht : KTab w) :
    Calls Tryd.prog 10 #[.slice A l.length c] w fun e w' => e = .returned (.bool true) ∧ Below w.heap.size w w' := by
  have hz := World.block_lt_of_cell? w _ (ht.2 0 (by decide))
  have hz0 := World.block_lt_of_cell? w _ (ht.1 0 (by decide))
  have hz2 : 1 < w.heap.size := hz
  have hz3 : 0 < w.heap.size := hz0
  go_enter Tryd.func10, Tryd.ntmps10
  go_wp2_with fail
  (with_reducible refine (awake5_any w ht).mono ?_)
  rintro e w1 ⟨rfl, hb1⟩
  have hr1 := hr.below hb1
  have ht1 := ht.below hb1 hz3 hz2
  have hs1 := hb1.size
  by_cases h3 : 135 < l.length
  · have h3I : (135 : Int) < l.length := by omega
    go_wp2_with fail
    go_ret
    exact ⟨rfl, hb1⟩
  · have h3I : ¬ (135 : Int) < l.length := by omega
    have hl136 : l.length < 136 := by omega
    go_wp2_with (refine wpList_make_nums rfl _ _ 36 rfl 5 .u8 1 Tryd.underlying36 inf_u8 .i64 .i64 136 136 136 136 rfl rfl rfl rfl (by decide) (by decide) (by decide) ?_; intro w2 hw2)
    have hN2 := Arr.new w1 5 .u8 (List.replicate 136 0)
    have hr2 := hr1.alloc hs1 (.cells (U .u8 (List.replicate 136 0)) 5)
    have hK2 := (Kept.of_below (S := fun _ => False) hb1).alloc (.cells (U .u8 (List.replicate 136 0)) 5) hs1
    rw [← hw2.out] at hN2 hr2 hK2
    obtain ⟨C, hC⟩ : ∃ C, w1.heap.size = C := ⟨_, rfl⟩
    rw [hC] at hN2 hs1 ⊢
    have HC := Lib.hid hC
    clear hC hw2 hb1 hr1 ht1 hr
    go_loopg [4] l.length (fun gk v wr => O1 w2 C l gk v wr)
    case atStart => exact ⟨0, rfl, Nat.zero_le _, rfl, hN2, Kept.refl _ _ _⟩
    case round =>
      obtain ⟨wq, rfl⟩ : ∃ wq : World, wq = wr := ⟨_, rfl⟩
      obtain ⟨j, rfl, hj, hgk, hN, hK⟩ := hrel
      have hrq := hr2.kept hK hs1 (fun _ _ h => h)
      have HGK := Lib.hid hgk
      clear hgk
      by_cases hlt : j < l.length
      · have hltI : (j : Int) < (l.length : Int) := by omega
        have hj136 : (j : Int) < 136 := by omega
        obtain ⟨ad, rfl, hadb, hcell⟩ := hrq.at_ hlt
        have hcn := hN.cell j (by rw [cpN_len]; omega)
        have hfn := hN.free j
        go_wp2_with fail
        go_roundg (l.length - (j + 1))
        case measure => have := HGK.out; omega
        case rel => exact ⟨j + 1, by go_num, by omega, rfl, hN.set j _, hK.set C j _ (.inl (Nat.le_refl _))⟩
      · have hltI : ¬ (j : Int) < (l.length : Int) := by omega
        obtain rfl : j = l.length := by omega
        clear HGK hj hlt
        have hcn := hN.cell l.length (by rw [cpN_len]; omega)
        have hfn := hN.free l.length
        have hlI : (l.length : Int) < 136 := by omega
        have hN3 := hN.set l.length 31
        have hK3 := hK.set C l.length (.int .u8 31) (.inl (Nat.le_refl _))
        obtain ⟨D, hD⟩ : ∃ D, wq.heap.size = D := ⟨_, rfl⟩
        have hs3 : (wq.setCell ⟨C, l.length, none⟩ (.int .u8 31)).heap.size = D := by simp [World.setCell, ← hD]
        have hcn2 := hN3.cell 135 (by rw [st_len, cpN_len]; omega)
        have hfn2 := hN3.free 135
        go_upto_region 11 with fail
        clear hcn hfn
        generalize wq.setCell ⟨C, l.length, none⟩ (.int .u8 31) = w3 at hN3 hK3 hs3 hcn2 hfn2 ⊢
        obtain ⟨y, hy⟩ : ∃ y, gt (st (cpN l l.length) l.length 31) 135 = y := ⟨_, rfl⟩
        have hN4 := hN3.set 135 (bits .xor .u8 y 128)
        have hK4 := hK3.set C 135 (.int .u8 (bits .xor .u8 y 128)) (.inl (Nat.le_refl _))
        have hs4 : (w3.setCell ⟨C, 135, none⟩ (.int .u8 (bits .xor .u8 y 128))).heap.size = D := by simp [World.setCell, ← hs3]
        have hT : st (st (cpN l l.length) l.length 31) 135 (bits .xor .u8 y 128) = textL l := by rw [← hy]; exact one_block l (by omega)
        rw [hT] at hN4
        rw [hy] at hcn2
        clear hy hT hN
        go_upto_region 12 with fail
        generalize w3.setCell ⟨C, 135, none⟩ (.int .u8 (bits .xor .u8 y 128)) = w4 at hN4 hK4 hs4 ⊢
        clear hN3 hK3 hcn2 hfn2
        have hCD : C < D := by have := hN4.lt; omega
        go_wp2_with fail
        have hS5 := Arr.new w4 23 .u64 (List.replicate 25 0)
        have hN5 := hN4.alloc (.cells (U .u64 (List.replicate 25 0)) 23)
        have hK5 := hK4.alloc (.cells (U .u64 (List.replicate 25 0)) 23) (by omega)
        change Code.wp _ _ _ _ (w4.alloc (.cells (U .u64 (List.replicate 25 0)) 23))
        generalize w4.alloc (.cells (U .u64 (List.replicate 25 0)) 23) = w5 at hS5 hN5 hK5 ⊢
        rw [hs4] at hS5
        have hDs := hS5.lt
        have hKw : Kept w.heap.size (fun _ => False) w w5 := (hK2.trans (S' := fun _ => False) hK5 hs1 (fun _ _ h => h))
        have hr5 := hr2.kept hK5 hs1 (fun _ _ h => h)
        have ht5 := ht.kept hKw hz3 hz2
        obtain ⟨T, hT⟩ : ∃ T, textL l = T := ⟨_, rfl⟩
        have hTl : T.length = 136 := by rw [← hT]; exact textL_len l (by omega)
        have hTB : Bys T := by rw [← hT]; exact (padZ_B hby _).st _ (B8.bits _ _ _)
        rw [hT] at hN5
        have HT := Lib.hid hT
        have HTB := Lib.hid hTB
        have HTl := Lib.hid hTl
        clear hT hTB hTl hN4 hK4 hs3 hs4 hD hr2 hrq hK hK2
        go_loopg [6] 136 (fun gk v wr => O2 w5 D T gk v wr)
        case atStart => exact ⟨0, rfl, Nat.zero_le _, rfl, hS5, Kept.refl _ _ _⟩
        case round =>
          clear hS5
          obtain ⟨j, rfl, hj, hgk, hS, hK⟩ := hrel
          have hN := hN5.kept hK hCD (fun h => h)
          have HGK := Lib.hid hgk
          clear hgk
          by_cases hlt : j < 136
          · have hlt' : (j : Int) < 136 := by omega
            obtain ⟨q, hq⟩ : ∃ q : Nat, j / 8 = q := ⟨_, rfl⟩
            obtain ⟨r, hr⟩ : ∃ r : Nat, j % 8 = r := ⟨_, rfl⟩
            obtain ⟨m, hm⟩ : ∃ m : Nat, 8 * r = m := ⟨_, rfl⟩
            have hq25 : q < 25 := by omega
            have hqI : (q : Int) < 25 := by omega
            have hm64 : m < 64 := by omega
            have hm0 : (0 : Int) ≤ (m : Int) := by omega
            have f1 : IntKind.i64.wrap ((j : Int) / 8) = (q : Int) := by rw [IntWalk.i64_in _ (by omega)]; omega
            have f2 : (j : Int).tmod 8 = (r : Int) := by rw [Int.tmod_eq_emod_of_nonneg (by omega)]; omega
            obtain ⟨y, hy⟩ : ∃ y, gt T j = y := ⟨_, rfl⟩
            have hca := hN.cell j (by have := HTl.out; omega)
            rw [hy] at hca
            have hyb : B8 y := hy ▸ HTB.out.gt j
            have hy0 : 0 ≤ y := hyb.1
            have hy1 : y < 256 := hyb.2
            have fw : IntKind.u64.wrap y = y := by simp [IntKind.wrap, IntKind.signed, IntKind.bits]; omega
            have HYY := Lib.hid hy
            clear hy hyb
            have f3 : IntKind.i64.wrap (8 * (r : Int)) = (m : Int) := by rw [IntWalk.i64_in _ (by omega)]; omega
            have hmin : min m 64 = m := by omega
            have hcs := hS.cell q (by rw [orN_len]; omega)
            have hfs := hS.free q
            have HQ := Lib.hid hq
            have HR := Lib.hid hr
            have HM := Lib.hid hm
            clear hq hr hm
            go_wp2_with fail
            go_still_tail 18, (by kernel_rfl)
            repeat still_step
            change wpList _ _ _ _ _ wr.drew
            go_wp2_with fail
            go_roundg (136 - (j + 1))
            case measure => have := HGK.out; omega
            case rel =>
              refine ⟨j + 1, by go_num, by omega, rfl, ?_, hK.drew.set D q _ (.inl (Nat.le_refl _))⟩
              have := hS.drew.set q (bits .or .u64 (gt (orN T j) q) (IntKind.u64.wrap (y * 2 ^ m)))
              rw [orN, HQ.out, HR.out, HM.out, HYY.out]; exact this
          · have hlt' : ¬ ((j : Int) < 136) := by omega
            have hj136 : j = 136 := by omega
            obtain ⟨L, hL⟩ : ∃ L, orN T j = L := ⟨_, rfl⟩
            have hLl : L.length = 25 := by rw [← hL, orN_len]
            have hLm : L = mixN (List.replicate 25 0) T 136 := by rw [← hL, hj136]; exact orN_mixN T HTB.out 136 (Nat.le_refl _)
            have hLw : Ws L := by rw [hLm]; exact mixN_W _ (Ws.zeros 25) _
            have hfin : Hid (permute L = newS l) := by
              show permute L = _
              have e1 : ((textL l).length / 136) = 1 := by rw [HT.out, HTl.out]
              rw [newS, e1, absS, absS, HT.out, hLm, Nat.mul_zero, List.drop_zero, List.take_of_length_le (by rw [HTl.out]; exact Nat.le_refl _)]
            rw [hL] at hS
            have hltD := hS.lt
            have htk := ht5.kept hK (by omega) (by omega)
            have hrk := hr5.kept hK (by omega) (fun _ _ h => h)
            have hsk := hK.size
            clear hL hj136 hlt HGK hj hLm
            go_wp2_with (refine wpList_load_arr (o := ⟨some 60, _, _, _, _, _⟩) rfl 23 _ rfl rfl hS Tryd.underlying23 rfl 25 inf_a25 hLl ?_)
            (with_reducible refine (permute_any L wr hLl hLw htk (by omega) (by omega)).mono ?_)
            rintro e w6 ⟨rfl, hb6⟩
            have hS6 := hS.below hb6 hltD
            have hr6 := hrk.below (hb6.mono (by omega))
            have ht6 := htk.below hb6 (by omega) (by omega)
            have hK6 := (hKw.trans (S' := fun _ => False) hK (by omega) (fun _ _ h => h)).trans (S' := fun _ => False) (Kept.of_below hb6) (by omega) (fun _ _ h => h)
            have hpl : (permute L).length = 25 := by rw [permute_len, hLl]
            have hpw : Ws (permute L) := permute_W hLw
            obtain ⟨s, hs⟩ : ∃ s, permute L = s := ⟨_, rfl⟩
            rw [hs] at hpl hpw hfin ⊢
            have hs6 := hb6.size
            clear hs hS hK hb6 htk hrk
            go_upto_region 18 with (refine wpList_store_arr (o := ⟨none, _, _, _, _, _⟩) rfl 23 _ _ rfl rfl rfl hS6 25 inf_a25 hpl hLl ?_)
            have hS7 := hS6.setRow s
            have hK7 := hK6.setRow D (U .u64 s) (.inl (by omega))
            have hr7 := hr6.keep (w' := w6.setRow D (U .u64 s)) (fun p hp => World.cell?_of_block (setRow_other w6 D p.block _ (by omega)))
            have ht7 := ht.kept hK7 hz3 hz2
            have hs7 : (w6.setRow D (U .u64 s)).heap.size = w6.heap.size := by simp
            change Code.wp _ _ _ _ (w6.setRow D (U .u64 s))
            generalize w6.setRow D (U .u64 s) = w7 at hS7 hK7 hr7 ht7 hs7 ⊢
            clear hS6 hK6 hr6 ht6
            go_wp2_with fail
            (with_reducible refine (sum_n l A l.length c w.heap.size 136 w7 hr7 (by omega) (by omega) hA ht7 hby (by omega) rfl 136 rfl).mono ?_)
            rintro e w8 ⟨Ax, cx, rfl, hOx, hb8⟩
            have hS8 := hS7.below hb8 (by omega)
            have hX8 : Below w.heap.size w w8 := (hK7.trans (S' := fun _ => False) (Kept.of_below hb8) (by have := hK7.size; omega) (fun _ _ h => h)).below
            have hsg : seg (newS l) 0 136 = gave s 136 := by
              have := seg_block (newS l) 0
              rw [Nat.mul_zero] at this
              rw [this, iterP, ← hfin.out, giveL_gave]
            rw [hsg] at hOx
            obtain ⟨gx, rfl, -, hgx, hgx', hcx⟩ := hOx.where_ (by rw [gave_len]; decide)
            rw [gave_len] at hcx
            clear hsg hb8 hS7 hK7 hr7 ht7
            go_wp2_with fail
            go_loopg [8] 136 (fun gk v wr => O3 w8 gk v wr)
            case atStart => exact ⟨0, rfl, Nat.zero_le _, rfl, 0, rfl⟩
            case round =>
              obtain ⟨j, rfl, hj, hgk, q0, rfl⟩ := hrel
              have HGK := Lib.hid hgk
              clear hgk
              by_cases hlt : j < 136
              · have hlt' : (j : Int) < 136 := by omega
                obtain ⟨q, hq⟩ : ∃ q : Nat, j / 8 = q := ⟨_, rfl⟩
                obtain ⟨r, hr⟩ : ∃ r : Nat, j % 8 = r := ⟨_, rfl⟩
                obtain ⟨m, hm⟩ : ∃ m : Nat, 8 * r = m := ⟨_, rfl⟩
                have hq25 : q < 25 := by omega
                have hqI : (q : Int) < 25 := by omega
                have hm64 : m < 64 := by omega
                have f1 : IntKind.i64.wrap ((j : Int) / 8) = (q : Int) := by rw [IntWalk.i64_in _ (by omega)]; omega
                have f2 : (j : Int).tmod 8 = (r : Int) := by rw [Int.tmod_eq_emod_of_nonneg (by omega)]; omega
                have f3 : IntKind.i64.wrap (8 * (r : Int)) = (m : Int) := by rw [IntWalk.i64_in _ (by omega)]; omega
                obtain ⟨x, hx⟩ : ∃ x, gt s q = x := ⟨_, rfl⟩
                have hcs := (hS8.cell q (by omega))
                rw [hx] at hcs
                have hca := hOx.cell j (by rw [gave_len]; omega)
                have hga : gt (gave s 136) j = x / 2 ^ m % 256 := by
                  rw [← giveL_gave, gt_giveL _ _ hlt, byteAt, hq, hr, hm, hx]
                rw [hga] at hca
                have HQ := Lib.hid hq
                have HR := Lib.hid hr
                have HM := Lib.hid hm
                have HX := Lib.hid hx
                clear hq hr hm hx hga
                go_wp2_with fail
                go_quiet (fail)
                go_wp2_with fail
                go_roundg (136 - (j + 1))
                case measure => have := HGK.out; omega
                case rel => exact ⟨j + 1, by go_num, by omega, rfl, q0 + nq, rfl⟩
              · have hlt' : ¬ ((j : Int) < 136) := by omega
                go_wp2_with fail
                go_ret
                exact ⟨rfl, ((Kept.of_below (S := fun _ => False) hX8).drewN q0).below⟩

end Go.Proofs.YtabpbnkipdjnlaaDoor
