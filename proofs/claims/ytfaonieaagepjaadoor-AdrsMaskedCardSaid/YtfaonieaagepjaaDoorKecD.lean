import Derived.Test.YtfaonieaagepjaaDoorKecC
import Derived.Test.YtfaonieaagepjaaDoorKecRefSpec
import Derived.Deep.DeepCutAuto
import Derived.Deep.CutBlock
namespace Go.Proofs.YtfaonieaagepjaaDoor
open Go.RowKit
set_option maxRecDepth 100000
set_option linter.unusedVariables false
set_option linter.unusedSimpArgs false

theorem inf_a5 : (Tryd.prog.info? 118).map (·.size) = some 5 := by kernel_rfl
theorem zero5 : #[Value.int .u64 0, .int .u64 0, .int .u64 0, .int .u64 0, .int .u64 0] = U .u64 (List.replicate 5 0) := rfl

theorem rol_any (x n : Int) (w : World) (h : W64 x) (hn0 : 0 ≤ n) (hn : n ≤ 1000000000) :
    Calls Tryd.prog 91 #[.int .u64 x, .int .i64 n] w fun e w' => e = .returned (.int .u64 (rotl x (n % 64).toNat)) ∧ w' = w := by
  obtain ⟨hx0, hx⟩ := h
  by_cases h0 : n % 64 = 0
  · have he : rotl x (n % 64).toNat = x := by
      have e0 : (bv x).rotateLeft 0 = bv x := by
        rw [BitVec.rotateLeft_def, Nat.zero_mod, BitVec.shiftLeft_zero, BitVec.ushiftRight_eq_zero (by omega), BitVec.or_zero]
      rw [h0]; show (((bv x).rotateLeft 0).toNat : Int) = x
      rw [e0]; exact bv_toNat x hx0 hx
    have E := Lib.hid he
    clear he
    go_enter Tryd.func91, Tryd.ntmps91
    go_wp2
    go_ret
    exact ⟨by rw [E.out]; rfl, rfl⟩
  · have h1 : ¬ ((n % 64 == 0) = true) := by simpa using h0
    obtain ⟨k, hk⟩ : ∃ k : Int, n % 64 = k := ⟨_, rfl⟩
    rw [hk] at h0 h1 ⊢
    have hr := rot_eq x k hx0 hx (by omega) (by omega)
    have hk0 : 0 ≤ k := by omega
    have hk64 : k < 64 := by omega
    have h2 : (k == 0) = false := by simpa using h0
    go_enter Tryd.func91, Tryd.ntmps91
    go_wp2
    go_ret
    exact ⟨rfl, rfl⟩

theorem rho_arith (t : Nat) (ht : t < 24) : ∃ m : Nat, ((t : Int) + 1) * ((t : Int) + 2) = (m : Int) ∧ m / 2 % 64 = (t + 1) * (t + 2) / 2 % 64 ∧ m ≤ 1000 := by
  have hmb : (t + 1) * (t + 2) ≤ 1000 := Nat.le_trans (Nat.mul_le_mul (show t + 1 ≤ 25 by omega) (show t + 2 ≤ 26 by omega)) (by decide)
  exact ⟨(t + 1) * (t + 2), by push_cast; rfl, rfl, hmb⟩
theorem step_arith1 (k : Nat) (d : Nat) (hk : k < 5) (hd : d ≤ 20) : IntKind.i64.wrap ((k : Int) + (d : Int)) = ((k + d : Nat) : Int) := by
  rw [IntWalk.i64_in _ (by omega)]; omega

set_option maxRecDepth 100000 in
set_option maxHeartbeats 4000000 in
theorem step_any (l : List Int) (rc : Int) (w : World) (hl : l.length = 25) (hw : Ws l) :
    Calls Tryd.prog 87 #[.agg (U .u64 l), .int .u64 rc] w fun e w' => e = .returned (.agg (U .u64 (stepS l rc))) ∧ Below w.heap.size w w' := by
  go_enter Tryd.func87, Tryd.ntmps87
  go_upto_block 0 with (fail)
  obtain ⟨B, hB⟩ : ∃ B, w.heap.size = B := ⟨_, rfl⟩
  have hA0 : Arr (w.alloc (.cells (U .u64 l) 100)) B 100 .u64 l := by subst hB; exact Arr.new _ _ _ _
  have hR0 : Arr ((w.alloc (.cells (U .u64 l) 100)).alloc (.cells (U .u64 (List.replicate 25 0)) 100)) (B + 1) 100 .u64 (List.replicate 25 0) := by
    subst hB; have := Arr.new (w.alloc (.cells (U .u64 l) 100)) 100 .u64 (List.replicate 25 0); simpa using this
  have hC0 : Arr (((w.alloc (.cells (U .u64 l) 100)).alloc (.cells (U .u64 (List.replicate 25 0)) 100)).alloc (.cells (U .u64 (List.replicate 5 0)) 118)) (B + 1 + 1) 118 .u64 (List.replicate 5 0) := by
    subst hB; have := Arr.new ((w.alloc (.cells (U .u64 l) 100)).alloc (.cells (U .u64 (List.replicate 25 0)) 100)) 118 .u64 (List.replicate 5 0); simpa using this
  have hA := (hA0.alloc (.cells (U .u64 (List.replicate 25 0)) 100)).alloc (.cells (U .u64 (List.replicate 5 0)) 118)
  have hR := hR0.alloc (.cells (U .u64 (List.replicate 5 0)) 118)
  have hK : Kept B (fun _ => False) w (((w.alloc (.cells (U .u64 l) 100)).alloc (.cells (U .u64 (List.replicate 25 0)) 100)).alloc (.cells (U .u64 (List.replicate 5 0)) 118)) :=
    (((Kept.refl _ _ _).alloc _ (by omega)).alloc _ (by simp; omega)).alloc _ (by simp; omega)
  rw [hB, zero25, zero5]
  have hBv := Lib.hid hB
  clear hA0 hR0 hB
  obtain ⟨c, hcc⟩ : ∃ c, fC l 5 = c := ⟨_, rfl⟩
  have hcw : Ws c := hcc ▸ fC_W l 5
  have hcl : c.length = 5 := by rw [← hcc, fC_len]
  have HC := Lib.hid hcc
  clear hcc
  go_cut [] (fun wr => Arr wr B 100 .u64 l ∧ Arr wr (B + 1) 100 .u64 (List.replicate 25 0) ∧ Arr wr (B + 1 + 1) 118 .u64 c ∧ Kept B (fun _ => False) w wr)
  case first =>
    go_wp2_with fail
    go_loopw [6] (fun i wr => ∃ k : Nat, k ≤ 5 ∧ i = .int .i64 k ∧ Arr wr B 100 .u64 l ∧ Arr wr (B + 1) 100 .u64 (List.replicate 25 0) ∧ Arr wr (B + 1 + 1) 118 .u64 (fC l k) ∧ Kept B (fun _ => False) w wr) (fun i _ => (5 - intOf i).toNat)
    case atStart => exact ⟨0, by omega, rfl, hA, hR, hC0, hK⟩
    case round =>
      clear hA hR hC0 hK
      obtain ⟨k, hk, rfl, ha, hr, hc, hg⟩ := hrel
      by_cases hlt : k < 5
      · have hlt' : (k : Int) < 5 := by omega
        have q5 : IntKind.i64.wrap ((k : Int) + 5) = ((k + 5 : Nat) : Int) := step_arith1 k 5 hlt (by omega)
        have q10 : IntKind.i64.wrap ((k : Int) + 10) = ((k + 10 : Nat) : Int) := step_arith1 k 10 hlt (by omega)
        have q15 : IntKind.i64.wrap ((k : Int) + 15) = ((k + 15 : Nat) : Int) := step_arith1 k 15 hlt (by omega)
        have q20 : IntKind.i64.wrap ((k : Int) + 20) = ((k + 20 : Nat) : Int) := step_arith1 k 20 hlt (by omega)
        obtain ⟨a5, e5⟩ : ∃ m : Nat, k + 5 = m := ⟨_, rfl⟩
        obtain ⟨a10, e10⟩ : ∃ m : Nat, k + 10 = m := ⟨_, rfl⟩
        obtain ⟨a15, e15⟩ : ∃ m : Nat, k + 15 = m := ⟨_, rfl⟩
        obtain ⟨a20, e20⟩ : ∃ m : Nat, k + 20 = m := ⟨_, rfl⟩
        rw [e5] at q5
        rw [e10] at q10
        rw [e15] at q15
        rw [e20] at q20
        have b0 : (k : Int) < 25 := by omega
        have b5 : (a5 : Int) < 25 := by omega
        have b10 : (a10 : Int) < 25 := by omega
        have b15 : (a15 : Int) < 25 := by omega
        have b20 : (a20 : Int) < 25 := by omega
        have c0 := ha.cell k (by omega)
        have c5 := ha.cell a5 (by omega)
        have c10 := ha.cell a10 (by omega)
        have c15 := ha.cell a15 (by omega)
        have c20 := ha.cell a20 (by omega)
        have cc := hc.cell k (by rw [fC_len]; omega)
        have cf := hc.free k
        go_wp2_with fail
        go_still_tail 25, (by kernel_rfl)
        change wpList _ _ _ _ _ wr.drew
        go_wp2_with fail
        go_roundw
        case rel => exact ⟨k + 1, by omega, by go_num, ha.drew.other _ _ _ (by omega), hr.drew.other _ _ _ (by omega), by have := hc.drew.set k (bits .xor .u64 (bits .xor .u64 (bits .xor .u64 (bits .xor .u64 (gt l k) (gt l a5)) (gt l a10)) (gt l a15)) (gt l a20)); rw [fC, e5, e10, e15, e20]; exact this, hg.drew.set _ _ _ (by omega)⟩
        case measure => simp [intOf]; omega
      · have hlt' : ¬ ((k : Int) < 5) := by omega
        have hk5 : Hid (k = 5) := by show k = 5; omega
        clear hlt hk
        go_wp2_with fail
        go_meet
        exact ⟨ha, hr, by rw [← HC.out, ← hk5.out]; exact hc, hg⟩
  case rest =>
    clear hA hR hC0 hK
    obtain ⟨ha, hr, hc, hg⟩ := hcut
    go_upto_block 2 with (fail)
    obtain ⟨s, hs⟩ : ∃ s, fT c l 5 = s := ⟨_, rfl⟩
    have hsl : s.length = 25 := by rw [← hs, fT_len, hl]
    have hsw : Ws s := hs ▸ fT_W _ _ hw _
    have HS := Lib.hid hs
    clear hs
    go_cut [] (fun wr => Arr wr B 100 .u64 s ∧ Arr wr (B + 1) 100 .u64 (List.replicate 25 0) ∧ Kept B (fun _ => False) w wr)
    case first =>
      go_wp2_with fail
      go_loopw [7] (fun i wr => ∃ k : Nat, k ≤ 5 ∧ i = .int .i64 k ∧ Arr wr B 100 .u64 (fT c l k) ∧ Arr wr (B + 1) 100 .u64 (List.replicate 25 0) ∧ Arr wr (B + 1 + 1) 118 .u64 c ∧ Kept B (fun _ => False) w wr) (fun i _ => (5 - intOf i).toNat)
      case atStart => exact ⟨0, by omega, rfl, ha, hr, hc, hg⟩
      case round =>
        clear ha hr hc hg
        obtain ⟨x, hx, rfl, ha, hr, hc, hg⟩ := hrel
        by_cases hlt : x < 5
        · have hlt' : (x : Int) < 5 := by omega
          obtain ⟨m4, e4⟩ : ∃ m : Nat, (x + 4) % 5 = m := ⟨_, rfl⟩
          obtain ⟨m1, e1⟩ : ∃ m : Nat, (x + 1) % 5 = m := ⟨_, rfl⟩
          have f4 : (IntKind.i64.wrap ((x : Int) + 4)).tmod 5 = (m4 : Int) := wtmod _ 5 m4 (by omega) (by omega) (by omega)
          have f1 : (IntKind.i64.wrap ((x : Int) + 1)).tmod 5 = (m1 : Int) := wtmod _ 5 m1 (by omega) (by omega) (by omega)
          have b4 : (m4 : Int) < 5 := by omega
          have b1 : (m1 : Int) < 5 := by omega
          have c4 := hc.cell m4 (by omega)
          have c1 := hc.cell m1 (by omega)
          go_wp2_with fail
          go_quiet ((go_at_call 91; exact Calls.quiet_of_same (rol_any _ _ _ (hcw.gt m1) (by decide) (by decide))))
          obtain ⟨d, hd⟩ : ∃ d, bits .xor .u64 (gt c m4) (rotl (gt c m1) 1) = d := ⟨_, rfl⟩
          have hfd : Hid (fD c x = d) := by show _ = _; rw [fD, e4, e1, hd]
          rw [hd]
          clear f4 f1 e4 e1 b4 b1 c4 c1 hd
          replace ha := ha.drewN nq
          replace hr := hr.drewN nq
          replace hc := hc.drewN nq
          replace hg := hg.drewN nq
          obtain ⟨wo, hwo⟩ : ∃ wo, wr.drewN nq = wo := ⟨_, rfl⟩
          rw [hwo] at ha hr hc hg
          rw [hwo]
          clear hwo
          obtain ⟨s1, hs1⟩ : ∃ s, fT c l x = s := ⟨_, rfl⟩
          have hsl1 : s1.length = 25 := by rw [← hs1, fT_len, hl]
          rw [hs1] at ha
          have HS1 := Lib.hid hs1
          clear hs1
          go_wp2_with fail
          go_loopw [9] (fun i wr => ∃ y : Nat, y ≤ 5 ∧ i = .int .i64 y ∧ Arr wr B 100 .u64 (fT2 d x s1 y) ∧ Arr wr (B + 1) 100 .u64 (List.replicate 25 0) ∧ Arr wr (B + 1 + 1) 118 .u64 c ∧ Kept B (fun _ => False) w wr) (fun i _ => (5 - intOf i).toNat)
          case atStart => exact ⟨0, by omega, rfl, ha, hr, hc, hg⟩
          case round =>
            clear ha hr hc hg
            obtain ⟨y, hy, rfl, ha, hr, hc, hg⟩ := hrel
            by_cases hlt2 : y < 5
            · have hlt2' : (y : Int) < 5 := by omega
              have cs := ha.cell (x + 5 * y) (by rw [fT2_len]; omega)
              have fs := ha.free (x + 5 * y)
              go_wp2_with fail
              go_roundw
              case rel => exact ⟨y + 1, by omega, by go_num, ha.set _ _, hr.other _ _ _ (by omega), hc.other _ _ _ (by omega), hg.set _ _ _ (by omega)⟩
              case measure => simp [intOf]; omega
            · have hlt2' : ¬ ((y : Int) < 5) := by omega
              have hy5 : Hid (y = 5) := by show y = 5; omega
              clear hlt2 hy
              go_wp2_with fail
              go_roundw
              case rel => exact ⟨x + 1, by omega, by go_num, by rw [fT, HS1.out, hfd.out, ← hy5.out]; exact ha, hr, hc, hg⟩
              case measure => simp [intOf]; omega
        · have hlt' : ¬ ((x : Int) < 5) := by omega
          have HX : Hid (x = 5) := by show x = 5; omega
          clear hlt hx
          go_wp2_with fail
          go_meet
          exact ⟨by rw [← HS.out, ← HX.out]; exact ha, hr, hg⟩
    case rest =>
      clear ha hr hc hg
      obtain ⟨ha, hr, hg⟩ := hcut
      have HA : Hid (stepA l = (fR s 24).1) := by show _ = _; rw [stepA, HC.out, HS.out]
      clear HC HS hcw hcl
      go_upto_block 6 with (fail)
      obtain ⟨L, hL⟩ : ∃ L, (fR s 24).1 = L := ⟨_, rfl⟩
      have hLl : L.length = 25 := by rw [← hL, fR_len, hsl]
      have hLw : Ws L := hL ▸ fR_W _ hsw _
      have HL := Lib.hid hL
      clear hL
      go_cut [] (fun wr => Arr wr B 100 .u64 L ∧ Arr wr (B + 1) 100 .u64 (List.replicate 25 0) ∧ Kept B (fun _ => False) w wr)
      case first =>
        go_wp2_with fail
        go_loopw [10, 11, 12] (fun x y i wr => ∃ t : Nat, t ≤ 24 ∧ i = .int .i64 t ∧ x = .int .i64 (fR s t).2.1 ∧ y = .int .i64 (fR s t).2.2 ∧ Arr wr B 100 .u64 (fR s t).1 ∧ Arr wr (B + 1) 100 .u64 (List.replicate 25 0) ∧ Kept B (fun _ => False) w wr) (fun _ _ i _ => (24 - intOf i).toNat)
        case atStart => exact ⟨0, by omega, rfl, rfl, rfl, ha, hr, hg⟩
        case round =>
          clear ha hr hg
          obtain ⟨t, htt, rfl, rfl, rfl, ha, hr, hg⟩ := hrel
          by_cases hlt : t < 24
          · have hlt' : (t : Int) < 24 := by omega
            obtain ⟨x0, hx0⟩ : ∃ x0, (fR s t).2.1 = x0 := ⟨_, rfl⟩
            obtain ⟨y0, hy0⟩ : ∃ y0, (fR s t).2.2 = y0 := ⟨_, rfl⟩
            obtain ⟨M, hM⟩ : ∃ M, (fR s t).1 = M := ⟨_, rfl⟩
            have hxy := fR_xy s t
            have hMl : M.length = 25 := by rw [← hM, fR_len, hsl]
            have hMw : Ws M := hM ▸ fR_W _ hsw _
            rw [hx0, hy0] at hxy
            rw [hM] at ha
            rw [hx0, hy0]
            have HM := Lib.hid hM
            have HX0 := Lib.hid hx0
            have HY0 := Lib.hid hy0
            clear hM hx0 hy0
            obtain ⟨m, hmi, hh, hmb⟩ := rho_arith t hlt
            have HH := Lib.hid hh
            clear hh
            have cs := ha.cell (x0 + 5 * y0) (by omega)
            have fs := ha.free (x0 + 5 * y0)
            go_wp2_with fail
            (with_reducible refine (rol_any _ _ wr (hMw.gt _) (by omega) (by omega)).mono ?_)
            rintro e w1 ⟨rfl, rfl⟩
            go_wp2_with fail
            go_roundw
            case rel => exact ⟨t + 1, by omega, by go_num, by rw [← HY0.out]; rfl, by rw [fR, HX0.out, HY0.out]; go_num, by have := ha.set (x0 + 5 * y0) (rotl (gt M (x0 + 5 * y0)) (m / 2 % 64)); rw [fR, HX0.out, HY0.out, HM.out, ← HH.out]; exact this, hr.other _ _ _ (by omega), hg.set _ _ _ (by omega)⟩
            case measure => simp [intOf]; omega
          · have hlt' : ¬ ((t : Int) < 24) := by omega
            have ht24 : Hid (t = 24) := by show t = 24; omega
            clear hlt htt
            go_wp2_with fail
            go_meet
            exact ⟨by rw [← HL.out, ← ht24.out]; exact ha, hr, hg⟩
      case rest =>
        clear ha hr hg
        obtain ⟨ha, hr, hg⟩ := hcut
        rw [HL.out] at HA
        clear HL
        go_upto_block 8 with (fail)
        obtain ⟨D, hD⟩ : ∃ D, wc.heap.size = D := ⟨_, rfl⟩
        have hDs := hr.lt
        have hb0 : Arr (wc.alloc (.cells (U .u64 (List.replicate 25 0)) 100)) D 100 .u64 (fP L 0) := by subst hD; exact Arr.new _ _ _ _
        have hBD : B + 2 ≤ D := by omega
        replace ha := ha.alloc (.cells (U .u64 (List.replicate 25 0)) 100)
        replace hr := hr.alloc (.cells (U .u64 (List.replicate 25 0)) 100)
        replace hg := hg.alloc (.cells (U .u64 (List.replicate 25 0)) 100) (by omega)
        rw [zero25, hD]
        clear hD hDs
        obtain ⟨b, hb⟩ : ∃ b, fP L 5 = b := ⟨_, rfl⟩
        have hbl : b.length = 25 := by rw [← hb, fP_len]
        have hbw : Ws b := hb ▸ fP_W _ hLw _
        have HB := Lib.hid hb
        clear hb
        go_cut [] (fun wr => Arr wr B 100 .u64 L ∧ Arr wr (B + 1) 100 .u64 (List.replicate 25 0) ∧ Arr wr D 100 .u64 b ∧ Kept B (fun _ => False) w wr)
        case first =>
          go_wp2_with fail
          go_loopw [10] (fun i wr => ∃ k : Nat, k ≤ 5 ∧ i = .int .i64 k ∧ Arr wr B 100 .u64 L ∧ Arr wr (B + 1) 100 .u64 (List.replicate 25 0) ∧ Arr wr D 100 .u64 (fP L k) ∧ Kept B (fun _ => False) w wr) (fun i _ => (5 - intOf i).toNat)
          case atStart => exact ⟨0, by omega, rfl, ha, hr, hb0, hg⟩
          case round =>
            clear ha hr hg hb0
            obtain ⟨x, hx, rfl, ha, hr, hc, hg⟩ := hrel
            by_cases hlt : x < 5
            · have hlt' : (x : Int) < 5 := by omega
              obtain ⟨s1, hs1⟩ : ∃ s, fP L x = s := ⟨_, rfl⟩
              have hsl1 : s1.length = 25 := by rw [← hs1, fP_len]
              rw [hs1] at hc
              have HS1 := Lib.hid hs1
              clear hs1
              go_wp2_with fail
              go_loopw [11] (fun i wr => ∃ y : Nat, y ≤ 5 ∧ i = .int .i64 y ∧ Arr wr B 100 .u64 L ∧ Arr wr (B + 1) 100 .u64 (List.replicate 25 0) ∧ Arr wr D 100 .u64 (fP2 L x s1 y) ∧ Kept B (fun _ => False) w wr) (fun i _ => (5 - intOf i).toNat)
              case atStart => exact ⟨0, by omega, rfl, ha, hr, hc, hg⟩
              case round =>
                clear ha hr hc hg
                obtain ⟨y, hy, rfl, ha, hr, hc, hg⟩ := hrel
                by_cases hlt2 : y < 5
                · have hlt2' : (y : Int) < 5 := by omega
                  have cs := ha.cell (x + 5 * y) (by omega)
                  have cd := hc.cell (y + 5 * ((2 * x + 3 * y) % 5)) (by rw [fP2_len]; omega)
                  have fs := hc.free (y + 5 * ((2 * x + 3 * y) % 5))
                  go_wp2_with fail
                  go_roundw
                  case rel => exact ⟨y + 1, by omega, by go_num, ha.other _ _ _ (by omega), hr.other _ _ _ (by omega), hc.set _ _, hg.set _ _ _ (by omega)⟩
                  case measure => simp [intOf]; omega
                · have hlt2' : ¬ ((y : Int) < 5) := by omega
                  have hy5 : Hid (y = 5) := by show y = 5; omega
                  clear hlt2 hy
                  go_wp2_with fail
                  go_roundw
                  case rel => exact ⟨x + 1, by omega, by go_num, ha, hr, by rw [fP, HS1.out, ← hy5.out]; exact hc, hg⟩
                  case measure => simp [intOf]; omega
            · have hlt' : ¬ ((x : Int) < 5) := by omega
              have HX : Hid (x = 5) := by show x = 5; omega
              clear hlt hx
              go_wp2_with fail
              go_meet
              exact ⟨ha, hr, by rw [← HB.out, ← HX.out]; exact hc, hg⟩
        case rest =>
          clear ha hr hg hb0
          obtain ⟨ha, hr, hc, hg⟩ := hcut
          go_upto_block 12 with (fail)
          obtain ⟨F, hF⟩ : ∃ F, fX b L 5 = F := ⟨_, rfl⟩
          have hFl : F.length = 25 := by rw [← hF, fX_len, hLl]
          have HF : Hid (stepB l = F) := by show _ = _; rw [stepB, HA.out, HB.out, hF]
          have HF2 := Lib.hid hF
          clear hF HB
          go_cut [] (fun wr => Arr wr B 100 .u64 F ∧ Arr wr (B + 1) 100 .u64 (List.replicate 25 0) ∧ Kept B (fun _ => False) w wr)
          case first =>
            go_wp2_with fail
            go_loopw [10] (fun i wr => ∃ k : Nat, k ≤ 5 ∧ i = .int .i64 k ∧ Arr wr B 100 .u64 (fX b L k) ∧ Arr wr (B + 1) 100 .u64 (List.replicate 25 0) ∧ Arr wr D 100 .u64 b ∧ Kept B (fun _ => False) w wr) (fun i _ => (5 - intOf i).toNat)
            case atStart => exact ⟨0, by omega, rfl, ha, hr, hc, hg⟩
            case round =>
              clear ha hr hc hg
              obtain ⟨x, hx, rfl, ha, hr, hc, hg⟩ := hrel
              by_cases hlt : x < 5
              · have hlt' : (x : Int) < 5 := by omega
                obtain ⟨s1, hs1⟩ : ∃ s, fX b L x = s := ⟨_, rfl⟩
                have hsl1 : s1.length = 25 := by rw [← hs1, fX_len, hLl]
                rw [hs1] at ha
                have HS1 := Lib.hid hs1
                clear hs1
                go_wp2_with fail
                go_loopw [11] (fun i wr => ∃ y : Nat, y ≤ 5 ∧ i = .int .i64 y ∧ Arr wr B 100 .u64 (fX2 b x s1 y) ∧ Arr wr (B + 1) 100 .u64 (List.replicate 25 0) ∧ Arr wr D 100 .u64 b ∧ Kept B (fun _ => False) w wr) (fun i _ => (5 - intOf i).toNat)
                case atStart => exact ⟨0, by omega, rfl, ha, hr, hc, hg⟩
                case round =>
                  clear ha hr hc hg
                  obtain ⟨y, hy, rfl, ha, hr, hc, hg⟩ := hrel
                  by_cases hlt2 : y < 5
                  · have hlt2' : (y : Int) < 5 := by omega
                    obtain ⟨m2, e2⟩ : ∃ m : Nat, (x + 2) % 5 = m := ⟨_, rfl⟩
                    obtain ⟨n0, g0⟩ : ∃ m : Nat, x + 5 * y = m := ⟨_, rfl⟩
                    obtain ⟨n2, g2⟩ : ∃ m : Nat, m2 + 5 * y = m := ⟨_, rfl⟩
                    have f2 : (IntKind.i64.wrap ((x : Int) + 2)).tmod 5 = (m2 : Int) := wtmod _ 5 m2 (by omega) (by omega) (by omega)
                    have p5 : IntKind.i64.wrap (5 * (y : Int)) = 5 * (y : Int) := IntWalk.i64_in _ (by omega)
                    have q0 : IntKind.i64.wrap ((x : Int) + 5 * (y : Int)) = (n0 : Int) := by rw [IntWalk.i64_in _ (by omega)]; omega
                    have q2 : IntKind.i64.wrap ((m2 : Int) + 5 * (y : Int)) = (n2 : Int) := by rw [IntWalk.i64_in _ (by omega)]; omega
                    have b0 : (n0 : Int) < 25 := by omega
                    have b2 : (n2 : Int) < 25 := by omega
                    have c0 := hc.cell n0 (by omega)
                    have c1 := hc.cell ((x + 1) % 5 + 5 * y) (by omega)
                    have c2 := hc.cell n2 (by omega)
                    have cs := ha.cell n0 (by rw [fX2_len]; omega)
                    have fs := ha.free n0
                    go_wp2_with fail
                    go_still_tail 22, (by kernel_rfl)
                    change wpList _ _ _ _ _ wr.drew
                    go_wp2_with fail
                    go_roundw
                    case rel => exact ⟨y + 1, by omega, by go_num, by have := ha.drew.set n0 (bits .xor .u64 (gt b n0) (bits .and .u64 (bits .xor .u64 (gt b ((x + 1) % 5 + 5 * y)) 18446744073709551615) (gt b n2))); rw [fX2, e2, g0, g2]; exact this, hr.drew.other _ _ _ (by omega), hc.drew.other _ _ _ (by omega), hg.drew.set _ _ _ (by omega)⟩
                    case measure => simp [intOf]; omega
                  · have hlt2' : ¬ ((y : Int) < 5) := by omega
                    have hy5 : Hid (y = 5) := by show y = 5; omega
                    clear hlt2 hy
                    go_wp2_with fail
                    go_roundw
                    case rel => exact ⟨x + 1, by omega, by go_num, by rw [fX, HS1.out, ← hy5.out]; exact ha, hr, hc, hg⟩
                    case measure => simp [intOf]; omega
              · have hlt' : ¬ ((x : Int) < 5) := by omega
                have HX : Hid (x = 5) := by show x = 5; omega
                clear hlt hx
                go_wp2_with fail
                go_meet
                exact ⟨by rw [← HF2.out, ← HX.out]; exact ha, hr, hg⟩
          case rest =>
            clear ha hr hg hc
            obtain ⟨ha, hr, hg⟩ := hcut
            have ha0 := ha.cell 0 (by omega)
            have haf := ha.free 0
            obtain ⟨v, hv⟩ : ∃ v, bits .xor .u64 (gt F 0) rc = v := ⟨_, rfl⟩
            have ha2 := ha.set 0 v
            go_wp2_with (first | (refine wpList_load_arr rfl 100 _ rfl rfl ha2 Tryd.underlying100 rfl 25 inf_a25 (by rw [st_len, hFl]) ?_) | (refine wpList_store_arr rfl 100 _ _ rfl rfl rfl (hr.other _ _ _ (by omega)) 25 inf_a25 (by rw [st_len, hFl]) rfl ?_))
            refine bodyPost_arr 4 100 25 Tryd.underlying100 rfl inf_a25 rfl rfl rfl ((hr.other B 0 (.int .u64 v) (by omega)).setRow _) (by rw [st_len, hFl]) ⟨by rw [stepS, HF.out, hv], ?_⟩
            exact hBv.out ▸ ((hg.set B 0 (.int .u64 v) (by omega)).setRow (B + 1) _ (by omega)).below

end Go.Proofs.YtfaonieaagepjaaDoor
