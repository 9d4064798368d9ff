/- Sha5Long, walked. Conditions: the text reads as bytes, the byte is one; the tables. -/
import Derived.Test.YtabpbnkipdjnlaaDoorS5H
namespace Go.Proofs.YtabpbnkipdjnlaaDoor
open Go.RowKit
set_option linter.unusedVariables false
set_option linter.unusedSimpArgs false

theorem B8_of_wf {x : Int} (h : (Lit.int .u8 x).wf = true) : B8 x := by
  simp [Lit.wf, IntKind.min, IntKind.max, IntKind.bits, IntKind.signed] at h
  exact ⟨by omega, by omega⟩
theorem run_slice_h {P : Program} (ty e : TypeId) (hu : P.underlying ty = some (.slice e)) (A : Option Addr) (n c hi : Nat) (h2 : hi ≤ c) (k' : IntKind) (hs : (P.info? e).map (·.size) = some 1) (w : World) :
    (Instr.slice ty (.slice A n c) none (some (.int k' (hi : Int))) none).run P w = .ok (.slice A hi c) w := by
  cases hq : P.info? e with
  | none => simp [hq] at hs
  | some f =>
    have hs : f.size = 1 := by simpa [hq] using hs
    have a2 : (hi : Int) ≤ (c : Int) := by omega
    have e0 : ∀ b : Addr, b.add 0 = b := fun b => by cases b; simp [Addr.add]
    simp [Instr.slice, run_underlying hu, Instr.sliceBounds, Instr.sliceBound, asIntOf, go_sem, sizeOf, typeInfo, hq, hs, a2, h2]
    try (intro h; cases A <;> simp [e0])
theorem cuts2 {w : World} {D N i c c2 T : Nat} {A A2 : Option Addr} {m : List Int} (h : Rd w D .u8 A m) (hD : D ≤ w.heap.size) (hm : m.length = N) (hi : i ≤ N) (hc : N ≤ c) (hA2 : (if c = i then A else A.map (·.add i)) = A2) (hc2 : c - i = c2) :
    Parts (w.alloc (.cells #[.slice A i c, .slice A2 (N - i) c2] T)) (w.heap.size + 1) (some ⟨w.heap.size, 0, none⟩) [m.take i, m.drop i] := by
  have h1 := (h.take_ i).more hD
  have h2 := (h.cut i N c (by omega) hc).more hD
  rw [← hm, List.take_length, hA2] at h2
  exact parts2 (Nat.le_refl _) (h1.part (n := i) (c := c) (by simp; omega) (by omega)) (h2.part (n := N - i) (c := c2) (by simp; omega) (by omega))
def JL (wD : World) (D N : Nat) (gk : Nat) (v : Value) (w : World) : Prop :=
  ∃ i : Nat, v = .int .i64 i ∧ gk = 2 * N + 2 - i ∧ i ≤ 2 * N + 1 ∧ Kept D (fun _ => False) wD w

set_option maxRecDepth 100000 in
set_option maxHeartbeats 1000000 in
theorem long5_walk (l : List Int) (A : Option Addr) (c : Nat) (x : Int) (w : World) (hr : Rd w w.heap.size .u8 A l) (hlc : l.length ≤ c) (hc : c ≤ 9223372036854775807) (hby : Bys l) (hx : B8 x) (ht : S5Tab w) :
    Calls Tryd.prog 13 #[.slice A l.length c, .int .u8 x] w fun e w' => e = .returned (.bool true) ∧ Below w.heap.size w w' := by
  have hz := World.block_lt_of_cell? w _ (ht.1 0 (by decide))
  have hz0 := World.block_lt_of_cell? w _ (ht.2 0 (by decide))
  have hz2 : 2 < w.heap.size := hz
  have hz3 : 3 < w.heap.size := hz0
  clear hz hz0
  go_enter Tryd.func13, Tryd.ntmps13
  go_wp2_with fail
  (with_reducible refine (awake03_any w ht).mono ?_)
  rintro e w1 ⟨rfl, hb1⟩
  have hr1 := hr.below hb1
  have hs1 := hb1.size
  by_cases h3 : 300 < l.length
  · have h3I : (300 : Int) < l.length := by omega
    go_wp2_with fail
    go_ret
    exact ⟨rfl, hb1⟩
  · have h3I : ¬ (300 : Int) < l.length := by omega
    have hmx : (200000000 : Nat) ≤ maxLen := by decide
    have hOe := Own.lit (b := w1.heap.size) (e := 5) (k := .u8) w1 [] (by omega) (Nat.zero_le _)
    have hRe := hr1.alloc hs1 (.cells #[] 5)
    have hll : l.length ≤ 300 := by omega
    have hKe : Kept w.heap.size (fun _ => False) w (w1.alloc (.cells #[] 5)) := (Kept.of_below (S := fun _ => False) hb1).alloc _ hs1
    go_wp2_with (first
      | (at_builtin; refine wpList_app rfl (.tmp 13) (.tmp 14) 36 5 .u8 1 rfl Tryd.underlying36 inf_u8 hOe hRe rfl rfl rfl l rfl l.length rfl (by omega) (by omega) (by simp) ?_; intro Aa ca wa hOa hga hfa)
      | (at_builtin; have hOb := hOa.alloc (.cells (U .u8 [x]) 5); have hNb := Rd.of_arr (B := wa.heap.size + 1) (Arr.new wa 5 .u8 [x]) (by omega); refine wpList_app rfl (.tmp 15) (.tmp 17) 36 5 .u8 1 rfl Tryd.underlying36 inf_u8 hOb hNb rfl rfl rfl (l ++ [x]) rfl (l.length + 1) (by simp) (by omega) (by omega) (by have := hga.size; simp at this ⊢; omega) ?_; intro Ab cb wb hOb' hgb hfb))
    have hKb : Kept w.heap.size (fun _ => False) w wb := by
      have h2 := hKe.grew hOe hga (by omega) (by simp; omega)
      have h3 := h2.alloc (.cells (U .u8 [x]) 5) h2.size
      exact h3.grew (hOa.alloc (.cells (U .u8 [x]) 5)) hgb (by omega) (by have := hga.size; simp at this ⊢; omega)
    obtain ⟨m, hm⟩ : ∃ m, l ++ [x] = m := ⟨_, rfl⟩
    obtain ⟨N, hN⟩ : ∃ N, l.length + 1 = N := ⟨_, rfl⟩
    have hmN : m.length = N := by rw [← hm, ← hN]; simp
    have hmB : Bys m := by rw [← hm]; exact hby.append (Bys.one hx)
    have hN1 : N ≤ 301 := by omega
    have hRb := hOb'.rd
    have hcb := hOb'.len.2
    rw [hm] at hRb hcb
    rw [hmN] at hcb
    rw [hN]
    have htb := ht.kept hKb hz2 hz3 (fun h => h) (fun h => h)
    have hsb := hKb.size
    clear hOe hRe hKe hga hfa hgb hfb hOb hNb hOb' hOa hr hr1 hm hb1 hs1 hN h3I hll h3
    (with_reducible refine (one5_any m Ab cb wb.heap.size N wb hRb (Nat.le_refl _) (by omega) hmN hcb hmB htb (by omega) (by omega)).mono ?_)
    rintro e w2 ⟨A2, c2, rfl, hF2, hb2⟩
    have hR2 := hRb.below hb2
    have hs2 := hb2.size
    have hK2 := hKb.trans (S' := fun _ => False) (Kept.of_below hb2) hsb (fun _ _ h => h)
    have hS2 := hF2.rd
    obtain ⟨D, hD⟩ : ∃ D, w2.heap.size = D := ⟨_, rfl⟩
    have hR2 := hR2.more hs2
    rw [hD] at hR2 hS2
    have HD := Lib.hid hD
    have hDw : w.heap.size ≤ D := by omega
    clear hRb hF2 hb2 hD hs2 hsb hKb htb
    go_wp2_with fail
    go_loopg [7] (2 * N + 2) (fun gk v wr => JL w2 D N gk v wr)
    case atStart => exact ⟨0, rfl, by omega, by omega, Kept.refl _ _ _⟩
    case round =>
      obtain ⟨i, rfl, hgk, hi2, hK⟩ := hrel
      have HGK := Lib.hid hgk
      clear hgk
      by_cases hlt : i ≤ N
      · have hltI : (i : Int) ≤ (N : Int) := by omega
        have hR3 := hR2.kept hK (Nat.le_refl _) (fun _ _ h => h)
        have hS3 := hS2.kept hK (Nat.le_refl _) (fun _ _ h => h)
        have hK3 := hK2.trans (S' := fun _ => False) hK hDw (fun _ _ h => h)
        have hT3 := ht.kept hK3 hz2 hz3 (fun h => h) (fun h => h)
        have hsr : D ≤ wr.heap.size := by have := hK.size; have := HD.out; omega
        have hl1 := fun wx => run_slice_h (P := Tryd.prog) 36 5 Tryd.underlying36 Ab N cb i (by omega) .i64 (by kernel_rfl) wx
        have hl2 := fun wx => run_slice_a (P := Tryd.prog) 36 5 Tryd.underlying36 (by kernel_rfl) Ab N cb i hlt .i64 wx
        obtain ⟨A5, hA5⟩ : ∃ A5, (if cb = i then Ab else Ab.map (·.add i)) = A5 := ⟨_, rfl⟩
        obtain ⟨c5, hc5⟩ : ∃ c5, cb - i = c5 := ⟨_, rfl⟩
        obtain ⟨n5, hn5⟩ : ∃ n5, N - i = n5 := ⟨_, rfl⟩
        rw [hA5, hc5, hn5] at hl2
        have hP := cuts2 (T := 36) hR3.drew hsr hmN hlt hcb hA5 hc5
        rw [hn5] at hP
        have HP := Lib.hid hP
        have HS3 := Lib.hid hS3
        have HK3 := Lib.hid hK3
        have HK := Lib.hid hK
        have HSR := Lib.hid hsr
        have hTb := hT3.kept (((Kept.refl wr.heap.size (fun _ => False) wr).drew.alloc (.cells #[.slice Ab i cb, .slice A5 n5 c5] 36) (Nat.le_refl _))) (by have := hK3.size; omega) (by have := hK3.size; omega) (fun h => h) (fun h => h)
        have HTB := Lib.hid hTb
        clear hP hS3 hK3 hK hsr hA5 hc5 hn5 hR3 hT3 hTb
        go_upto_region 12 with fail
        go_region_with (first
          | (go_at_call 34; refine (parts_any _ _ 2 _ 2 [m.take i, m.drop i] m (by simp) HP.out rfl (by simp) (Nat.le_refl _) (by omega) (by omega) hmB HTB.out (by have := HK3.out.size; simp; omega) (by have := HK3.out.size; simp; omega)).mono ?_; rintro e wz ⟨Az, cz, rfl, hFz, hbz⟩)
          | (go_at_call 24; have hSz := (HS3.out.drew.alloc HSR.out (.cells #[.slice Ab i cb, .slice A5 n5 c5] 36)).below (hbz.mono (by have := HSR.out; simp; omega)); refine (same5_true _ Az A2 (sum5 m) 64 cz c2 _ D hFz.rd hSz (sum5_len _) (by omega)).mono ?_; rintro e wy ⟨rfl, q, rfl⟩))
        go_wp2_with fail
        go_roundg (2 * N + 2 - (i + 1 + N / 8))
        case measure => have := HGK.out; omega
        case rel =>
          have h1 := (HK.out.drew.alloc (.cells #[.slice Ab i cb, .slice A5 n5 c5] 36) HSR.out)
          have h2 := h1.trans (S' := fun _ => False) (Kept.of_below hbz) (by have := HSR.out; simp; omega) (fun _ _ h => h)
          exact ⟨i + 1 + N / 8, by go_num, rfl, by omega, h2.drewN q⟩
      · have hltI : ¬ (i : Int) ≤ (N : Int) := by omega
        go_wp2_with fail
        go_ret
        exact ⟨rfl, (hK2.trans (S' := fun _ => False) hK hDw (fun _ _ h => h)).below⟩

end Go.Proofs.YtabpbnkipdjnlaaDoor
