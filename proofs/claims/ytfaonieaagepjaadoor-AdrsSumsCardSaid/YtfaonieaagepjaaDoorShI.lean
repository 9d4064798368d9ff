/- The reference's sum of a text: as many bytes as are asked for of the row that the text gives. Conditions: the text has at most 100000000 bytes. -/
import Derived.Test.YtfaonieaagepjaaDoorShP
import Derived.Test.YtfaonieaagepjaaDoorShG
namespace Go.Proofs.YtfaonieaagepjaaDoor
open Go.RowKit
set_option maxRecDepth 100000
set_option linter.unusedVariables false
set_option linter.unusedSimpArgs false

theorem wle_step {T : List Int} (hT : Bys T) {o m kk : Nat} (hk : kk = 7 - m) (hm : m < 8) {x y : Int} (hx : wle T o m = x) (hy : gt T (o + kk) = y) : IntKind.u64.wrap (IntKind.u64.wrap (x * 256) + y) = wle T o (m + 1) := by
  have h1 := wle_bd hT o (m + 1)
  have hp : ∀ m, m < 8 → (256 : Int) ^ (m + 1) ≤ 18446744073709551616 := by decide
  have h2 := hp m hm
  have hyb := hT.gt (o + kk)
  have hxb := wle_bd hT o m
  unfold B8 at hyb
  rw [wle, show o + 7 - m = o + kk by omega, hx, hy] at h1 ⊢
  rw [hy] at hyb
  rw [hx] at hxb
  rw [IntKind.wrap_u64, IntKind.wrap_u64]
  omega
theorem wle_blk (T : List Int) (a i : Nat) (hi : i < 17) : ∀ m, m ≤ 8 → wle ((T.drop a).take 136) (8 * i) m = wle T (a + 8 * i) m
  | 0, _ => rfl
  | m + 1, h => by
    rw [wle, wle, wle_blk T a i hi m (by omega), gt_take _ _ _ (by omega), gt_drop]
    congr 2
    omega
theorem gt_giveL (s : List Int) (j : Nat) (hj : j < 136) : gt (giveL s) j = byteAt s j := by
  rw [giveL, gt_giveN _ _ _ (Nat.le_refl _), if_pos hj]
theorem seg_snoc (S : List Int) (m : Nat) : seg S 0 m ++ [sb S m] = seg S 0 (m + 1) := by simp [seg, List.range_succ]
theorem sb_word {S s : List Int} {q i k m0 m1 : Nat} {x y : Int} (hs : iterP S q = s) (hi : i < 17) (hk : k < 8) (h0 : 136 * q = m0) (h1 : m0 + 8 * i = m1) (hx : gt s i = x) (hy : x / 2 ^ (8 * k) = y) : sb S (m1 + k) = y % 256 := by
  have e1 : (m1 + k) / 136 = q := by omega
  have e2 : (m1 + k) % 136 = 8 * i + k := by omega
  have e3 : (8 * i + k) / 8 = i := by omega
  have e4 : (8 * i + k) % 8 = k := by omega
  rw [sb, e1, e2, hs, gt_giveL _ _ (by omega), byteAt, e3, e4, hx, hy]
theorem div_next {x y : Int} {k : Nat} (hx : W64 x) (hy : x / 2 ^ (8 * k) = y) : IntKind.u64.wrap (y.tdiv 256) = x / 2 ^ (8 * (k + 1)) := by
  have hp : (0 : Int) < 2 ^ (8 * k) := Int.pow_pos (by decide)
  have hy0 : 0 ≤ y := by rw [← hy]; exact Int.ediv_nonneg hx.1 (by omega)
  have hy1 : y ≤ x := by rw [← hy]; exact Int.ediv_le_self _ hx.1
  have e : y / 256 = x / 2 ^ (8 * (k + 1)) := by
    rw [← hy, Int.ediv_ediv, if_neg (by omega), show 8 * (k + 1) = 8 * k + 8 by omega, Int.pow_add]
    simp
  have := hx.2
  rw [Int.tdiv_eq_ediv_of_nonneg hy0, IntKind.wrap_u64, ← e]
  omega
/-- While the text is made. -/
def R1 (w0 : World) (B : Nat) (l : List Int) (gk : Nat) (v : Value) (w : World) : Prop :=
  ∃ (j : Nat) (A : Option Addr) (c : Nat), v = .slice A (l.length + 1 + j) c ∧ j ≤ padJ l ∧ gk = padJ l - j ∧ Own w (B + 1) 5 .u8 (.slice A (l.length + 1 + j) c) (padZ l j) ∧ Kept (B + 1) (fun _ => False) w0 w

def R2 (w0 : World) (C : Nat) (T : List Int) (gk : Nat) (v : Value) (w : World) : Prop :=
  ∃ i : Nat, v = .int .i64 ((136 * i : Nat) : Int) ∧ 136 * i ≤ T.length ∧ gk = T.length / 136 - i ∧ Arr w C 100 .u64 (absS T i) ∧ Kept C (fun _ => False) w0 w
def R3 (w0 : World) (C : Nat) (S b : List Int) (gk : Nat) (v : Value) (w : World) : Prop :=
  ∃ i : Nat, v = .int .i64 i ∧ i ≤ 17 ∧ gk = 17 - i ∧ Arr w C 100 .u64 (xorW S b i) ∧ Kept C (fun _ => False) w0 w
def R4 (w0 : World) (T : List Int) (o : Nat) (gk : Nat) (v v' : Value) (w : World) : Prop :=
  ∃ (m : Nat) (z : Int), v = .int .u64 (wle T o m) ∧ v' = .int .i64 z ∧ z = 7 - (m : Int) ∧ m ≤ 8 ∧ gk = 8 - m ∧ w0 = w

def R5 (w0 : World) (C : Nat) (S : List Int) (n gk : Nat) (v : Value) (w : World) : Prop :=
  ∃ (q : Nat) (A : Option Addr) (c : Nat), v = .slice A (136 * q) c ∧ Own w (C + 1) 5 .u8 (.slice A (136 * q) c) (seg S 0 (136 * q)) ∧ Arr w C 100 .u64 (iterP S q) ∧ Kept C (fun _ => False) w0 w ∧ 136 * q < n + 136 ∧ gk = n / 136 + 1 - q
def R6 (w0 : World) (C : Nat) (S : List Int) (m0 gk : Nat) (v v' : Value) (w : World) : Prop :=
  ∃ (i : Nat) (A : Option Addr) (c : Nat), v = .slice A (m0 + 8 * i) c ∧ v' = .int .i64 i ∧ i ≤ 17 ∧ gk = 17 - i ∧ Own w (C + 1) 5 .u8 (.slice A (m0 + 8 * i) c) (seg S 0 (m0 + 8 * i)) ∧ Kept (C + 1) (fun _ => False) w0 w
def R7 (w0 : World) (C : Nat) (S : List Int) (m1 : Nat) (x : Int) (gk : Nat) (v v' v'' : Value) (w : World) : Prop :=
  ∃ (k : Nat) (A : Option Addr) (c : Nat), v = .slice A (m1 + k) c ∧ v' = .int .u64 (x / 2 ^ (8 * k)) ∧ v'' = .int .i64 k ∧ k ≤ 8 ∧ gk = 8 - k ∧ Own w (C + 1) 5 .u8 (.slice A (m1 + k) c) (seg S 0 (m1 + k)) ∧ Kept (C + 1) (fun _ => False) w0 w

def RefPostF (w : World) (l : List Int) (n : Nat) (e : Ending) (w' : World) : Prop :=
  ∃ A' c', e = .returned (.slice A' n c') ∧ Rd w' w'.heap.size .u8 A' (seg (newS l) 0 n) ∧ n ≤ c' ∧ Below w.heap.size w w'
def RefPost (w : World) (l : List Int) (n : Nat) (e : Ending) (w' : World) : Prop :=
  ∃ A' c', e = .returned (.slice A' n c') ∧ Rd w' w'.heap.size .u8 A' (seg (newS l) 0 n) ∧ Below w.heap.size w w'
set_option maxRecDepth 100000 in
set_option maxHeartbeats 2000000 in
theorem refsumF_any (l : List Int) (A : Option Addr) (c B0 n : Nat) (w : World) (hr : Rd w B0 .u8 A l) (hB : B0 ≤ w.heap.size) (hl : l.length ≤ 100000000) (hn : n ≤ 65536) (hby0 : Bys l) :
    Calls Tryd.prog 66 #[.slice A l.length c, .int .i64 n] w (RefPostF w l n) := by
  have hnI : (n : Int) ≤ 65536 := by omega
  go_enter Tryd.func66, Tryd.ntmps66
  go_wp2_with fail
  (with_reducible refine (constants_any w).mono ?_)
  rintro e w1 ⟨rfl, hb1⟩
  have hK1 := Kept.of_below (S := fun _ => False) hb1
  have hsz1 := hb1.size
  have hB1 : w.heap.size ≤ w1.heap.size := hsz1
  have hN2 := Arr.new w1 98 .u64 (List.replicate 24 0)
  have hK2 := (hK1.mono (B' := w.heap.size) (S' := fun _ => False) (Nat.le_refl _) (fun _ _ h => h)).alloc (.cells (U .u64 (List.replicate 24 0)) 98) hsz1
  go_upto_region 4 with (refine wpList_store_arr rfl 98 _ _ rfl rfl rfl hN2 24 inf_a24 rfl rfl ?_)
  obtain ⟨B, hBe⟩ : ∃ B, w1.heap.size = B := ⟨_, rfl⟩
  have hN3 := hN2.setRow rcL
  have hK3 := hK2.setRow w1.heap.size (U .u64 rcL) (.inl hsz1)
  rw [hBe] at hN3 hK3 hsz1 ⊢
  have hs3 : ((w1.alloc (.cells (U .u64 (List.replicate 24 0)) 98)).setRow B (U .u64 rcL)).heap.size = B + 1 := by simp [hBe]
  change Code.wp _ _ _ _ ((w1.alloc (.cells (U .u64 (List.replicate 24 0)) 98)).setRow B (U .u64 rcL))
  generalize (w1.alloc (.cells (U .u64 (List.replicate 24 0)) 98)).setRow B (U .u64 rcL) = w3 at hN3 hK3 hs3 ⊢
  have hr3 := hr.kept hK3 hB (fun _ _ h => h)
  have hOe := Own.lit (b := B + 1) (e := 5) (k := .u8) w3 [] (by omega) (Nat.zero_le _)
  have hRe := hr3.alloc (by omega) (.cells #[] 5)
  have hKe := hK3.alloc (.cells #[] 5) (by omega)
  have hNe := hN3.alloc (.cells #[] 5)
  have hHB := Lib.hid hBe
  have hmx : (200000000 : Nat) ≤ maxLen := by decide
  have HL := Lib.hid hl
  have HS3 := Lib.hid hs3
  clear hN2 hK2 hK1 hb1 hB1 hr hBe hl hs3 hB
  go_upto_region 5 with (first
    | (at_builtin; refine wpList_app rfl (.tmp 23) (.tmp 24) 24 5 .u8 1 rfl Tryd.underlying24 inf_u8 hOe hRe rfl rfl rfl l rfl l.length rfl (by have := HL.out; omega) (by have := HL.out; omega) (by have := HS3.out; simp; omega) ?_; intro Aa ca wa hOa hga hfa)
    | (at_builtin; have hOb := hOa.alloc (.cells (U .u8 [31]) 5); have hNb := Rd.of_arr (B := wa.heap.size + 1) (Arr.new wa 5 .u8 [31]) (by omega); refine wpList_app rfl (.tmp 25) (.tmp 26) 24 5 .u8 1 rfl Tryd.underlying24 inf_u8 hOb hNb rfl rfl rfl (padZ l 0) (by simp [padZ]) (l.length + 1) (by rw [padZ_len]) (by have := HL.out; omega) (by have := HL.out; omega) (by have := HS3.out; have := hga.size; simp at this ⊢; omega) ?_; intro Ab cb wb hOb' hgb hfb))
  have hKb : Kept (B + 1) (fun _ => False) w3 wb := by
    have h0 := HS3.out
    have h1 := (Kept.refl (B + 1) (fun _ => False) w3).alloc (.cells #[] 5) (by omega)
    have h2 := h1.grew hOe hga (Nat.le_refl _) (by simp; omega)
    have h3 := h2.alloc (.cells (U .u8 [31]) 5) (by have := hga.size; simp at this; omega)
    exact h3.grew (hOa.alloc (.cells (U .u8 [31]) 5)) hgb (Nat.le_refl _) (by have := hga.size; simp at this ⊢; omega)
  clear hOe hRe hKe hNe hOa hga hfa hgb hfb hr3
  go_loopg [6] (padJ l) (fun gk v wr => R1 w3 B l gk v wr)
  case atStart => exact ⟨0, Ab, cb, rfl, Nat.zero_le _, rfl, hOb', hKb⟩
  case round =>
    clear hOb' hKb
    obtain ⟨j, A6, c6, rfl, hj, hgk, hO, hK⟩ := hrel
    have hjl := padJ_lt l
    have hL := HL.out
    have hat := padJ_at l j hj
    rw [padZ_len] at hat
    have hwl : B + 1 ≤ wr.heap.size := by have := hK.size; have := HS3.out; omega
    by_cases hlt : (l.length + 1 + j) % 136 = 0
    · have hj2 : j = padJ l := hat.1 hlt
      have ht : ((l.length : Int) + 1 + (j : Int)) % 136 = 0 := by omega
      obtain ⟨M, hM⟩ : ∃ M, padZ l j = M := ⟨_, rfl⟩
      have hMl : M.length = l.length + 1 + j := by rw [← hM, padZ_len]
      have hTx : textL l = st M (M.length - 1) (bits .xor .u8 (gt M (M.length - 1)) 128) := by rw [← hM, hj2]; rfl
      obtain ⟨N, hN⟩ : ∃ N, l.length + 1 + j = N + 1 := ⟨l.length + j, by omega⟩
      rw [hM] at hO
      rw [hN] at hO hMl ⊢
      have htN : ((N : Int) + 1) % 136 = 0 := by omega
      have hNb : N < 200000000 := by omega
      obtain ⟨g6, rfl, -, hg6, hg6', hc6⟩ := hO.where_ (by omega)
      have hcl := hO.cell N (by omega)
      have hfl := hO.free N
      have HM := Lib.hid hM
      have HTX := Lib.hid hTx
      have HMl := Lib.hid hMl
      have hc6' : N + 1 ≤ c6 := by omega
      clear hM hTx hMl hN ht hlt hat hj2 hgk hjl hL
      go_wp2_with fail
      obtain ⟨C, hC⟩ : ∃ C, wr.heap.size = C := ⟨_, rfl⟩
      obtain ⟨T, hT⟩ : ∃ T, st M N (bits .xor .u8 (gt M N) 128) = T := ⟨_, rfl⟩
      have hTl : T.length = N + 1 := by rw [← hT, st_len]; exact HMl.out
      have hTt : textL l = T := by rw [HTX.out, HMl.out]; exact hT
      have hO6 := hO.stored N (bits .xor .u8 (gt M N) 128)
      have hK6 := hK.set g6 N (.int .u8 (bits .xor .u8 (gt M N) 128)) (.inl (by omega))
      have hs6 : (wr.setCell ⟨g6, N, none⟩ (.int .u8 (bits .xor .u8 (gt M N) 128))).heap.size = C := by simpa [World.setCell] using hC
      rw [hT] at hO6
      rw [hC] at hg6' hwl ⊢
      generalize wr.setCell ⟨g6, N, none⟩ (.int .u8 (bits .xor .u8 (gt M N) 128)) = w6 at hO6 hK6 hs6 ⊢
      have hR7 := hO6.rp.keep (w' := w6.alloc (.cells (U .u64 (List.replicate 25 0)) 100)) (fun q hq => World.cell?_of_block (Below.heap_alloc w6 _ q.block (by omega)))
      have hS7 := Arr.new w6 100 .u64 (List.replicate 25 0)
      have hK7 := hK6.alloc (.cells (U .u64 (List.replicate 25 0)) 100) (by omega)
      have hs7 : (w6.alloc (.cells (U .u64 (List.replicate 25 0)) 100)).heap.size = C + 1 := by simp [hs6]
      rw [hs6] at hS7
      change Code.wp _ _ _ _ (w6.alloc (.cells (U .u64 (List.replicate 25 0)) 100))
      generalize w6.alloc (.cells (U .u64 (List.replicate 25 0)) 100) = w7 at hR7 hS7 hK7 hs7 ⊢
      have HC := Lib.hid hC
      have HTt := Lib.hid hTt
      have HTl := Lib.hid hTl
      have HTN : Hid (T.length % 136 = 0) := by show T.length % 136 = 0; omega
      have HS7 := Lib.hid hs7
      have hTB : Bys T := by
        rw [← hTt]
        exact (padZ_B hby0 _).st _ (B8.bits _ _ _)
      have HTB := Lib.hid hTB
      clear hC hT hTt hTl hO6 hK6 hs6 hs7 hO hK hcl hfl htN hTB
      go_loopg [8] (T.length / 136) (fun gk v wr => R2 w7 C T gk v wr)
      case atStart => exact ⟨0, rfl, by omega, rfl, hS7, Kept.refl _ _ _⟩
      case round =>
        clear hS7
        obtain ⟨wo, rfl⟩ : ∃ wo : World, wo = wr := ⟨_, rfl⟩
        obtain ⟨i, rfl, hi, hgk, hS, hK⟩ := hrel
        obtain ⟨at_, hat⟩ : ∃ a, 136 * i = a := ⟨_, rfl⟩
        obtain ⟨S, hSe⟩ : ∃ S, absS T i = S := ⟨_, rfl⟩
        have hS25 : S.length = 25 := by rw [← hSe, absS_len]
        have hSW : Ws S := hSe ▸ absS_W T i
        rw [hat] at hi ⊢
        rw [hSe] at hS
        have HAT := Lib.hid hat
        have HSE := Lib.hid hSe
        have HGK := Lib.hid hgk
        have hRT := hR7.kept hK (fun q hq => by subst hq; exact ⟨by omega, fun h => h⟩)
        by_cases hlt : at_ < N + 1
        · have hltI : (at_ : Int) < (N : Int) + 1 := by omega
          have hbig : at_ + 136 ≤ N + 1 := by have := HTN.out; have := HTl.out; have := HAT.out; omega
          clear hat hSe hgk hi
          go_wp2_with fail
          go_loopg [9] 17 (fun gk v wr => R3 w7 C S ((T.drop at_).take 136) gk v wr)
          case atStart => exact ⟨0, rfl, by omega, rfl, hS, hK⟩
          case round =>
            clear hS hK hRT
            obtain ⟨wx, rfl⟩ : ∃ wx : World, wx = wr := ⟨_, rfl⟩
            obtain ⟨i2, rfl, hi2, hgk2, hS, hK⟩ := hrel
            have hRT := hR7.kept hK (fun q hq => by subst hq; exact ⟨by omega, fun h => h⟩)
            have HGK2 := Lib.hid hgk2
            by_cases hlt2 : i2 < 17
            · have hlt2I : (i2 : Int) < 17 := by omega
              clear hgk2
              go_wp2_with fail
              go_loopg [10, 11] 8 (fun gk v v' wr => R4 wx T (at_ + 8 * i2) gk v v' wr)
              case atStart => exact ⟨0, 7, rfl, rfl, rfl, by omega, rfl, rfl⟩
              case round =>
                obtain ⟨m, z, rfl, rfl, hz, hm, hgk3, rfl⟩ := hrel
                have HGK3 := Lib.hid hgk3
                by_cases hlt3 : m < 8
                · obtain ⟨kk, rfl⟩ : ∃ kk : Nat, z = kk := ⟨7 - m, by omega⟩
                  have hcell : wx.cell? ⟨g6, at_ + 8 * i2 + kk, none⟩ = some (.int .u8 (gt T (at_ + 8 * i2 + kk))) := by
                    have h1 := hRT (by have := HTl.out; omega)
                    obtain ⟨ad, e, _, h⟩ := h1
                    injection e with e
                    subst e
                    have := h (at_ + 8 * i2 + kk) (by have := HTl.out; omega)
                    rwa [plus_head] at this
                  have hkk : kk = 7 - m := by omega
                  have HZ := Lib.hid hz
                  have HKK := Lib.hid hkk
                  have hlt3I : (m : Int) < 8 := by omega
                  have hkI : (0 : Int) ≤ (kk : Int) := by omega
                  have hk8 : kk < 8 := by omega
                  obtain ⟨y, hy⟩ : ∃ y, gt T (at_ + 8 * i2 + kk) = y := ⟨_, rfl⟩
                  have hyb : B8 y := hy ▸ HTB.out.gt _
                  have hy0 := hyb.1
                  have hy1 := hyb.2
                  rw [hy] at hcell
                  have HY := Lib.hid hy
                  obtain ⟨x, hx⟩ : ∃ x, wle T (at_ + 8 * i2) m = x := ⟨_, rfl⟩
                  have hx0 : 0 ≤ x := hx ▸ (wle_bd HTB.out _ _).1
                  rw [hx]
                  have HX := Lib.hid hx
                  clear hy hx hz hkk hgk3 hyb
                  go_wp2_with fail
                  go_roundg (8 - (m + 1))
                  case measure => have := HGK3.out; omega
                  case rel => exact ⟨m + 1, (kk : Int) - 1, by rw [wle_step HTB.out HKK.out hlt3 HX.out HY.out], rfl, by have := HZ.out; push_cast; omega, by omega, rfl, rfl⟩
                · have hzn : ¬ ((0 : Int) ≤ z) := by omega
                  obtain rfl : m = 8 := by omega
                  have hcl := hS.cell i2 (by rw [xorW_len]; omega)
                  have hfl := hS.free i2
                  have HZ := Lib.hid hz
                  clear hz hgk3
                  obtain ⟨x, hx⟩ : ∃ x, wle T (at_ + 8 * i2) 8 = x := ⟨_, rfl⟩
                  rw [hx]
                  have HX := Lib.hid hx
                  clear hx
                  go_wp2_with fail
                  go_roundg (17 - (i2 + 1))
                  case measure => have := HGK2.out; omega
                  case rel =>
                    refine ⟨i2 + 1, by go_num, by omega, rfl, ?_, hK.set C i2 _ (.inl (Nat.le_refl _))⟩
                    have h := hS.set i2 (bits .xor .u64 (gt (xorW S ((T.drop at_).take 136) i2) i2) x)
                    rw [xorW, wle_blk T at_ i2 hlt2 8 (Nat.le_refl _), HX.out]
                    exact h
            · have hlt2I : ¬ ((i2 : Int) < 17) := by omega
              have hi17 : i2 = 17 := by omega
              obtain ⟨L, hL⟩ : ∃ L, xorW S ((T.drop at_).take 136) i2 = L := ⟨_, rfl⟩
              have hLl : L.length = 25 := by rw [← hL, xorW_len, hS25]
              have hLw : Ws L := hL ▸ xorW_W _ hSW _
              have hfin : Hid (permute L = absS T (i + 1)) := by
                show permute L = _
                rw [absS, HSE.out, HAT.out, ← hL, hi17, ← mixN_xorW S _ hS25 hSW ((HTB.out.drop at_).take 136) 17 (Nat.le_refl _)]
              rw [hL] at hS
              have hrcx := (hN3.kept hK7 (by omega) (fun h => h)).kept hK (by omega) (fun h => h)
              have hltC := hS.lt
              clear hL hi17 hgk2
              go_wp2_with (first | (refine wpList_load_arr (o := ⟨some 81, _, _, _, _, _⟩) rfl 100 _ rfl rfl hS Tryd.underlying100 rfl 25 inf_a25 hLl ?_) | (refine wpList_load_arr (o := ⟨some 82, _, _, _, _, _⟩) rfl 98 _ rfl rfl hrcx Tryd.underlying98 rfl 24 inf_a24 rfl ?_))
              (with_reducible refine (fPermuteI_any L _ hLl hLw).mono ?_)
              rintro e wy ⟨rfl, hby⟩
              have hSy := hS.below hby hltC
              have hKy := hK.trans (S' := fun _ => False) (Kept.of_below hby) (by omega) (fun _ _ h => h)
              have hpl : (permute L).length = 25 := by rw [permute_len, hLl]
              obtain ⟨L2, hL2⟩ : ∃ L2, permute L = L2 := ⟨_, rfl⟩
              rw [hL2] at hpl hfin ⊢
              have HL2 := Lib.hid hL2
              clear hS hK hby hL2 hrcx hRT
              go_wp2_with (refine wpList_store_arr (o := ⟨none, _, _, _, _, _⟩) rfl 100 _ _ rfl rfl rfl hSy 25 inf_a25 hpl hLl ?_)
              go_roundg (T.length / 136 - (i + 1))
              case measure => have := HGK.out; have := HAT.out; have := HTl.out; omega
              case rel =>
                have h1 := hSy.setRow L2
                refine ⟨i + 1, ?_, ?_, rfl, by rw [← hfin.out]; exact h1, hKy.setRow C _ (.inl (Nat.le_refl _))⟩
                · have := HAT.out
                  rw [show (136 * (i + 1) : Nat) = at_ + 136 by omega]
                  push_cast; rfl
                · have := HAT.out; have := HTl.out; omega
        · have hltI : ¬ ((at_ : Int) < (N : Int) + 1) := by omega
          have hiq : i = T.length / 136 := by have := HTN.out; have := HTl.out; have := HAT.out; omega
          have hSn : S = newS l := by rw [newS, HTt.out, ← HSE.out, hiq]
          have HSn := Lib.hid hSn
          have hKall : Kept (B + 1) (fun _ => False) w3 wo := hK7.trans (S' := fun _ => False) hK (by omega) (fun _ _ h => h)
          have hwoC : C + 1 ≤ wo.heap.size := hS.lt
          clear hat hSe hgk hi hSn hRT hiq
          go_wp2_with fail
          go_loopg [12] (n / 136 + 1) (fun gk v wr => R5 wo C S n gk v wr)
          case atStart => exact ⟨0, none, 0, rfl, Own.nil _ _ _ _, hS, Kept.refl _ _ _, by omega, rfl⟩
          case round =>
            clear hS hK
            obtain ⟨wq, rfl⟩ : ∃ wq : World, wq = wr := ⟨_, rfl⟩
            obtain ⟨q, Ao, co, rfl, hO, hS, hK, hqn, hgk⟩ := hrel
            obtain ⟨m0, hm0⟩ : ∃ m0, 136 * q = m0 := ⟨_, rfl⟩
            obtain ⟨s, hs⟩ : ∃ s, iterP S q = s := ⟨_, rfl⟩
            have hsl : s.length = 25 := by rw [← hs, iterP_len hS25]
            have hsw : Ws s := hs ▸ iterP_W hSW q
            rw [hm0] at hO hqn ⊢
            rw [hs] at hS
            have HM0 := Lib.hid hm0
            have HSQ := Lib.hid hs
            have HGQ := Lib.hid hgk
            have hqC : C + 1 ≤ wq.heap.size := hS.lt
            by_cases hltn : m0 < n
            · have hltnI : (m0 : Int) < (n : Int) := by omega
              clear hm0 hs hgk
              go_wp2_with fail
              go_loopg [12, 13] 17 (fun gk v v' wr => R6 wq C S m0 gk v v' wr)
              case atStart => exact ⟨0, Ao, co, rfl, rfl, by omega, rfl, hO, Kept.refl _ _ _⟩
              case round =>
                clear hO
                obtain ⟨wi, rfl⟩ : ∃ wi : World, wi = wr := ⟨_, rfl⟩
                obtain ⟨i2, Ai, ci, rfl, rfl, hi2, hgk2, hO, hK6⟩ := hrel
                obtain ⟨m1, hm1⟩ : ∃ m1, m0 + 8 * i2 = m1 := ⟨_, rfl⟩
                rw [hm1] at hO ⊢
                have HM1 := Lib.hid hm1
                have HGK2 := Lib.hid hgk2
                have hSi := hS.kept hK6 (Nat.lt_succ_self C) (fun h => h)
                have hiC : C + 1 ≤ wi.heap.size := hSi.lt
                by_cases hlt2 : i2 < 17
                · have hlt2I : (i2 : Int) < 17 := by omega
                  have hcl := hSi.cell i2 (by omega)
                  obtain ⟨x, hx⟩ : ∃ x, gt s i2 = x := ⟨_, rfl⟩
                  rw [hx] at hcl
                  have hxw : W64 x := hx ▸ hsw.gt i2
                  have HX := Lib.hid hx
                  have HXW := Lib.hid hxw
                  clear hm1 hgk2 hx hxw
                  go_wp2_with fail
                  go_loopg [12, 14, 15] 8 (fun gk v v' v'' wr => R7 wi C S m1 x gk v v' v'' wr)
                  case atStart => exact ⟨0, Ai, ci, rfl, by simp, rfl, by omega, rfl, hO, Kept.refl _ _ _⟩
                  case round =>
                    clear hO
                    obtain ⟨k, Ak, ck, rfl, rfl, rfl, hk, hgk3, hO, hK7'⟩ := hrel
                    have HGK3 := Lib.hid hgk3
                    obtain ⟨y, hy⟩ : ∃ y, x / 2 ^ (8 * k) = y := ⟨_, rfl⟩
                    have hy0 : 0 ≤ y := by rw [← hy]; exact Int.ediv_nonneg HXW.out.1 (Int.pow_nonneg (by decide))
                    rw [hy]
                    have HY := Lib.hid hy
                    have hkC : C + 1 ≤ wr.heap.size := by have := hK7'.size; omega
                    by_cases hlt3 : k < 8
                    · have hlt3I : (k : Int) < 8 := by omega
                      clear hgk3 hy
                      have hO2 := hO.alloc (.cells (U .u8 [y % 256]) 5)
                      have hN2 := Rd.of_arr (B := wr.heap.size + 1) (Arr.new wr 5 .u8 [y % 256]) (by omega)
                      have hsb := sb_word HSQ.out hlt2 hlt3 HM0.out HM1.out HX.out HY.out
                      have HSB := Lib.hid (show seg S 0 (m1 + k) ++ [y % 256] = seg S 0 (m1 + (k + 1)) by rw [← hsb]; exact seg_snoc S (m1 + k))
                      have hmb : m1 + 8 ≤ 66000 := by have := HM1.out; omega
                      clear hsb
                      go_wp2_with (at_builtin; refine wpList_app rfl (.tmp 99) (.tmp 103) 24 5 .u8 1 rfl Tryd.underlying24 inf_u8 hO2 hN2 rfl rfl rfl (seg S 0 (m1 + (k + 1))) HSB.out (m1 + (k + 1)) (seg_len _ _ _) (by omega) (by omega) (by simp; omega) ?_; intro Ab cb wb hOb hgb hfb)
                      go_roundg (8 - (k + 1))
                      case measure => have := HGK3.out; omega
                      case rel =>
                        refine ⟨k + 1, Ab, cb, rfl, by rw [div_next HXW.out HY.out], by go_num, by omega, rfl, hOb, ?_⟩
                        exact (hK7'.alloc (.cells (U .u8 [y % 256]) 5) hkC).grew hO2 hgb (Nat.le_refl _) (by simp; omega)
                    · have hlt3I : ¬ ((k : Int) < 8) := by omega
                      have hk8 : m1 + k = m0 + 8 * (i2 + 1) := by have := HM1.out; omega
                      rw [hk8] at hO ⊢
                      clear hgk3 hy hk8
                      go_wp2_with fail
                      go_roundg (17 - (i2 + 1))
                      case measure => have := HGK2.out; omega
                      case rel => exact ⟨i2 + 1, Ak, ck, rfl, by go_num, by omega, rfl, hO, hK6.trans (S' := fun _ => False) hK7' (Nat.le_refl _) (fun _ _ h => h)⟩
                · have hlt2I : ¬ ((i2 : Int) < 17) := by omega
                  have hm17 : m1 = 136 * (q + 1) := by have := HM0.out; omega
                  rw [hm17] at hO ⊢
                  have hrcx := ((hN3.kept hKall (by omega) (fun h => h)).kept hK (by omega) (fun h => h)).kept hK6 (by omega) (fun h => h)
                  have HQ17 : Hid (136 * (q + 1) = m1) := hm17.symm
                  clear hm17 hgk2
                  go_wp2_with (first | (refine wpList_load_arr (o := ⟨some 107, _, _, _, _, _⟩) rfl 100 _ rfl rfl hSi Tryd.underlying100 rfl 25 inf_a25 hsl ?_) | (refine wpList_load_arr (o := ⟨some 108, _, _, _, _, _⟩) rfl 98 _ rfl rfl hrcx Tryd.underlying98 rfl 24 inf_a24 rfl ?_))
                  (with_reducible refine (fPermuteI_any s _ hsl hsw).mono ?_)
                  rintro e wy ⟨rfl, hby⟩
                  have hSy := hSi.below hby hSi.lt
                  have hOy := hO.below hby (Nat.le_refl _)
                  have hK5 := (hK.trans (S' := fun _ => False) (hK6.mono (S' := fun _ => False) (Nat.le_succ C) (fun _ _ h => h)) (Nat.le_refl _) (fun _ _ h => h)).trans (S' := fun _ => False) (Kept.of_below hby) (by omega) (fun _ _ h => h)
                  have hpl : (permute s).length = 25 := by rw [permute_len, hsl]
                  obtain ⟨L2, hL2⟩ : ∃ L2, permute s = L2 := ⟨_, rfl⟩
                  rw [hL2] at hpl ⊢
                  have HL2 := Lib.hid hL2
                  clear hS hK hK6 hSi hO hby hL2 hrcx
                  go_wp2_with (refine wpList_store_arr (o := ⟨none, _, _, _, _, _⟩) rfl 100 _ _ rfl rfl rfl hSy 25 inf_a25 hpl hsl ?_)
                  go_roundg (n / 136 + 1 - (q + 1))
                  case measure => have := HGQ.out; have := HM0.out; omega
                  case rel =>
                    have h1 := hSy.setRow L2
                    refine ⟨q + 1, Ai, ci, rfl, hOy.keep (fun g hg => setRow_other wy C g _ (by have := (hOy.lt g hg).1; omega)), by rw [iterP, HSQ.out, HL2.out]; exact h1, hK5.setRow C _ (.inl (Nat.le_refl _)), ?_, rfl⟩
                    have := HM0.out; omega
            · have hltnI : ¬ ((m0 : Int) < (n : Int)) := by omega
              have hlen := hO.len
              rw [seg_len] at hlen
              have hnm : (n : Int) ≤ (co : Int) := by omega
              have hn0 : (0 : Int) ≤ (n : Int) := by omega
              have hRd := hO.rd
              have hnc : n ≤ co := by omega
              have HNC := Lib.hid hnc
              clear hnc
              have hsub := seg_sub S 0 m0 0 n (by omega)
              rw [List.drop_zero, Nat.zero_add] at hsub
              have hR2 := hRd.take_ n
              rw [hsub, HSn.out] at hR2
              clear hsub hm0 hs hgk hlen hRd
              go_wp2_with fail
              go_ret
              refine ⟨Ao, co, rfl, hR2, HNC.out, ?_⟩
              exact ((hK3.trans (S' := fun _ => False) hKall (by omega) (fun _ _ h => h)).trans (S' := fun _ => False) hK (by omega) (fun _ _ h => h)).below
    · have ht : ¬ ((l.length : Int) + 1 + (j : Int)) % 136 = 0 := by omega
      have hb1 : ((((l.length : Int) + 1 + (j : Int)) % 136) != 0) = true := by simp; omega
      have hne : j ≠ padJ l := fun e => hlt (hat.2 e)
      have HGK := Lib.hid hgk
      clear hgk hat hL hjl
      have hN2 := Rd.of_arr (B := wr.heap.size + 1) (Arr.new wr 5 .u8 [0]) (by omega)
      have hO2 := hO.alloc (.cells (U .u8 [0]) 5)
      go_wp2_with (at_builtin; refine wpList_app rfl (.tmp 32) (.tmp 33) 24 5 .u8 1 rfl Tryd.underlying24 inf_u8 hO2 hN2 rfl rfl rfl (padZ l (j + 1)) (padZ_succ l j) (l.length + 1 + (j + 1)) (by rw [padZ_len]) (by have := HL.out; have := padJ_lt l; omega) (by have := HL.out; have := padJ_lt l; omega) (by simp; omega) ?_; intro Ab cb wb hOb hgb hfb)
      go_roundg (padJ l - (j + 1))
      case measure => have := HGK.out; omega
      case rel => exact ⟨j + 1, Ab, cb, rfl, by omega, rfl, hOb, (hK.alloc (.cells (U .u8 [0]) 5) hwl).grew hO2 hgb (Nat.le_refl _) (by simp; omega)⟩

theorem refsum_any (l : List Int) (A : Option Addr) (c B0 n : Nat) (w : World) (hr : Rd w B0 .u8 A l) (hB : B0 ≤ w.heap.size) (hl : l.length ≤ 100000000) (hn : n ≤ 65536) (hby0 : Bys l) :
    Calls Tryd.prog 66 #[.slice A l.length c, .int .i64 n] w (RefPost w l n) :=
  (refsumF_any l A c B0 n w hr hB hl hn hby0).mono fun e w' ⟨A', c', h1, h2, _, h3⟩ => ⟨A', c', h1, h2, h3⟩
end Go.Proofs.YtfaonieaagepjaaDoor
