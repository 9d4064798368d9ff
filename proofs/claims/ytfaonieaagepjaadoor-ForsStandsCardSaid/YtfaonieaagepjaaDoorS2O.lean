/- The reference's sum of a text, layer 2, walked. Conditions: the text reads as at most 1000000 bytes. -/
import Derived.Test.YtfaonieaagepjaaDoorS2I
import Derived.Test.YtfaonieaagepjaaDoorS2F
import Derived.Test.YtfaonieaagepjaaDoorZA
namespace Go.Proofs.YtfaonieaagepjaaDoor
open Go.RowKit
set_option linter.unusedVariables false
set_option linter.unusedSimpArgs false
def tz2 (l : List Int) (j : Nat) : List Int := l ++ [128] ++ zrw j
theorem tz2_len (l : List Int) (j : Nat) : (tz2 l j).length = l.length + 1 + j := by simp [tz2, zrw_len]; omega
theorem tz2_succ (l : List Int) (j : Nat) : tz2 l j ++ [0] = tz2 l (j + 1) := by rw [tz2, tz2, List.append_assoc, zrw, zrw, List.replicate_succ']
theorem text2_tz (l : List Int) : text2 l = tz2 l (zn2 l.length) ++ putL (8 * l.length : Nat) 8 := rfl
theorem take_snoc2 (l : List Int) (m : Nat) (h : m < l.length) : l.take m ++ [gt l m] = l.take (m + 1) := by
  rw [List.take_succ_eq_append_getElem h]; simp [gt, h]
theorem put_snoc2 (v : Int) (m : Nat) (h : m < 8) {k : Nat} (hk : k = 7 - m) {x : Int} (hx : v / 2 ^ (8 * k) % 256 = x) : (putL v 8).take m ++ [x] = (putL v 8).take (m + 1) := by
  rw [← take_snoc2 (putL v 8) m (by rw [putL_len]; exact h), gt_putL v 8 m h, show 8 - 1 - m = k by omega, hx]
theorem put_take_len2 (v : Int) (m : Nat) (h : m ≤ 8) : ((putL v 8).take m).length = m := by rw [List.length_take, putL_len]; omega
def R3z (w0 : World) (B : Nat) (T8 : List Int) (v8 : Int) (gk : Nat) (v x : Value) (w : World) : Prop :=
  ∃ (m : Nat) (z : Int) (A : Option Addr) (c : Nat), v = .slice A (T8.length + m) c ∧ x = .int .i64 z ∧ z = 7 - (m : Int) ∧ m ≤ 8 ∧ gk = 8 - m ∧ Own w B 5 .u8 (.slice A (T8.length + m) c) (T8 ++ (putL v8 8).take m) ∧ Kept B (fun _ => False) w0 w
def BL2 (w0 : World) (D : Nat) (T : List Int) (gk : Nat) (v : Value) (w : World) : Prop :=
  ∃ i : Nat, v = .int .i64 ((64 * i : Nat) : Int) ∧ 64 * i ≤ T.length ∧ gk = T.length / 64 - i ∧ Arr w D 96 .u32 (blocksN T i) ∧ Kept D (fun _ => False) w0 w
def G5w (w0 : World) (B : Nat) (s : List Int) (gk : Nat) (v x : Value) (w : World) : Prop :=
  ∃ (j : Nat) (A : Option Addr) (c : Nat), v = .slice A (4 * j) c ∧ x = .int .i64 j ∧ j ≤ 8 ∧ gk = 8 - j ∧ Own w B 5 .u8 (.slice A (4 * j) c) (outW s j) ∧ Kept B (fun _ => False) w0 w
def R1z (w0 : World) (B : Nat) (l : List Int) (gk : Nat) (v : Value) (w : World) : Prop :=
  ∃ (j : Nat) (A : Option Addr) (c : Nat), v = .slice A (l.length + 1 + j) c ∧ j ≤ zn2 l.length ∧ gk = zn2 l.length - j ∧ Own w B 5 .u8 (.slice A (l.length + 1 + j) c) (tz2 l j) ∧ Kept B (fun _ => False) w0 w
set_option maxRecDepth 100000 in
set_option maxHeartbeats 4000000 in
theorem rone2_any (l F : List Int) (A : Option Addr) (c B0 n : Nat) (w : World) (hF : sum2 l = F) (hr : Rd w B0 .u8 A l) (hB0 : B0 ≤ w.heap.size) (hl : l.length ≤ 1000000) (hn : l.length = n) (hby : Bys l) :
    Calls Tryd.prog 61 #[.slice A n c] w (SumPost2 w F) := by
  subst hn
  obtain ⟨B, hB⟩ : ∃ B, w.heap.size = B := ⟨_, rfl⟩
  have HB := Lib.hid hB
  have hmx : (200000000 : Nat) ≤ maxLen := by decide
  have hOe := Own.lit (b := B) (e := 5) (k := .u8) w [] (by omega) (Nat.zero_le _)
  have hRe := hr.alloc hB0 (.cells #[] 5)
  have hKe : Kept B (fun _ => False) w (w.alloc (.cells #[] 5)) := (Kept.refl _ _ w).alloc _ (by omega)
  have hBw : B ≤ w.heap.size := by omega
  have HL := Lib.hid hl
  clear hB hl
  go_enter Tryd.func61, Tryd.ntmps61
  go_upto_region 2 with (first
    | (at_builtin; refine wpList_app rfl (.tmp 10) (.tmp 11) 24 5 .u8 1 rfl Tryd.underlying24 inf_u8 hOe hRe rfl rfl rfl l rfl l.length rfl (by have := HL.out; omega) (by have := HL.out; omega) (by simp; omega) ?_; intro Aa ca wa hOa hga hfa)
    | (at_builtin; have hOb := hOa.alloc (.cells (U .u8 [128]) 5); have hNb := Rd.of_arr (B := wa.heap.size + 1) (Arr.new wa 5 .u8 [128]) (by omega); refine wpList_app rfl (.tmp 12) (.tmp 13) 24 5 .u8 1 rfl Tryd.underlying24 inf_u8 hOb hNb rfl rfl rfl (tz2 l 0) (by simp [tz2, zrw]) (l.length + 1) (tz2_len l 0) (by have := HL.out; omega) (by have := HL.out; omega) (by have := hga.size; simp at this ⊢; omega) ?_; intro Ab cb wb hOb' hgb hfb))
  have hKb : Kept B (fun _ => False) w wb := by
    have h2 := hKe.grew hOe hga (Nat.le_refl _) (by simp; omega)
    have h3 := h2.alloc (.cells (U .u8 [128]) 5) (by have := hga.size; simp at this; omega)
    exact h3.grew (hOa.alloc (.cells (U .u8 [128]) 5)) hgb (Nat.le_refl _) (by have := hga.size; simp at this ⊢; omega)
  clear hOe hRe hKe hOa hga hfa hgb hfb hr
  obtain ⟨z, hz⟩ : ∃ z, zn2 l.length = z := ⟨_, rfl⟩
  have hz64 : z < 64 := by rw [← hz]; unfold zn2; omega
  have hzat : ∀ j, j ≤ z → ((l.length + 1 + j) % 64 = 56 ↔ j = z) := fun j hj => by rw [← hz] at hj ⊢; unfold zn2 at *; omega
  have HZ := Lib.hid hz
  have HZA := Lib.hid hzat
  clear hz hzat
  go_wp2_with fail
  go_loopg [3] z (fun gk v wr => R1z w B l gk v wr)
  case atStart => exact ⟨0, Ab, cb, rfl, Nat.zero_le _, by rw [HZ.out]; rfl, hOb', hKb⟩
  case round =>
    clear hOb' hKb
    obtain ⟨j, A6, c6, rfl, hj, hgk, hO, hK⟩ := hrel
    rw [HZ.out] at hj hgk
    have HGK := Lib.hid hgk
    have hwl : B ≤ wr.heap.size := by have := hK.size; omega
    have hat := HZA.out j hj
    by_cases hlt : (l.length + 1 + j) % 64 = 56
    · have hj2 := Lib.hid (hat.1 hlt)
      have ht : ((l.length : Int) + 1 + (j : Int)) % 64 = 56 := by omega
      have hb1 : ((((l.length : Int) + 1 + (j : Int)) % 64) != 56) = false := by simp [ht]
      clear hat hgk
      obtain ⟨T8, hT8⟩ : ∃ T, tz2 l z = T := ⟨_, rfl⟩
      have hT8l : T8.length = l.length + 1 + z := by rw [← hT8, tz2_len]
      have hO8 : Own wr B 5 .u8 (.slice A6 (T8.length + 0) c6) (T8 ++ (putL ((8 * l.length : Nat) : Int) 8).take 0) := by
        rw [hT8l, List.take_zero, List.append_nil, ← hT8, Nat.add_zero, ← hj2.out]; exact hO
      have hsl : l.length + 1 + j = T8.length := by rw [hT8l, hj2.out]
      rw [hsl]
      have ht8 : (T8.length : Int) % 64 = 56 := by omega
      obtain ⟨n8, hn8⟩ : ∃ n8 : Nat, 8 * l.length = n8 := ⟨_, rfl⟩
      have fn8 : IntKind.u64.wrap ((l.length : Int) * 8) = (n8 : Int) := by have := HL.out; rw [IntKind.wrap_u64]; omega
      have hn8b : (n8 : Int) ≤ 8000000 := by have := HL.out; omega
      rw [hn8] at hO8
      have HT8 := Lib.hid hT8
      have HN8 := Lib.hid hn8
      have HT8L := Lib.hid hT8l
      have fn8' : IntKind.u64.wrap (IntKind.u64.wrap (l.length : Int) * 8) = (n8 : Int) := by have := HL.out; have := HN8.out; rw [IntKind.wrap_u64, IntKind.wrap_u64]; omega
      clear hO hT8 hT8l hsl hn8 HGK ht hb1
      have hb1 : ((((T8.length : Int)) % 64) != 56) = false := by simp [ht8]
      go_wp2_with fail
      clear fn8 fn8' ht8 hb1
      go_loopg [3, 5] 8 (fun gk v x wr => R3z w B T8 (n8 : Int) gk v x wr)
      case atStart => exact ⟨0, 7, A6, c6, rfl, rfl, rfl, Nat.zero_le _, rfl, hO8, hK⟩
      case round =>
        clear hO8 hK hwl
        obtain ⟨m, z7, A7, c7, rfl, rfl, hz7, hm, hgk, hO, hK⟩ := hrel
        have HGK := Lib.hid hgk
        have hwl : B ≤ wr.heap.size := by have := hK.size; omega
        clear hgk
        by_cases hlt : m < 8
        · obtain ⟨k, hk⟩ : ∃ k : Nat, k = 7 - m := ⟨_, rfl⟩
          obtain rfl : z7 = (k : Int) := by omega
          have hk8 : k < 8 := by omega
          have hge : (0 : Int) ≤ (k : Int) := by omega
          have HK7 := Lib.hid hk
          clear hz7 hk
          have hN2 := Rd.of_arr (B := wr.heap.size + 1) (Arr.new wr 5 .u8 [(n8 : Int) / 2 ^ (8 * k) % 256]) (by omega)
          have hO2 := hO.alloc (.cells (U .u8 [(n8 : Int) / 2 ^ (8 * k) % 256]) 5)
          have ha := put_snoc2 (n8 : Int) m hlt HK7.out rfl
          have happ : (T8 ++ (putL (n8 : Int) 8).take m) ++ [(n8 : Int) / 2 ^ (8 * k) % 256] = T8 ++ (putL (n8 : Int) 8).take (m + 1) := by rw [List.append_assoc, ha]
          have HAP := Lib.hid happ
          clear ha happ
          go_wp2_with (at_builtin; refine wpList_app rfl (.tmp 30) (.tmp 37) 24 5 .u8 1 rfl Tryd.underlying24 inf_u8 hO2 hN2 rfl rfl rfl (T8 ++ (putL (n8 : Int) 8).take (m + 1)) HAP.out (T8.length + (m + 1)) (by rw [List.length_append, put_take_len2 _ _ hlt]) (by have := HL.out; have := HT8L.out; omega) (by have := HL.out; have := HT8L.out; omega) (by simp; omega) ?_; intro Ab cb wb hOb hgb hfb)
          go_roundg (8 - (m + 1))
          case measure => have := HGK.out; omega
          case rel => exact ⟨m + 1, (k : Int) - 1, Ab, cb, rfl, rfl, by have := HK7.out; omega, by omega, rfl, hOb, (hK.alloc (.cells (U .u8 [(n8 : Int) / 2 ^ (8 * k) % 256]) 5) hwl).grew hO2 hgb (Nat.le_refl _) (by simp; omega)⟩
        · obtain rfl : m = 8 := by omega
          obtain rfl : z7 = -1 := by omega
          obtain ⟨T, hT⟩ : ∃ T, text2 l = T := ⟨_, rfl⟩
          have hT2 : T8 ++ (putL (n8 : Int) 8).take 8 = T := by
            rw [List.take_of_length_le (by rw [putL_len]; exact Nat.le_refl _), ← hT, text2_tz, HZ.out, HT8.out, HN8.out]
          have hTl2 : T8.length + 8 = T.length := by rw [← hT2, List.length_append, put_take_len2 _ _ (Nat.le_refl _)]
          have hTl : T.length ≤ 20000000 := by have := HL.out; have := HT8L.out; omega
          have hTm : T.length % 64 = 0 := by rw [← hT]; exact text2_mod l
          have hTB : Bys T := by rw [← hT]; exact text2_B hby
          rw [hT2, hTl2] at hO
          rw [hTl2]
          have HTL := Lib.hid hTl
          have HTM := Lib.hid hTm
          have HTB := Lib.hid hTB
          have HT := Lib.hid hT
          have hRz := hO.rd
          have hcz := hO.len.2
          have hneg : ¬ (0 : Int) ≤ -1 := by decide
          clear hT2 hTl2 hTl hTm hTB hT hO hm hz7 HGK hlt
          have hS0 := Arr.new wr 96 .u32 (List.replicate 8 0)
          go_wp2_with (first | (refine wpList_val2 (o := ⟨some 39, _, _, _, _, _⟩) (.agg (U .u32 f2L)) rfl (by kernel_rfl) ?_) | (refine wpList_store_arr (o := ⟨none, _, _, _, _, _⟩) rfl 96 _ _ rfl rfl rfl hS0 8 inf_w8 f2_len rfl ?_))
          obtain ⟨D, hD⟩ : ∃ D, wr.heap.size = D := ⟨_, rfl⟩
          have hS7 := hS0.setRow f2L
          have hK7 := (hK.alloc (.cells (U .u32 (List.replicate 8 0)) 96) hwl).setRow wr.heap.size (U .u32 f2L) (.inl hwl)
          have hR7 := hRz.keep (w' := (wr.alloc (.cells (U .u32 (List.replicate 8 0)) 96)).setRow wr.heap.size (U .u32 f2L)) (fun p hp => World.cell?_of_block (by rw [setRow_other _ _ _ _ (by omega)]; exact Below.heap_alloc wr _ p.block hp))
          have hBD : B ≤ D := by omega
          change Code.wp _ _ _ _ ((wr.alloc (.cells (U .u32 (List.replicate 8 0)) 96)).setRow wr.heap.size (U .u32 f2L))
          rw [hD] at hS7 hK7 hR7 ⊢
          generalize (wr.alloc (.cells (U .u32 (List.replicate 8 0)) 96)).setRow D (U .u32 f2L) = w7 at hS7 hK7 hR7 ⊢
          clear hS0 hRz hK hD hwl
          go_loopg [7] (T.length / 64) (fun gk v wr => BL2 w7 D T gk v wr)
          case atStart => exact ⟨0, rfl, by omega, rfl, hS7, Kept.refl _ _ _⟩
          case round =>
            clear hS7
            obtain ⟨wq, rfl⟩ : ∃ wq : World, wq = wr := ⟨_, rfl⟩
            obtain ⟨i, rfl, hi, hgk, hS, hKq⟩ := hrel
            obtain ⟨at_, hat⟩ : ∃ a, 64 * i = a := ⟨_, rfl⟩
            obtain ⟨si, hsi⟩ : ∃ s, blocksN T i = s := ⟨_, rfl⟩
            have hsl8 : si.length = 8 := by rw [← hsi, blocksN_len]
            have hsw8 : Ww si := hsi ▸ blocksN_W T i
            rw [hat] at hi ⊢
            rw [hsi] at hS
            have hRq := hR7.kept hKq (Nat.le_refl _) (fun _ _ h => h)
            have hKw := hK7.trans (S' := fun _ => False) hKq hBD (fun _ _ h => h)
            have HGK := Lib.hid hgk
            have HAT := Lib.hid hat
            have HSI := Lib.hid hsi
            clear hgk hat hsi
            by_cases hlt : at_ < T.length
            · have hltI : (at_ : Int) < (T.length : Int) := by omega
              have hfit : at_ + 64 ≤ T.length := by have := HTM.out; have := HAT.out; omega
              obtain ⟨a2, ha2⟩ : ∃ a, at_ + 64 = a := ⟨_, rfl⟩
              have ha2w : IntKind.i64.wrap ((at_ : Int) + 64) = (a2 : Int) := by rw [IntWalk.i64_in _ (by have := HTL.out; omega)]; omega
              have e1 : a2 - at_ = 64 := by omega
              have hsl := fun wx => run_slice_ab (P := Tryd.prog) 24 5 Tryd.underlying24 (by kernel_rfl) A7 T.length c7 at_ a2 (by omega) (by omega) .i64 .i64 wx
              obtain ⟨A2, hA2⟩ : ∃ A2, (if c7 = at_ then A7 else A7.map (·.add at_)) = A2 := ⟨_, rfl⟩
              obtain ⟨c2, hc2⟩ : ∃ c2, c7 - at_ = c2 := ⟨_, rfl⟩
              rw [e1, hA2, hc2] at hsl
              have HA2 := Lib.hid hA2
              have hcle : a2 ≤ c7 := by omega
              have ha2T : a2 ≤ T.length := by omega
              have HA2E := Lib.hid ha2
              have hc128 : 64 ≤ c2 := by omega
              obtain ⟨blk, hblk⟩ : ∃ b, (T.drop at_).take 64 = b := ⟨_, rfl⟩
              have hblk2 : (T.take a2).drop at_ = blk := by rw [← hblk, List.take_drop, ha2]
              have hbl : blk.length = 64 := by rw [← hblk]; simp; omega
              have hbB : Bys blk := by rw [← hblk]; exact (HTB.out.drop _).take _
              have hnext : Hid (turn2 si blk = blocksN T (i + 1)) := by show turn2 si blk = _; rw [blocksN, HAT.out, HSI.out, hblk]
              have HBLK2 := Lib.hid hblk2
              clear e1 hA2 hc2 hblk hblk2 ha2
              have hDq : D < wq.heap.size := hS.lt
              have KB : ∀ {w' : World}, Rd w' D .u8 A7 T → Rd w' D .u8 A2 blk := fun h => by
                have h2 := h.cut at_ a2 c7 ha2T hcle
                rw [HA2.out, HBLK2.out] at h2
                exact h2
              obtain ⟨sn, hsn⟩ : ∃ s, turn2 si blk = s := ⟨_, rfl⟩
              have hln : sn.length = 8 := by rw [← hsn]; exact turn2_len _ hsl8
              rw [hsn] at hnext
              go_upto_region 13 with fail
              refine wp_region_hold_tail 7 (fun w' => Arr w' D 96 .u32 si ∧ Rd w' D .u8 A7 T ∧ Kept B (fun _ => False) w w' ∧ Kept D (fun _ => False) w7 w') (by kernel_rfl) (by kernel_rfl) ⟨hS.drew, hRq.drew, hKw.drew, hKq.drew⟩ ?_
              simp only [List.take_succ_cons, List.take_zero, List.drop_succ_cons, List.drop_zero]
              refine wpHold_yes (.agg (U .u32 si)) (by kernel_rfl) (fun w hw => gives_load_arr hw 96 _ rfl rfl (hw.1) Tryd.underlying96 rfl 8 inf_w8 hsl8) ?_
              (try simp only [Act.put, List.setIfInBounds_toArray, List.set_cons_zero, List.set_cons_succ])
              ((first | (refine wpHold_step ?_ ?_ ?_ ?_; rotate_left 1; focus (with_reducible rfl)) | (refine wpHold_yes ?_ ?_ ?_ ?_; rotate_left 1; focus rfl)); (focus (intro w hw; unfold Gives; go_simp; refine ⟨?_, hw⟩; with_reducible rfl)); (try simp only [Act.put, List.setIfInBounds_toArray, List.set_cons_zero, List.set_cons_succ]))
              ((first | (refine wpHold_step ?_ ?_ ?_ ?_; rotate_left 1; focus (with_reducible rfl)) | (refine wpHold_yes ?_ ?_ ?_ ?_; rotate_left 1; focus rfl)); (focus (intro w hw; unfold Gives; go_simp; refine ⟨?_, hw⟩; with_reducible rfl)); (try simp only [Act.put, List.setIfInBounds_toArray, List.set_cons_zero, List.set_cons_succ]))
              ((first | (refine wpHold_step ?_ ?_ ?_ ?_; rotate_left 1; focus (with_reducible rfl)) | (refine wpHold_yes ?_ ?_ ?_ ?_; rotate_left 1; focus rfl)); (focus (intro w hw; unfold Gives; go_simp; refine ⟨?_, hw⟩; with_reducible rfl)); (try simp only [Act.put, List.setIfInBounds_toArray, List.set_cons_zero, List.set_cons_succ]))
              ((first | (refine wpHold_step ?_ ?_ ?_ ?_; rotate_left 1; focus (with_reducible rfl)) | (refine wpHold_yes ?_ ?_ ?_ ?_; rotate_left 1; focus rfl)); (focus (intro w hw; unfold Gives; go_simp; refine ⟨?_, hw⟩; with_reducible rfl)); (try simp only [Act.put, List.setIfInBounds_toArray, List.set_cons_zero, List.set_cons_succ]))
              ((first | (refine wpHold_step ?_ ?_ ?_ ?_; rotate_left 1; focus (with_reducible rfl)) | (refine wpHold_yes ?_ ?_ ?_ ?_; rotate_left 1; focus rfl)); (focus (intro w hw; unfold Gives; go_simp; refine ⟨?_, hw⟩; with_reducible rfl)); (try simp only [Act.put, List.setIfInBounds_toArray, List.set_cons_zero, List.set_cons_succ]))
              ((first | (refine wpHold_step (.agg (U .u32 sn)) ?_ ?_ ?_; focus (with_reducible rfl)) | (refine wpHold_yes (.agg (U .u32 sn)) ?_ ?_ ?_; focus rfl)); (focus (intro w hw; unfold Gives; go_simp; exact (rturn2_any si blk sn A2 c2 D w hsn hsl8 hsw8 (KB hw.2.1) (by have := hw.1.lt; omega) hbB hbl).mono fun e w' ⟨h1, h2⟩ => ⟨h1, hw.1.below h2 hw.1.lt, hw.2.1.below (h2.mono (by have := hw.1.lt; omega)), hw.2.2.1.trans (S' := fun _ => False) (Kept.of_below h2) (by have := hw.1.lt; omega) (fun _ _ h => h), hw.2.2.2.trans (S' := fun _ => False) (Kept.of_below h2) (by have := hw.1.lt; omega) (fun _ _ h => h)⟩)); (try simp only [Act.put, List.setIfInBounds_toArray, List.set_cons_zero, List.set_cons_succ]))
              refine wpHold_nil ?_
              intro w' ⟨hS8, hR8, hK8, hK9⟩
              clear hS hRq hKw hKq KB hsl hsn
              go_wp2_with (refine wpList_store_arr (o := ⟨none, _, _, _, _, _⟩) rfl 96 _ _ rfl rfl rfl hS8 8 inf_w8 hln hsl8 ?_)
              go_roundg (T.length / 64 - (i + 1))
              case measure => have := HGK.out; have := HAT.out; omega
              case rel =>
                have h1 := hS8.setRow sn
                refine ⟨i + 1, ?_, ?_, rfl, by rw [← hnext.out]; exact h1, hK9.setRow D _ (.inl (Nat.le_refl _))⟩
                · rw [show (64 * (i + 1) : Nat) = a2 by have := HAT.out; have := HA2E.out; omega]
                · have := HAT.out; omega
            · have hltI : ¬ (at_ : Int) < (T.length : Int) := by omega
              have hit : i = T.length / 64 := by have := HAT.out; have := HTM.out; omega
              have hfin : F = outW si 8 := by rw [← hF, sum2, HT.out, hst, ← hit, HSI.out]
              have HFIN := Lib.hid hfin
              have hBq : D < wq.heap.size := hS.lt
              clear hit hfin hRq HGK
              go_wp2_with fail
              go_loopg [8, 9] 8 (fun gk v x wr => G5w wq (D + 1) si gk v x wr)
              case atStart => exact ⟨0, none, 0, rfl, rfl, Nat.zero_le _, rfl, Own.nil _ _ _ _, Kept.refl _ _ _⟩
              case round =>
                obtain ⟨wo, rfl⟩ : ∃ wo : World, wo = wr := ⟨_, rfl⟩
                obtain ⟨j, Aj, cj, rfl, rfl, hj, hgk, hOj, hKj⟩ := hrel
                have HGK := Lib.hid hgk
                clear hgk
                by_cases hlt8 : j < 8
                · have hlt8I : (j : Int) < 8 := by omega
                  have hDo : wq.heap.size ≤ wo.heap.size := hKj.size
                  have hSo : Arr wo D 96 .u32 si := hS.kept hKj (by omega) (fun h => h)
                  have hKwo : Kept B (fun _ => False) w wo := hKw.trans (S' := fun _ => False) hKj (by omega) (fun _ _ h => h)
                  have hcell : ∀ w', Arr w' D 96 .u32 si → w'.cell? ⟨D, j, none⟩ = some (.int .u32 (gt si j)) := fun w' h => h.cell j (by omega)
                  have hg32 := hsw8.gt j
                  obtain ⟨x, hx⟩ : ∃ x, gt si j = x := ⟨_, rfl⟩
                  rw [hx] at hcell hg32
                  have HX := Lib.hid hx
                  clear hx
                  go_upto_region 18 with fail
                  refine Lx.enter (fun w' => Arr w' D 96 .u32 si ∧ Kept (D + 1) (fun _ => False) wq w') 23 (by kernel_rfl) (by kernel_rfl) ⟨hSo.drew, hKj.drew⟩ ?_
                  (refine Lx.val 0 ?_ rfl (by kernel_rfl) (by kernel_rfl) (by kernel_rfl) (fun _ _ _ h => h) (by kernel_rfl) ?_ ?_; rotate_left 1; focus (intro w hw; go_simp; with_reducible rfl)); (try simp (config := {maxSteps := 2000000}) only [Act.put, List.getElem_toArray, List.getElem_cons_succ, List.getElem_cons_zero, List.setIfInBounds_toArray, List.set_cons_zero, List.set_cons_succ])
                  (refine Lx.val 1 ?_ rfl (by kernel_rfl) (by kernel_rfl) (by kernel_rfl) (fun _ _ _ h => h) (by kernel_rfl) ?_ ?_; rotate_left 1; focus (intro w hw; go_simp; with_reducible rfl)); (try simp (config := {maxSteps := 2000000}) only [Act.put, List.getElem_toArray, List.getElem_cons_succ, List.getElem_cons_zero, List.setIfInBounds_toArray, List.set_cons_zero, List.set_cons_succ])
                  (refine Lx.val 2 ?_ rfl (by kernel_rfl) (by kernel_rfl) (by kernel_rfl) (fun _ _ _ h => h) (by kernel_rfl) ?_ ?_; rotate_left 1; focus (intro w hw; go_simp; with_reducible rfl)); (try simp (config := {maxSteps := 2000000}) only [Act.put, List.getElem_toArray, List.getElem_cons_succ, List.getElem_cons_zero, List.setIfInBounds_toArray, List.set_cons_zero, List.set_cons_succ])
                  (refine Lx.val 3 ?_ rfl (by kernel_rfl) (by kernel_rfl) (by kernel_rfl) (fun _ _ _ h => h) (by kernel_rfl) ?_ ?_; rotate_left 1; focus (intro w hw; have hcell := hcell w hw.1; go_simp; with_reducible rfl)); (try simp (config := {maxSteps := 2000000}) only [Act.put, List.getElem_toArray, List.getElem_cons_succ, List.getElem_cons_zero, List.setIfInBounds_toArray, List.set_cons_zero, List.set_cons_succ])
                  (refine Lx.val 4 ?_ rfl (by kernel_rfl) (by kernel_rfl) (by kernel_rfl) (fun _ _ _ h => h) (by kernel_rfl) ?_ ?_; rotate_left 1; focus (intro w hw; go_simp; with_reducible rfl)); (try simp (config := {maxSteps := 2000000}) only [Act.put, List.getElem_toArray, List.getElem_cons_succ, List.getElem_cons_zero, List.setIfInBounds_toArray, List.set_cons_zero, List.set_cons_succ])
                  (refine Lx.val 5 ?_ rfl (by kernel_rfl) (by kernel_rfl) (by kernel_rfl) (fun _ _ _ h => h) (by kernel_rfl) ?_ ?_; rotate_left 1; focus (intro w hw; go_simp; with_reducible rfl)); (try simp (config := {maxSteps := 2000000}) only [Act.put, List.getElem_toArray, List.getElem_cons_succ, List.getElem_cons_zero, List.setIfInBounds_toArray, List.set_cons_zero, List.set_cons_succ])
                  (refine Lx.val 6 ?_ rfl (by kernel_rfl) (by kernel_rfl) (by kernel_rfl) (fun _ _ _ h => h) (by kernel_rfl) ?_ ?_; rotate_left 1; focus (intro w hw; go_simp; with_reducible rfl)); (try simp (config := {maxSteps := 2000000}) only [Act.put, List.getElem_toArray, List.getElem_cons_succ, List.getElem_cons_zero, List.setIfInBounds_toArray, List.set_cons_zero, List.set_cons_succ])
                  (refine Lx.val 7 ?_ rfl (by kernel_rfl) (by kernel_rfl) (by kernel_rfl) (fun _ _ _ h => h) (by kernel_rfl) ?_ ?_; rotate_left 1; focus (intro w hw; go_simp; with_reducible rfl)); (try simp (config := {maxSteps := 2000000}) only [Act.put, List.getElem_toArray, List.getElem_cons_succ, List.getElem_cons_zero, List.setIfInBounds_toArray, List.set_cons_zero, List.set_cons_succ])
                  (refine Lx.val 8 ?_ rfl (by kernel_rfl) (by kernel_rfl) (by kernel_rfl) (fun _ _ _ h => h) (by kernel_rfl) ?_ ?_; rotate_left 1; focus (intro w hw; have hcell := hcell w hw.1; go_simp; with_reducible rfl)); (try simp (config := {maxSteps := 2000000}) only [Act.put, List.getElem_toArray, List.getElem_cons_succ, List.getElem_cons_zero, List.setIfInBounds_toArray, List.set_cons_zero, List.set_cons_succ])
                  (refine Lx.val 9 ?_ rfl (by kernel_rfl) (by kernel_rfl) (by kernel_rfl) (fun _ _ _ h => h) (by kernel_rfl) ?_ ?_; rotate_left 1; focus (intro w hw; go_simp; with_reducible rfl)); (try simp (config := {maxSteps := 2000000}) only [Act.put, List.getElem_toArray, List.getElem_cons_succ, List.getElem_cons_zero, List.setIfInBounds_toArray, List.set_cons_zero, List.set_cons_succ])
                  (refine Lx.val 10 ?_ rfl (by kernel_rfl) (by kernel_rfl) (by kernel_rfl) (fun _ _ _ h => h) (by kernel_rfl) ?_ ?_; rotate_left 1; focus (intro w hw; go_simp; with_reducible rfl)); (try simp (config := {maxSteps := 2000000}) only [Act.put, List.getElem_toArray, List.getElem_cons_succ, List.getElem_cons_zero, List.setIfInBounds_toArray, List.set_cons_zero, List.set_cons_succ])
                  (refine Lx.val 11 ?_ rfl (by kernel_rfl) (by kernel_rfl) (by kernel_rfl) (fun _ _ _ h => h) (by kernel_rfl) ?_ ?_; rotate_left 1; focus (intro w hw; go_simp; with_reducible rfl)); (try simp (config := {maxSteps := 2000000}) only [Act.put, List.getElem_toArray, List.getElem_cons_succ, List.getElem_cons_zero, List.setIfInBounds_toArray, List.set_cons_zero, List.set_cons_succ])
                  (refine Lx.val 12 ?_ rfl (by kernel_rfl) (by kernel_rfl) (by kernel_rfl) (fun _ _ _ h => h) (by kernel_rfl) ?_ ?_; rotate_left 1; focus (intro w hw; go_simp; with_reducible rfl)); (try simp (config := {maxSteps := 2000000}) only [Act.put, List.getElem_toArray, List.getElem_cons_succ, List.getElem_cons_zero, List.setIfInBounds_toArray, List.set_cons_zero, List.set_cons_succ])
                  (refine Lx.val 13 ?_ rfl (by kernel_rfl) (by kernel_rfl) (by kernel_rfl) (fun _ _ _ h => h) (by kernel_rfl) ?_ ?_; rotate_left 1; focus (intro w hw; have hcell := hcell w hw.1; go_simp; with_reducible rfl)); (try simp (config := {maxSteps := 2000000}) only [Act.put, List.getElem_toArray, List.getElem_cons_succ, List.getElem_cons_zero, List.setIfInBounds_toArray, List.set_cons_zero, List.set_cons_succ])
                  (refine Lx.val 14 ?_ rfl (by kernel_rfl) (by kernel_rfl) (by kernel_rfl) (fun _ _ _ h => h) (by kernel_rfl) ?_ ?_; rotate_left 1; focus (intro w hw; go_simp; with_reducible rfl)); (try simp (config := {maxSteps := 2000000}) only [Act.put, List.getElem_toArray, List.getElem_cons_succ, List.getElem_cons_zero, List.setIfInBounds_toArray, List.set_cons_zero, List.set_cons_succ])
                  (refine Lx.val 15 ?_ rfl (by kernel_rfl) (by kernel_rfl) (by kernel_rfl) (fun _ _ _ h => h) (by kernel_rfl) ?_ ?_; rotate_left 1; focus (intro w hw; go_simp; with_reducible rfl)); (try simp (config := {maxSteps := 2000000}) only [Act.put, List.getElem_toArray, List.getElem_cons_succ, List.getElem_cons_zero, List.setIfInBounds_toArray, List.set_cons_zero, List.set_cons_succ])
                  (refine Lx.val 16 ?_ rfl (by kernel_rfl) (by kernel_rfl) (by kernel_rfl) (fun _ _ _ h => h) (by kernel_rfl) ?_ ?_; rotate_left 1; focus (intro w hw; go_simp; with_reducible rfl)); (try simp (config := {maxSteps := 2000000}) only [Act.put, List.getElem_toArray, List.getElem_cons_succ, List.getElem_cons_zero, List.setIfInBounds_toArray, List.set_cons_zero, List.set_cons_succ])
                  (refine Lx.val 17 ?_ rfl (by kernel_rfl) (by kernel_rfl) (by kernel_rfl) (fun _ _ _ h => h) (by kernel_rfl) ?_ ?_; rotate_left 1; focus (intro w hw; go_simp; with_reducible rfl)); (try simp (config := {maxSteps := 2000000}) only [Act.put, List.getElem_toArray, List.getElem_cons_succ, List.getElem_cons_zero, List.setIfInBounds_toArray, List.set_cons_zero, List.set_cons_succ])
                  (refine Lx.val 18 ?_ rfl (by kernel_rfl) (by kernel_rfl) (by kernel_rfl) (fun _ _ _ h => h) (by kernel_rfl) ?_ ?_; rotate_left 1; focus (intro w hw; have hcell := hcell w hw.1; go_simp; with_reducible rfl)); (try simp (config := {maxSteps := 2000000}) only [Act.put, List.getElem_toArray, List.getElem_cons_succ, List.getElem_cons_zero, List.setIfInBounds_toArray, List.set_cons_zero, List.set_cons_succ])
                  (refine Lx.val 19 ?_ rfl (by kernel_rfl) (by kernel_rfl) (by kernel_rfl) (fun _ _ _ h => h) (by kernel_rfl) ?_ ?_; rotate_left 1; focus (intro w hw; go_simp; with_reducible rfl)); (try simp (config := {maxSteps := 2000000}) only [Act.put, List.getElem_toArray, List.getElem_cons_succ, List.getElem_cons_zero, List.setIfInBounds_toArray, List.set_cons_zero, List.set_cons_succ])
                  have e4 : [IntKind.u8.wrap (x / 16777216), IntKind.u8.wrap (x / 65536), IntKind.u8.wrap (x / 256), IntKind.u8.wrap x] = putL (gt si j) 4 := by
                    rw [HX.out]
                    simp [putL, IntKind.wrap_u8, List.range_succ]
                  have hsw : D + 1 ≤ wo.heap.size := by have := hKj.size; omega
                  refine Lx.made (w' := wo.drew.alloc (.cells (U .u8 [IntKind.u8.wrap (x / 16777216), IntKind.u8.wrap (x / 65536), IntKind.u8.wrap (x / 256), IntKind.u8.wrap x]) 5)) 20 (.slice (some ⟨wo.heap.size, 0, none⟩) 4 4) rfl (by kernel_rfl) (by kernel_rfl) (by kernel_rfl) (fun hS => ⟨hS.1.alloc _, hS.2.alloc _ hsw⟩) ?_
                  have hO2 := hOj.drew.alloc (.cells (U .u8 [IntKind.u8.wrap (x / 16777216), IntKind.u8.wrap (x / 65536), IntKind.u8.wrap (x / 256), IntKind.u8.wrap x]) 5)
                  have hN2 := Rd.of_arr (B := wo.heap.size + 1) (Arr.new wo.drew 5 .u8 [IntKind.u8.wrap (x / 16777216), IntKind.u8.wrap (x / 65536), IntKind.u8.wrap (x / 256), IntKind.u8.wrap x]) (by simp)
                  have hsz : (wo.drew.alloc (.cells (U .u8 [IntKind.u8.wrap (x / 16777216), IntKind.u8.wrap (x / 65536), IntKind.u8.wrap (x / 256), IntKind.u8.wrap x]) 5)).heap.size = wo.heap.size + 1 := by simp
                  change Rd _ _ _ (some ⟨wo.heap.size, 0, none⟩) _ at hN2
                  rw [e4] at hO2 hN2 hsz ⊢
                  generalize wo.drew.alloc (.cells (U .u8 (putL (gt si j) 4)) 5) = w2 at hO2 hN2 hsz ⊢
                  refine Lx.app (w := w2) (c := 4) 21 rfl (by kernel_rfl) rfl (.tmp 57) (.tmp 77) 24 5 .u8 1 rfl Tryd.underlying24 inf_u8 hO2 hN2 (by kernel_rfl) (by kernel_rfl) (putL_len _ _) (outW si (j + 1)) rfl (4 * (j + 1)) (outW_len _ _) (by omega) (by omega) (by omega) ?_
                  intro hS2 Ab cb wb hOb hgb hfb
                  have hKb : Kept (D + 1) (fun _ => False) wq wb := hS2.2.grew hO2 hgb (Nat.le_refl _) (by omega)
                  have hSb : Arr wb D 96 .u32 si := hS.kept hKb (by omega) (fun h => h)
                  refine ⟨⟨hSb, hKb⟩, ?_⟩
                  refine Lx.val 22 (.slice Ab (4 * (j + 1)) cb) rfl (by kernel_rfl) (by kernel_rfl) (by kernel_rfl) (fun _ _ _ h => h) (by kernel_rfl) (fun w _ => by kernel_rfl) ?_
                  refine Lx.done (by kernel_rfl) ?_
                  intro _
                  simp only [Act.put, List.getElem_toArray, List.getElem_cons_succ, List.getElem_cons_zero, List.setIfInBounds_toArray, List.set_cons_zero, List.set_cons_succ]
                  go_wp2_with fail
                  go_roundg (8 - (j + 1))
                  case measure => have := HGK.out; omega
                  case rel => exact ⟨j + 1, Ab, cb, rfl, by go_num, by omega, rfl, hOb, hKb⟩
                · have hlt8I : ¬ (j : Int) < 8 := by omega
                  obtain rfl : j = 8 := by omega
                  go_wp2_with fail
                  go_ret
                  refine ⟨Aj, cj, rfl, ?_, ?_⟩
                  · rw [HFIN.out, HB.out]; exact (hOj.low (b' := B) (by omega)).frs
                  · rw [HB.out]; exact (hKw.trans (S' := fun _ => False) hKj (by omega) (fun _ _ h => h)).below
    · have ht : ¬ ((l.length : Int) + 1 + (j : Int)) % 64 = 56 := by omega
      have hb1 : ((((l.length : Int) + 1 + (j : Int)) % 64) != 56) = true := by simp; omega
      have hne : j ≠ z := fun e => hlt (hat.2 e)
      clear hgk hat
      have hN2 := Rd.of_arr (B := wr.heap.size + 1) (Arr.new wr 5 .u8 [0]) (by omega)
      have hO2 := hO.alloc (.cells (U .u8 [0]) 5)
      go_wp2_with (at_builtin; refine wpList_app rfl (.tmp 19) (.tmp 20) 24 5 .u8 1 rfl Tryd.underlying24 inf_u8 hO2 hN2 rfl rfl rfl (tz2 l (j + 1)) (tz2_succ l j) (l.length + 1 + (j + 1)) (tz2_len _ _) (by have := HL.out; omega) (by have := HL.out; omega) (by simp; omega) ?_; intro Ab cb wb hOb hgb hfb)
      go_roundg (z - (j + 1))
      case measure => have := HGK.out; omega
      case rel => exact ⟨j + 1, Ab, cb, rfl, by rw [HZ.out]; omega, by rw [HZ.out], hOb, (hK.alloc (.cells (U .u8 [0]) 5) hwl).grew hO2 hgb (Nat.le_refl _) (by simp; omega)⟩
end Go.Proofs.YtfaonieaagepjaaDoor
