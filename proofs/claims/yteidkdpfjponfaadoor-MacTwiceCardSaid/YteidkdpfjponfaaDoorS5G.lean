/- The reference's sum of a text, layer 3, walked. Conditions: the text reads as at most 100000000 bytes. -/
import Derived.Test.YteidkdpfjponfaaDoorS5F
import Derived.Test.YteidkdpfjponfaaDoorS5D
namespace Go.Proofs.YteidkdpfjponfaaDoor
open Go.RowKit
set_option linter.unusedVariables false
set_option linter.unusedSimpArgs false

def zz5 (n : Nat) : Nat := (128 - (n + 1 + 16) % 128) % 128
theorem zrs_add (a b : Nat) : zrs (a + b) = zrs a ++ zrs b := by simp [zrs, List.replicate_append_replicate]
theorem zrs_one : zrs 1 = [0] := rfl
def tx (l : List Int) (j : Nat) : List Int := l ++ [128] ++ zrs j
theorem tx_len (l : List Int) (j : Nat) : (tx l j).length = l.length + 1 + j := by simp [tx, zrs_len]; omega
theorem tx_succ (l : List Int) (j : Nat) : tx l j ++ [0] = tx l (j + 1) := by rw [tx, tx, zrs_add, zrs_one]; simp
theorem text5_tx (l : List Int) : text5 l = tx l (zz5 l.length + 8) ++ putL (8 * l.length : Nat) 8 := rfl
theorem take_snoc (l : List Int) (m : Nat) (h : m < l.length) : l.take m ++ [gt l m] = l.take (m + 1) := by
  rw [List.take_succ_eq_append_getElem h]; simp [gt, h]
theorem put_snoc (v : Int) (m : Nat) (h : m < 8) {k : Nat} (hk : k = 7 - m) {x : Int} (hx : v / 2 ^ (8 * k) % 256 = x) : (putL v 8).take m ++ [x] = (putL v 8).take (m + 1) := by
  rw [← take_snoc (putL v 8) m (by rw [putL_len]; exact h), gt_putL v 8 m h, show 8 - 1 - m = k by omega, hx]
theorem put_take_len (v : Int) (m : Nat) (h : m ≤ 8) : ((putL v 8).take m).length = m := by rw [List.length_take, putL_len]; omega

def G1 (w0 : World) (B : Nat) (l : List Int) (gk : Nat) (v : Value) (w : World) : Prop :=
  ∃ (j : Nat) (A : Option Addr) (c : Nat), v = .slice A (l.length + 1 + j) c ∧ j ≤ zz5 l.length ∧ gk = zz5 l.length - j ∧ Own w B 5 .u8 (.slice A (l.length + 1 + j) c) (tx l j) ∧ Kept B (fun _ => False) w0 w
def G2 (w0 : World) (B : Nat) (l : List Int) (z gk : Nat) (v x : Value) (w : World) : Prop :=
  ∃ (i : Nat) (A : Option Addr) (c : Nat), v = .slice A (l.length + 1 + (z + i)) c ∧ x = .int .i64 i ∧ i ≤ 8 ∧ gk = 8 - i ∧ Own w B 5 .u8 (.slice A (l.length + 1 + (z + i)) c) (tx l (z + i)) ∧ Kept B (fun _ => False) w0 w
def G3 (w0 : World) (B : Nat) (T8 : List Int) (v8 : Int) (gk : Nat) (v x : Value) (w : World) : Prop :=
  ∃ (m : Nat) (z : Int) (A : Option Addr) (c : Nat), v = .slice A (T8.length + m) c ∧ x = .int .i64 z ∧ z = 7 - (m : Int) ∧ m ≤ 8 ∧ gk = 8 - m ∧ Own w B 5 .u8 (.slice A (T8.length + m) c) (T8 ++ (putL v8 8).take m) ∧ Kept B (fun _ => False) w0 w
def G5 (w0 : World) (B : Nat) (s : List Int) (gk : Nat) (v x : Value) (w : World) : Prop :=
  ∃ (j : Nat) (A : Option Addr) (c : Nat), v = .slice A (8 * j) c ∧ x = .int .i64 j ∧ j ≤ 8 ∧ gk = 8 - j ∧ Own w B 5 .u8 (.slice A (8 * j) c) (outS s j) ∧ Kept B (fun _ => False) w0 w
def G6 (w0 : World) (B : Nat) (T8 : List Int) (v8 : Int) (gk : Nat) (v x : Value) (w : World) : Prop :=
  ∃ (m : Nat) (z : Int) (A : Option Addr) (c : Nat), v = .slice A (T8.length + m) c ∧ x = .int .i64 z ∧ z = 7 - (m : Int) ∧ m ≤ 8 ∧ gk = 8 - m ∧ Own w B 5 .u8 (.slice A (T8.length + m) c) (T8 ++ (putL v8 8).take m) ∧ Kept B (fun _ => False) w0 w
theorem f5_built : #[Value.int .u64 7640891576956012808, .int .u64 13503953896175478587, .int .u64 4354685564936845355, .int .u64 11912009170470909681, .int .u64 5840696475078001361, .int .u64 11170449401992604703, .int .u64 2270897969802886507, .int .u64 6620516959819538809] = U .u64 f5L := rfl

set_option maxRecDepth 100000 in
set_option maxHeartbeats 4000000 in
theorem rone_any (l : List Int) (A : Option Addr) (c B0 n : Nat) (w : World) (hr : Rd w B0 .u8 A l) (hB0 : B0 ≤ w.heap.size) (hl : l.length ≤ 100000000) (hn : l.length = n) (hby : Bys l) :
    Calls Tryd.prog 42 #[.slice A n c] w (PartPost w l) := by
  subst hn
  obtain ⟨B, hB⟩ : ∃ B, w.heap.size = B := ⟨_, rfl⟩
  have HB := Lib.hid hB
  have hmx : (200000000 : Nat) ≤ maxLen := by decide
  have hOe := Own.lit (b := B) (e := 5) (k := .u8) w [] (by omega) (Nat.zero_le _)
  have hRe := hr.alloc hB0 (.cells #[] 5)
  have hKe : Kept B (fun _ => False) w (w.alloc (.cells #[] 5)) := (Kept.refl _ _ w).alloc _ (by omega)
  have hBw : B ≤ w.heap.size := by omega
  have HL := Lib.hid hl
  clear hB hl
  go_enter Tryd.func42, Tryd.ntmps42
  go_upto_region 2 with (first
    | (at_builtin; refine wpList_app rfl (.tmp 12) (.tmp 13) 22 5 .u8 1 rfl Tryd.underlying22 inf_u8 hOe hRe rfl rfl rfl l rfl l.length rfl (by have := HL.out; omega) (by have := HL.out; omega) (by simp; omega) ?_; intro Aa ca wa hOa hga hfa)
    | (at_builtin; have hOb := hOa.alloc (.cells (U .u8 [128]) 5); have hNb := Rd.of_arr (B := wa.heap.size + 1) (Arr.new wa 5 .u8 [128]) (by omega); refine wpList_app rfl (.tmp 14) (.tmp 15) 22 5 .u8 1 rfl Tryd.underlying22 inf_u8 hOb hNb rfl rfl rfl (tx l 0) (by simp [tx, zrs]) (l.length + 1) (by rw [tx_len]) (by have := HL.out; omega) (by have := HL.out; omega) (by have := hga.size; simp at this ⊢; omega) ?_; intro Ab cb wb hOb' hgb hfb))
  have hKb : Kept B (fun _ => False) w wb := by
    have h2 := hKe.grew hOe hga (Nat.le_refl _) (by simp; omega)
    have h3 := h2.alloc (.cells (U .u8 [128]) 5) (by have := hga.size; simp at this; omega)
    exact h3.grew (hOa.alloc (.cells (U .u8 [128]) 5)) hgb (Nat.le_refl _) (by have := hga.size; simp at this ⊢; omega)
  clear hOe hRe hKe hOa hga hfa hgb hfb hr
  obtain ⟨z, hz⟩ : ∃ z, zz5 l.length = z := ⟨_, rfl⟩
  have hz128 : z < 128 := by rw [← hz]; unfold zz5; omega
  have hzat : ∀ j, j ≤ z → ((l.length + 1 + j) % 128 = 112 ↔ j = z) := fun j hj => by rw [← hz] at hj ⊢; unfold zz5 at *; omega
  have HZ := Lib.hid hz
  have HZA := Lib.hid hzat
  clear hz hzat
  go_wp2_with fail
  go_loopg [3] z (fun gk v wr => G1 w B l gk v wr)
  case atStart => exact ⟨0, Ab, cb, rfl, Nat.zero_le _, by rw [HZ.out]; rfl, hOb', hKb⟩
  case round =>
    clear hOb' hKb
    obtain ⟨j, A6, c6, rfl, hj, hgk, hO, hK⟩ := hrel
    rw [HZ.out] at hj hgk
    have HGK := Lib.hid hgk
    have hwl : B ≤ wr.heap.size := by have := hK.size; omega
    have hat := HZA.out j hj
    clear hgk
    by_cases hlt : (l.length + 1 + j) % 128 = 112
    · have hjz : j = z := hat.1 hlt
      have ht : ((l.length : Int) + 1 + (j : Int)) % 128 = 112 := by omega
      have hOz : Own wr B 5 .u8 (.slice A6 (l.length + 1 + (z + 0)) c6) (tx l (z + 0)) := by rw [Nat.add_zero, ← hjz]; exact hO
      have HJZ := Lib.hid hjz
      clear hO hat hlt hj hjz HGK
      go_wp2_with fail
      clear ht
      go_loopg [3, 4] 8 (fun gk v x wr => G2 w B l z gk v x wr)
      case atStart => exact ⟨0, A6, c6, by rw [← HJZ.out]; rfl, rfl, Nat.zero_le _, rfl, hOz, hK⟩
      case round =>
        clear hOz hK hwl
        obtain ⟨i, A7, c7, rfl, rfl, hi, hgk, hO, hK⟩ := hrel
        have HGK := Lib.hid hgk
        have hwl : B ≤ wr.heap.size := by have := hK.size; omega
        clear hgk
        by_cases hlt : i < 8
        · have hltI : (i : Int) < 8 := by omega
          have hN2 := Rd.of_arr (B := wr.heap.size + 1) (Arr.new wr 5 .u8 [0]) (by omega)
          have hO2 := hO.alloc (.cells (U .u8 [0]) 5)
          go_wp2_with (at_builtin; refine wpList_app rfl (.tmp 28) (.tmp 29) 22 5 .u8 1 rfl Tryd.underlying22 inf_u8 hO2 hN2 rfl rfl rfl (tx l (z + (i + 1))) (tx_succ l (z + i)) (l.length + 1 + (z + (i + 1))) (by rw [tx_len]) (by have := HL.out; omega) (by have := HL.out; omega) (by simp; omega) ?_; intro Ab cb wb hOb hgb hfb)
          go_roundg (8 - (i + 1))
          case measure => have := HGK.out; omega
          case rel => exact ⟨i + 1, Ab, cb, rfl, by go_num, by omega, rfl, hOb, (hK.alloc (.cells (U .u8 [0]) 5) hwl).grew hO2 hgb (Nat.le_refl _) (by simp; omega)⟩
        · have hltI : ¬ (i : Int) < 8 := by omega
          have hi8 : i = 8 := by omega
          obtain ⟨T8, hT8⟩ : ∃ T, tx l (z + 8) = T := ⟨_, rfl⟩
          have hT8l : T8.length = l.length + 1 + (z + 8) := by rw [← hT8, tx_len]
          have hO8 : Own wr B 5 .u8 (.slice A7 (T8.length + 0) c7) (T8 ++ (putL ((8 * l.length : Nat) : Int) 8).take 0) := by
            rw [hT8l, List.take_zero, List.append_nil, ← hT8, Nat.add_zero, ← hi8]; exact hO
          have hsl : l.length + 1 + (z + i) = T8.length := by rw [hT8l, hi8]
          rw [hsl]
          obtain ⟨n0, hn0⟩ : ∃ n0, l.length = n0 := ⟨_, rfl⟩
          obtain ⟨n8, hn8⟩ : ∃ n8 : Nat, 8 * l.length = n8 := ⟨_, rfl⟩
          have fn8 : IntKind.u64.wrap ((l.length : Int) * 8) = (n8 : Int) := by have := HL.out; rw [IntKind.wrap_u64]; omega
          have hn8b : (n8 : Int) ≤ 800000000 := by have := HL.out; omega
          rw [hn8] at hO8
          have HT8 := Lib.hid hT8
          have HN8 := Lib.hid hn8
          have HT8L := Lib.hid hT8l
          clear hO hi8 hT8 hT8l hsl hn0 hn8 HGK
          have fn8' : IntKind.u64.wrap (IntKind.u64.wrap (l.length : Int) * 8) = (n8 : Int) := by have := HL.out; have := HN8.out; rw [IntKind.wrap_u64, IntKind.wrap_u64]; omega
          go_wp2_with fail
          clear fn8 fn8'
          go_loopg [3, 6] 8 (fun gk v x wr => G3 w B T8 (n8 : Int) gk v x wr)
          case atStart => exact ⟨0, 7, A7, c7, rfl, rfl, rfl, Nat.zero_le _, rfl, hO8, hK⟩
          case round =>
            clear hO8 hK hwl
            obtain ⟨m, z7, A7, c7, rfl, rfl, hz7, hm, hgk, hO, hK⟩ := hrel
            have HGK := Lib.hid hgk
            have hwl : B ≤ wr.heap.size := by have := hK.size; omega
            clear hgk
            by_cases hlt : m < 8
            · obtain ⟨k, hk⟩ : ∃ k : Nat, k = 7 - m := ⟨_, rfl⟩
              obtain rfl : z7 = (k : Int) := by omega
              have hk8 : k < 8 := by omega
              have hge : (0 : Int) ≤ (k : Int) := by omega
              have HK7 := Lib.hid hk
              clear hz7 hk
              have hN2 := Rd.of_arr (B := wr.heap.size + 1) (Arr.new wr 5 .u8 [(n8 : Int) / 2 ^ (8 * k) % 256]) (by omega)
              have hO2 := hO.alloc (.cells (U .u8 [(n8 : Int) / 2 ^ (8 * k) % 256]) 5)
              have ha := put_snoc (n8 : Int) m hlt HK7.out rfl
              have happ : (T8 ++ (putL (n8 : Int) 8).take m) ++ [(n8 : Int) / 2 ^ (8 * k) % 256] = T8 ++ (putL (n8 : Int) 8).take (m + 1) := by rw [List.append_assoc, ha]
              have HAP := Lib.hid happ
              clear ha happ
              go_wp2_with (at_builtin; refine wpList_app rfl (.tmp 39) (.tmp 46) 22 5 .u8 1 rfl Tryd.underlying22 inf_u8 hO2 hN2 rfl rfl rfl (T8 ++ (putL (n8 : Int) 8).take (m + 1)) HAP.out (T8.length + (m + 1)) (by rw [List.length_append, put_take_len _ _ hlt]) (by have := HL.out; have := HT8L.out; omega) (by have := HL.out; have := HT8L.out; omega) (by simp; omega) ?_; intro Ab cb wb hOb hgb hfb)
              go_roundg (8 - (m + 1))
              case measure => have := HGK.out; omega
              case rel => exact ⟨m + 1, (k : Int) - 1, Ab, cb, rfl, rfl, by have := HK7.out; omega, by omega, rfl, hOb, (hK.alloc (.cells (U .u8 [(n8 : Int) / 2 ^ (8 * k) % 256]) 5) hwl).grew hO2 hgb (Nat.le_refl _) (by simp; omega)⟩
            · obtain rfl : m = 8 := by omega
              obtain rfl : z7 = -1 := by omega
              obtain ⟨T, hT⟩ : ∃ T, text5 l = T := ⟨_, rfl⟩
              have hT2 : T8 ++ (putL (n8 : Int) 8).take 8 = T := by
                rw [List.take_of_length_le (by rw [putL_len]; exact Nat.le_refl _), ← hT, text5_tx, HZ.out, HT8.out, HN8.out]
              have hTl2 : T8.length + 8 = T.length := by rw [← hT2, List.length_append, put_take_len _ _ (Nat.le_refl _)]
              have hTl : T.length ≤ 200000000 := by have := HL.out; have := HT8L.out; omega
              have hTm : T.length % 128 = 0 := by rw [← hT]; exact text5_mod l
              have hTB : Bys T := by rw [← hT]; exact text5_B hby
              rw [hT2, hTl2] at hO
              rw [hTl2]
              have HTL := Lib.hid hTl
              have HTM := Lib.hid hTm
              have HTB := Lib.hid hTB
              have HT := Lib.hid hT
              have hRz := hO.rd
              have hcz := hO.len.2
              have hneg : ¬ (0 : Int) ≤ -1 := by decide
              clear hT2 hTl2 hTl hTm hTB hT hO hm hz7 HGK hlt
              have hS0 := Arr.new wr 75 .u64 (List.replicate 8 0)
              go_wp2_with (first | (refine wpList_value (o := ⟨some 48, _, _, _, _, _⟩) (.agg (U .u64 f5L)) rfl (by kernel_rfl) ?_) | (refine wpList_store_arr (o := ⟨none, _, _, _, _, _⟩) rfl 75 _ _ rfl rfl rfl hS0 8 inf_a8 f5_len rfl ?_))
              obtain ⟨D, hD⟩ : ∃ D, wr.heap.size = D := ⟨_, rfl⟩
              have hS7 := hS0.setRow f5L
              have hK7 := (hK.alloc (.cells (U .u64 (List.replicate 8 0)) 75) hwl).setRow wr.heap.size (U .u64 f5L) (.inl hwl)
              have hR7 := hRz.keep (w' := (wr.alloc (.cells (U .u64 (List.replicate 8 0)) 75)).setRow wr.heap.size (U .u64 f5L)) (fun p hp => World.cell?_of_block (by rw [setRow_other _ _ _ _ (by omega)]; exact Below.heap_alloc wr _ p.block hp))
              have hBD : B ≤ D := by omega
              change Code.wp _ _ _ _ ((wr.alloc (.cells (U .u64 (List.replicate 8 0)) 75)).setRow wr.heap.size (U .u64 f5L))
              rw [hD] at hS7 hK7 hR7 ⊢
              generalize (wr.alloc (.cells (U .u64 (List.replicate 8 0)) 75)).setRow D (U .u64 f5L) = w7 at hS7 hK7 hR7 ⊢
              clear hS0 hRz hK hD hwl
              go_loopg [8] (T.length / 128) (fun gk v wr => BL w7 D T gk v wr)
              case atStart => exact ⟨0, rfl, by omega, rfl, hS7, Kept.refl _ _ _⟩
              case round =>
                clear hS7
                obtain ⟨wq, rfl⟩ : ∃ wq : World, wq = wr := ⟨_, rfl⟩
                obtain ⟨i, rfl, hi, hgk, hS, hKq⟩ := hrel
                obtain ⟨at_, hat⟩ : ∃ a, 128 * i = a := ⟨_, rfl⟩
                obtain ⟨si, hsi⟩ : ∃ s, tS T i = s := ⟨_, rfl⟩
                have hsl8 : si.length = 8 := by rw [← hsi, tS_len]
                have hsw8 : Ws si := hsi ▸ tS_W T i
                rw [hat] at hi ⊢
                rw [hsi] at hS
                have hRq := hR7.kept hKq (Nat.le_refl _) (fun _ _ h => h)
                have hKw := hK7.trans (S' := fun _ => False) hKq hBD (fun _ _ h => h)
                have HGK := Lib.hid hgk
                have HAT := Lib.hid hat
                have HSI := Lib.hid hsi
                clear hgk hat hsi
                by_cases hlt : at_ < T.length
                · have hltI : (at_ : Int) < (T.length : Int) := by omega
                  have hfit : at_ + 128 ≤ T.length := by have := HTM.out; have := HAT.out; omega
                  obtain ⟨a2, ha2⟩ : ∃ a, at_ + 128 = a := ⟨_, rfl⟩
                  have ha2w : IntKind.i64.wrap ((at_ : Int) + 128) = (a2 : Int) := by rw [IntWalk.i64_in _ (by have := HTL.out; omega)]; omega
                  have e1 : a2 - at_ = 128 := by omega
                  have hsl := fun wx => run_slice_ab (P := Tryd.prog) 22 5 Tryd.underlying22 (by kernel_rfl) A7 T.length c7 at_ a2 (by omega) (by omega) .i64 .i64 wx
                  obtain ⟨A2, hA2⟩ : ∃ A2, (if c7 = at_ then A7 else A7.map (·.add at_)) = A2 := ⟨_, rfl⟩
                  obtain ⟨c2, hc2⟩ : ∃ c2, c7 - at_ = c2 := ⟨_, rfl⟩
                  rw [e1, hA2, hc2] at hsl
                  have HA2 := Lib.hid hA2
                  have hcle : a2 ≤ c7 := by omega
                  have ha2T : a2 ≤ T.length := by omega
                  have HA2E := Lib.hid ha2
                  have hc128 : 128 ≤ c2 := by omega
                  obtain ⟨blk, hblk⟩ : ∃ b, (T.drop at_).take 128 = b := ⟨_, rfl⟩
                  have hblk2 : (T.take a2).drop at_ = blk := by rw [← hblk, List.take_drop, ha2]
                  have hbl : blk.length = 128 := by rw [← hblk]; simp; omega
                  have hbB : Bys blk := by rw [← hblk]; exact (HTB.out.drop _).take _
                  have hnext : Hid (turn5 si blk = tS T (i + 1)) := by show turn5 si blk = _; rw [tS, HAT.out, HSI.out, hblk]
                  have HBLK2 := Lib.hid hblk2
                  clear e1 hA2 hc2 hblk hblk2 ha2
                  have hDq : D < wq.heap.size := hS.lt
                  have KB : ∀ {w' : World}, Rd w' D .u8 A7 T → Rd w' D .u8 A2 blk := fun h => by
                    have h2 := h.cut at_ a2 c7 ha2T hcle
                    rw [HA2.out, HBLK2.out] at h2
                    exact h2
                  go_upto_region 17 with fail
                  refine wp_region_hold_tail 7 (fun w' => Arr w' D 75 .u64 si ∧ Rd w' D .u8 A7 T ∧ Kept B (fun _ => False) w w' ∧ Kept D (fun _ => False) w7 w') (by kernel_rfl) (by kernel_rfl) ⟨hS.drew, hRq.drew, hKw.drew, hKq.drew⟩ ?_
                  simp only [List.take_succ_cons, List.take_zero, List.drop_succ_cons, List.drop_zero]
                  ((first | (refine wpHold_step (.agg (U .u64 (si))) ?_ ?_ ?_; focus (with_reducible rfl)) | (refine wpHold_yes (.agg (U .u64 (si))) ?_ ?_ ?_; focus rfl)); (focus (intro w hw; exact gives_load_arr hw 75 _ rfl rfl (hw.1) Tryd.underlying75 rfl 8 inf_a8 hsl8)); (try simp only [Act.put, List.setIfInBounds_toArray, List.set_cons_zero, List.set_cons_succ]))
                  ((first | (refine wpHold_step ?_ ?_ ?_ ?_; rotate_left 1; focus (with_reducible rfl)) | (refine wpHold_yes ?_ ?_ ?_ ?_; rotate_left 1; focus rfl)); (focus (intro w hw; unfold Gives; go_simp; refine ⟨?_, hw⟩; with_reducible rfl)); (try simp only [Act.put, List.setIfInBounds_toArray, List.set_cons_zero, List.set_cons_succ]))
                  ((first | (refine wpHold_step ?_ ?_ ?_ ?_; rotate_left 1; focus (with_reducible rfl)) | (refine wpHold_yes ?_ ?_ ?_ ?_; rotate_left 1; focus rfl)); (focus (intro w hw; unfold Gives; go_simp; refine ⟨?_, hw⟩; with_reducible rfl)); (try simp only [Act.put, List.setIfInBounds_toArray, List.set_cons_zero, List.set_cons_succ]))
                  ((first | (refine wpHold_step ?_ ?_ ?_ ?_; rotate_left 1; focus (with_reducible rfl)) | (refine wpHold_yes ?_ ?_ ?_ ?_; rotate_left 1; focus rfl)); (focus (intro w hw; unfold Gives; go_simp; refine ⟨?_, hw⟩; with_reducible rfl)); (try simp only [Act.put, List.setIfInBounds_toArray, List.set_cons_zero, List.set_cons_succ]))
                  ((first | (refine wpHold_step ?_ ?_ ?_ ?_; rotate_left 1; focus (with_reducible rfl)) | (refine wpHold_yes ?_ ?_ ?_ ?_; rotate_left 1; focus rfl)); (focus (intro w hw; unfold Gives; go_simp; refine ⟨?_, hw⟩; with_reducible rfl)); (try simp only [Act.put, List.setIfInBounds_toArray, List.set_cons_zero, List.set_cons_succ]))
                  ((first | (refine wpHold_step ?_ ?_ ?_ ?_; rotate_left 1; focus (with_reducible rfl)) | (refine wpHold_yes ?_ ?_ ?_ ?_; rotate_left 1; focus rfl)); (focus (intro w hw; unfold Gives; go_simp; refine ⟨?_, hw⟩; with_reducible rfl)); (try simp only [Act.put, List.setIfInBounds_toArray, List.set_cons_zero, List.set_cons_succ]))
                  ((first | (refine wpHold_step (.agg (U .u64 (turn5 si blk))) ?_ ?_ ?_; focus (with_reducible rfl)) | (refine wpHold_yes (.agg (U .u64 (turn5 si blk))) ?_ ?_ ?_; focus rfl)); (focus (intro w hw; unfold Gives; go_simp; exact (rturn_any si blk A2 c2 D w hsl8 hsw8 (KB hw.2.1) (by have := hw.1.lt; omega) hbB hbl hc128).mono fun e w' ⟨h1, h2⟩ => ⟨h1, hw.1.below h2 hw.1.lt, hw.2.1.below (h2.mono (by have := hw.1.lt; omega)), hw.2.2.1.trans (S' := fun _ => False) (Kept.of_below h2) (by have := hw.1.lt; omega) (fun _ _ h => h), hw.2.2.2.trans (S' := fun _ => False) (Kept.of_below h2) (by have := hw.1.lt; omega) (fun _ _ h => h)⟩)); (try simp only [Act.put, List.setIfInBounds_toArray, List.set_cons_zero, List.set_cons_succ]))
                  refine wpHold_nil ?_
                  intro w' ⟨hS8, hR8, hK8, hK9⟩
                  have hln : (turn5 si blk).length = 8 := turn5_len _ hsl8
                  obtain ⟨sn, hsn⟩ : ∃ s, turn5 si blk = s := ⟨_, rfl⟩
                  rw [hsn] at hln hnext ⊢
                  clear hS hRq hKw hKq KB hsl hsn
                  go_wp2_with (refine wpList_store_arr (o := ⟨none, _, _, _, _, _⟩) rfl 75 _ _ rfl rfl rfl hS8 8 inf_a8 hln hsl8 ?_)
                  go_roundg (T.length / 128 - (i + 1))
                  case measure => have := HGK.out; have := HAT.out; omega
                  case rel =>
                    have h1 := hS8.setRow sn
                    refine ⟨i + 1, ?_, ?_, rfl, by rw [← hnext.out]; exact h1, hK9.setRow D _ (.inl (Nat.le_refl _))⟩
                    · rw [show (128 * (i + 1) : Nat) = a2 by have := HAT.out; have := HA2E.out; omega]
                    · have := HAT.out; omega
                · have hltI : ¬ (at_ : Int) < (T.length : Int) := by omega
                  have hit : i = T.length / 128 := by have := HAT.out; have := HTM.out; omega
                  have hfin : sum5 l = outS si 8 := by rw [sum5, HT.out, ← hit, HSI.out]
                  have HFIN := Lib.hid hfin
                  have hBq : D < wq.heap.size := hS.lt
                  clear hit hfin hRq HGK
                  go_wp2_with fail
                  go_loopg [9, 10] 8 (fun gk v x wr => G5 wq (D + 1) si gk v x wr)
                  case atStart => exact ⟨0, none, 0, rfl, rfl, Nat.zero_le _, rfl, Own.nil _ _ _ _, Kept.refl _ _ _⟩
                  case round =>
                    obtain ⟨wo, rfl⟩ : ∃ wo : World, wo = wr := ⟨_, rfl⟩
                    obtain ⟨j, Aj, cj, rfl, rfl, hj, hgk, hOj, hKj⟩ := hrel
                    have HGK := Lib.hid hgk
                    clear hgk
                    have hDo : D < wo.heap.size := by have := hKj.size; omega
                    by_cases hlt8 : j < 8
                    · have hlt8I : (j : Int) < 8 := by omega
                      have hO6 : Own wo (D + 1) 5 .u8 (.slice Aj ((outS si j).length + 0) cj) (outS si j ++ (putL (gt si j) 8).take 0) := by
                        rw [outS_len, List.take_zero, List.append_nil]; exact hOj
                      obtain ⟨gv, hgv⟩ : ∃ g, gt si j = g := ⟨_, rfl⟩
                      obtain ⟨oj, hoj⟩ : ∃ o, outS si j = o := ⟨_, rfl⟩
                      have hojl : oj.length = 8 * j := by rw [← hoj, outS_len]
                      have hon : oj ++ putL gv 8 = outS si (j + 1) := by rw [outS, hoj, hgv]
                      rw [hgv, hoj] at hO6
                      have HGV := Lib.hid hgv
                      have HON := Lib.hid hon
                      have HOJ := Lib.hid hojl
                      rw [← hojl]
                      clear hgv hoj hon hojl hOj
                      go_wp2_with fail
                      go_loopg [9, 11] 8 (fun gk v x wr => G6 wq (D + 1) oj gv gk v x wr)
                      case atStart => exact ⟨0, 7, Aj, cj, rfl, rfl, rfl, Nat.zero_le _, rfl, hO6, hKj⟩
                      case round =>
                        clear hO6 hKj
                        obtain ⟨m, z7, A8, c8, rfl, rfl, hz7, hm, hgk, hO, hK⟩ := hrel
                        have HGK2 := Lib.hid hgk
                        have hwl : D + 1 ≤ wr.heap.size := by have := hK.size; omega
                        clear hgk
                        by_cases hlt : m < 8
                        · obtain ⟨k, hk⟩ : ∃ k : Nat, k = 7 - m := ⟨_, rfl⟩
                          obtain rfl : z7 = (k : Int) := by omega
                          have hk8 : k < 8 := by omega
                          have hge : (0 : Int) ≤ (k : Int) := by omega
                          have HK7 := Lib.hid hk
                          clear hz7 hk
                          have hSr := hS.kept hK (Nat.lt_succ_self _) (fun h => h)
                          have hcl := hSr.cell j (by omega)
                          rw [HGV.out] at hcl
                          have hN2 := Rd.of_arr (B := wr.heap.size + 1) (Arr.new wr 5 .u8 [gv / 2 ^ (8 * k) % 256]) (by omega)
                          have hO2 := hO.alloc (.cells (U .u8 [gv / 2 ^ (8 * k) % 256]) 5)
                          have happ : (oj ++ (putL gv 8).take m) ++ [gv / 2 ^ (8 * k) % 256] = oj ++ (putL gv 8).take (m + 1) := by rw [List.append_assoc, put_snoc gv m hlt HK7.out rfl]
                          have HAP := Lib.hid happ
                          clear happ
                          go_wp2_with (at_builtin; refine wpList_app rfl (.tmp 70) (.tmp 79) 22 5 .u8 1 rfl Tryd.underlying22 inf_u8 hO2 hN2 rfl rfl rfl (oj ++ (putL gv 8).take (m + 1)) HAP.out (oj.length + (m + 1)) (by rw [List.length_append, put_take_len _ _ hlt]) (by have := HOJ.out; omega) (by have := HOJ.out; omega) (by simp; omega) ?_; intro Ab cb wb hOb hgb hfb)
                          go_roundg (8 - (m + 1))
                          case measure => have := HGK2.out; omega
                          case rel => exact ⟨m + 1, (k : Int) - 1, Ab, cb, rfl, rfl, by have := HK7.out; omega, by omega, rfl, hOb, (hK.alloc (.cells (U .u8 [gv / 2 ^ (8 * k) % 256]) 5) hwl).grew hO2 hgb (Nat.le_refl _) (by simp; omega)⟩
                        · obtain rfl : m = 8 := by omega
                          obtain rfl : z7 = -1 := by omega
                          have hneg : ¬ (0 : Int) ≤ -1 := by decide
                          go_wp2_with fail
                          go_roundg (8 - (j + 1))
                          case measure => have := HGK.out; omega
                          case rel =>
                            have e1 : oj ++ (putL gv 8).take 8 = outS si (j + 1) := by rw [List.take_of_length_le (by rw [putL_len]; exact Nat.le_refl _), HON.out]
                            have e2 : oj.length + 8 = 8 * (j + 1) := by rw [HOJ.out]; omega
                            rw [e1, e2] at hO
                            exact ⟨j + 1, A8, c8, by rw [e2], by go_num, by omega, rfl, hO, hK⟩
                    · have hlt8I : ¬ (j : Int) < 8 := by omega
                      obtain rfl : j = 8 := by omega
                      go_wp2_with fail
                      go_ret
                      refine ⟨Aj, cj, rfl, ?_, ?_⟩
                      · rw [HFIN.out, HB.out]; exact (hOj.low (by omega)).frs
                      · rw [HB.out]; exact (hKw.trans (S' := fun _ => False) hKj (by omega) (fun _ _ h => h)).below
    · have ht : ¬ ((l.length : Int) + 1 + (j : Int)) % 128 = 112 := by omega
      have hb1 : ((((l.length : Int) + 1 + (j : Int)) % 128) != 112) = true := by simp; omega
      have hne : j ≠ z := fun e => hlt (hat.2 e)
      clear hat
      have hN2 := Rd.of_arr (B := wr.heap.size + 1) (Arr.new wr 5 .u8 [0]) (by omega)
      have hO2 := hO.alloc (.cells (U .u8 [0]) 5)
      go_wp2_with (at_builtin; refine wpList_app rfl (.tmp 21) (.tmp 22) 22 5 .u8 1 rfl Tryd.underlying22 inf_u8 hO2 hN2 rfl rfl rfl (tx l (j + 1)) (tx_succ l j) (l.length + 1 + (j + 1)) (by rw [tx_len]) (by have := HL.out; omega) (by have := HL.out; omega) (by simp; omega) ?_; intro Ab cb wb hOb hgb hfb)
      go_roundg (z - (j + 1))
      case measure => have := HGK.out; omega
      case rel => exact ⟨j + 1, Ab, cb, rfl, by rw [HZ.out]; omega, by rw [HZ.out], hOb, (hK.alloc (.cells (U .u8 [0]) 5) hwl).grew hO2 hgb (Nat.le_refl _) (by simp; omega)⟩

end Go.Proofs.YteidkdpfjponfaaDoor
