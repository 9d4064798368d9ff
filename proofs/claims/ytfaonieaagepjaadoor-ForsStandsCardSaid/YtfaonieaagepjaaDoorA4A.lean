/- Layer 14: numbers as 4 bytes each; addresses as bytes; the reference's too. Conditions: none but small lengths and numbers of their kinds. -/
import Derived.Test.YtfaonieaagepjaaDoorZG
import Derived.Test.YtfaonieaagepjaaDoorZA
namespace Go.Proofs.YtfaonieaagepjaaDoor
open Go.RowKit
set_option linter.unusedVariables false
set_option linter.unusedSimpArgs false
/-- An address. -/
structure Ad where
  la : Int
  tr : Int
  kd : Int
  a : Int
  b : Int
  c : Int
def Ad.cs (d : Ad) : Array Value := #[.int .u32 d.la, .int .u64 d.tr, .int .u32 d.kd, .int .u32 d.a, .int .u32 d.b, .int .u32 d.c]
structure Ad.ok (d : Ad) : Prop where
  la : W32 d.la
  tr : 0 ≤ d.tr ∧ d.tr < 18446744073709551616
  kd : W32 d.kd
  a : W32 d.a
  b : W32 d.b
  c : W32 d.c
def wordsL (zs : List Int) : List Int := (zs.map fun z => putL z 4).flatten
theorem wordsL_len (zs : List Int) : (wordsL zs).length = 4 * zs.length := by
  induction zs with
  | nil => rfl
  | cons z zs ih => simp only [wordsL, List.map_cons, List.flatten_cons, List.length_append, putL_len, List.length_cons] at *; omega
theorem wordsL_take (zs : List Int) (i : Nat) (h : i < zs.length) : wordsL (zs.take i) ++ putL (gt zs i) 4 = wordsL (zs.take (i + 1)) := by
  have eg : gt zs i = zs[i] := by simp [gt, h]
  rw [List.take_succ_eq_append_getElem h, eg]; simp only [wordsL, List.map_append, List.map_cons, List.map_nil, List.flatten_append, List.flatten_cons, List.flatten_nil, List.append_nil]
theorem wordsL_B (zs : List Int) : Bys (wordsL zs) := fun x hx => by
  simp only [wordsL, List.mem_flatten, List.mem_map] at hx
  obtain ⟨l, ⟨z, _, rfl⟩, h⟩ := hx
  exact putL_B z 4 x h
def adB (d : Ad) (k : Int) : List Int := wordsL [d.la] ++ putL d.tr 8 ++ wordsL [d.kd, d.a, d.b, d.c, k]
def adP (d : Ad) : List Int := wordsL [d.la, 0] ++ putL d.tr 8 ++ wordsL [d.kd, d.a, d.b, d.c]
theorem adB_len (d : Ad) (k : Int) : (adB d k).length = 32 := by simp only [adB, List.length_append, wordsL_len, putL_len]; rfl
theorem adP_len (d : Ad) : (adP d).length = 32 := by simp only [adP, List.length_append, wordsL_len, putL_len]; rfl
theorem adB_B (d : Ad) (k : Int) : Bys (adB d k) := ((wordsL_B _).append (putL_B _ _)).append (wordsL_B _)
theorem adP_B (d : Ad) : Bys (adP d) := ((wordsL_B _).append (putL_B _ _)).append (wordsL_B _)
def WJ (w0 : World) (B n : Nat) (zs : List Int) (gk : Nat) (v x : Value) (w : World) : Prop :=
  ∃ (i : Nat) (A : Option Addr) (c : Nat), v = .slice A (4 * i) c ∧ x = .int .i64 i ∧ i ≤ n ∧ gk = n - i ∧ Own w B 5 .u8 (.slice A (4 * i) c) (wordsL (zs.take i)) ∧ Kept B (fun _ => False) w0 w
set_option maxRecDepth 100000 in
set_option maxHeartbeats 1000000 in
theorem words_any (zs : List Int) (A : Option Addr) (c n m BB : Nat) (w : World) (hr : Rd w BB .u32 A zs) (hBB : BB ≤ w.heap.size) (hn : zs.length = n) (hl : n ≤ 1000) (hz : ∀ i, W32 (gt zs i)) (hm : 4 * n = m) :
    Calls Tryd.prog 56 #[.slice A n c] w (OutP w (wordsL zs) m) := by
  subst hm
  have hmx : (200000000 : Nat) ≤ maxLen := by decide
  obtain ⟨B, hB⟩ : ∃ B, w.heap.size = B := ⟨_, rfl⟩
  have HB := Lib.hid hB
  have HZ := Lib.hid hz
  have hK0 := Kept.refl B (fun _ => False) w
  rw [hB] at hBB
  clear hB hz
  go_enter Tryd.func56, Tryd.ntmps56
  go_wp2_with fail
  go_loopg [3, 8] n (fun gk v x wr => WJ w B n zs gk v x wr)
  case atStart => exact ⟨0, none, 0, rfl, rfl, Nat.zero_le _, rfl, Own.nil _ _ _ _, hK0⟩
  case round =>
    clear hK0
    obtain ⟨wq, rfl⟩ : ∃ wq : World, wq = wr := ⟨_, rfl⟩
    obtain ⟨i, Ao, co, rfl, rfl, hi, hgk, hO, hK⟩ := hrel
    have HGK := Lib.hid hgk
    have hwl : B ≤ wq.heap.size := by have := hK.size; have := HB.out; omega
    clear hgk
    by_cases hlt : i < n
    · have hltI : (i : Int) < (n : Int) := by omega
      have hrk := hr.kept hK hBB (fun _ _ h => h)
      obtain ⟨ad, hAd, hab, hcell⟩ := hrk.at_ (i := i) (by omega)
      obtain rfl := hAd
      have hta := wordsL_take zs i (by omega)
      obtain ⟨z, hz⟩ : ∃ z, gt zs i = z := ⟨_, rfl⟩
      have hzb := HZ.out i
      rw [hz] at hcell hta hzb
      have HTA := Lib.hid hta
      have hzw : IntKind.u64.wrap z = z := by rw [IntKind.wrap_u64]; have := hzb.1; have := hzb.2; omega
      have hz0 := hzb.1
      have hz1 := hzb.2
      clear hta hz hrk hzb
      go_wp2_with fail
      (with_reducible refine (put_any z 4 4 wq rfl (by decide)).mono ?_)
      rintro e w1 ⟨A1, c1, rfl, hO1, hb1⟩
      have hK1 := kbl hK hwl hb1
      have hOo := hO.below hb1 (Nat.le_refl _)
      have hz1' := hb1.size
      have hR1 := hO1.rd
      clear hO1 hb1 hO hK
      go_wp2_with (at_builtin; refine wpList_app rfl (.tmp 12) (.tmp 15) 24 5 .u8 1 rfl Tryd.underlying24 inf_u8 hOo hR1 rfl rfl (putL_len _ _) (wordsL (zs.take (i + 1))) HTA.out (4 * (i + 1)) (by rw [wordsL_len, List.length_take]; omega) (by omega) (by omega) (by omega) ?_; intro A2 c2 w2 hO2 hg2 hf2)
      have hK2 := hK1.grew hOo hg2 (Nat.le_refl _) (by omega)
      go_roundg (n - (i + 1))
      case measure => have := HGK.out; omega
      case rel => exact ⟨i + 1, A2, c2, rfl, by go_num, by omega, rfl, hO2, hK2⟩
    · have hltI : ¬ (i : Int) < (n : Int) := by omega
      obtain rfl : i = n := by omega
      rw [List.take_of_length_le (by omega)] at hO
      go_wp2_with fail
      go_ret
      exact ⟨_, _, rfl, by rw [HB.out]; exact hO.frs, by rw [HB.out]; exact hK.below⟩
set_option maxRecDepth 100000 in
theorem word_any (z : Int) (w : World) (hz : W32 z) : Calls Tryd.prog 59 #[.int .u32 z] w (OutP w (putL z 4) 4) := by
  have hzw : IntKind.u64.wrap z = z := by rw [IntKind.wrap_u64]; have := hz.1; have := hz.2; omega
  have hz0 := hz.1
  have hz1 := hz.2
  have hput : Calls Tryd.prog 60 #[.int .u64 z, .int .i64 4] w (PutPost w z 4) := rput_any z 4 w (by decide) (by omega) (by omega)
  go_enter Tryd.func59, Tryd.ntmps59
  go_wp2_with fail
  (with_reducible refine hput.mono ?_)
  rintro e w1 ⟨A1, c1, rfl, hO1, hb1⟩
  go_wp2_with fail
  go_ret
  exact ⟨_, _, rfl, hO1.frs, hb1⟩
end Go.Proofs.YtfaonieaagepjaaDoor
