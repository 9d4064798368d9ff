/- (*sha2.Hash).Sum and sha2.One, walked. Conditions: the hash stands as it must; small lengths; the tables. -/
import Derived.Test.YtfaonieaagepjaaDoorS2D
import Derived.Test.YtfaonieaagepjaaDoorZA
namespace Go.Proofs.YtfaonieaagepjaaDoor
open Go.RowKit
set_option linter.unusedVariables false
set_option linter.unusedSimpArgs false

def zn2 (n : Nat) : Nat := (119 - n % 64) % 64
def zrw (n : Nat) : List Int := List.replicate n 0
theorem zrw_len (n : Nat) : (zrw n).length = n := by simp [zrw]
def text2 (l : List Int) : List Int := l ++ [128] ++ zrw (zn2 l.length) ++ putL (8 * l.length : Nat) 8
theorem text2_len (l : List Int) : (text2 l).length = l.length + 1 + zn2 l.length + 8 := by simp [text2, zrw_len, putL_len]; omega
theorem text2_mod (l : List Int) : (text2 l).length % 64 = 0 := by rw [text2_len]; unfold zn2; omega
theorem zrw_B (n : Nat) : Bys (zrw n) := Bys.rep n B8.zero
theorem text2_B {l : List Int} (h : Bys l) : Bys (text2 l) := ((h.append (Bys.one (by constructor <;> decide))).append (zrw_B _)).append (putL_B _ _)
def outW (s : List Int) : Nat → List Int
  | 0 => []
  | j + 1 => outW s j ++ putL (gt s j) 4
theorem outW_len (s : List Int) (j : Nat) : (outW s j).length = 4 * j := by
  induction j with
  | zero => rfl
  | succ j ih => rw [outW, List.length_append, ih, putL_len]; omega
theorem outW_B (s : List Int) (j : Nat) : Bys (outW s j) := by
  induction j with
  | zero => exact Bys.nil
  | succ j ih => exact ih.append (putL_B _ _)
def sum2 (l : List Int) : List Int := outW (hst (text2 l)) 8
theorem sum2_len (l : List Int) : (sum2 l).length = 32 := outW_len _ _
theorem sum2_B (l : List Int) : Bys (sum2 l) := outW_B _ _
/-- The whole blocks of a text. -/
def whl (l : List Int) : List Int := l.take (64 * (l.length / 64))
theorem whl_len (l : List Int) : (whl l).length = 64 * (l.length / 64) := by rw [whl, List.length_take]; omega
theorem whl_app (l : List Int) : whl l ++ hrs l = l := List.take_append_drop _ _
theorem hst_whl (l : List Int) : hst (whl l) = hst l := by
  have h := blocksN_app (whl l) (hrs l) (l.length / 64) (by rw [whl_len]; omega)
  rw [whl_app] at h
  rw [hst, hst, whl_len, Nat.mul_div_cancel_left _ (by decide : 0 < 64), h]
theorem hrs_whl (l : List Int) : hrs (whl l) = [] := by
  rw [hrs, whl_len, Nat.mul_div_cancel_left _ (by decide : 0 < 64), ← whl_len l]
  exact List.drop_length
/-- What Sum writes behind the whole blocks: with j zeros so far. -/
def tl2 (l : List Int) (j : Nat) : List Int := hrs l ++ [128] ++ zrw j
theorem tl2_len (l : List Int) (j : Nat) : (tl2 l j).length = l.length % 64 + 1 + j := by simp [tl2, hrs_len, zrw_len]; omega
theorem tl2_succ (l : List Int) (j : Nat) : tl2 l j ++ [0] = tl2 l (j + 1) := by
  rw [tl2, tl2, List.append_assoc, zrw, zrw, List.replicate_succ']
theorem tl2_end (l : List Int) : whl l ++ (tl2 l (zn2 l.length) ++ putL (8 * l.length : Nat) 8) = text2 l := by
  rw [tl2, text2, ← List.append_assoc, ← List.append_assoc, ← List.append_assoc, whl_app]
theorem tl2_mod (l : List Int) (j : Nat) : ((tl2 l j).length % 64 = 56 ↔ (j % 64 = zn2 l.length)) := by rw [tl2_len]; unfold zn2; omega
def SumPost2 (w : World) (L : List Int) (e : Ending) (w' : World) : Prop :=
  ∃ A c, e = .returned (.slice A 32 c) ∧ Frs w' w.heap.size A c L ∧ Below w.heap.size w w'
theorem parts2w {w : World} {B T : Nat} {v0 v1 : Value} {l0 l1 : List Int} (hB : B ≤ w.heap.size) (h0 : IsPart w B v0 l0) (h1 : IsPart w B v1 l1) :
    Parts (w.alloc (.cells #[v0, v1] T)) (w.heap.size + 1) (some ⟨w.heap.size, 0, none⟩) [l0, l1] :=
  Parts.lit [v0, v1] [l0, l1] hB rfl fun i hi => by
    match i, hi with
    | 0, _ => exact h0
    | 1, _ => exact h1
    | n + 2, h => exact absurd h (by simp)
theorem Rd.partw {w : World} {B c n : Nat} {A : Option Addr} {l : List Int} (h : Rd w B .u8 A l) (hn : l.length = n) (hc : n ≤ c) : IsPart w B (.slice A n c) l := ⟨A, c, by rw [hn], h, by rw [hn]; exact hc⟩
theorem box2 (s : List Int) (hsl : s.length = 8) (o : Oper) (ac : Act) (x : Operand) (ho : o.op = .build 103 #[(0, x)]) (hx : ac.eval x = .agg (U .u32 s)) (w : World) :
    (execOp ac.eval o).run Tryd.prog w = .ok (.value (.agg (nums .u32 s ++ [Value.slice none 0 0, Value.int .u64 0]).toArray)) w := by
  match s, hsl with
  | [x0, x1, x2, x3, x4, x5, x6, x7], _ =>
    have hr : (Instr.build 103 #[(0, Value.agg (U .u32 [x0, x1, x2, x3, x4, x5, x6, x7]))]).run Tryd.prog w = .ok (.agg (nums .u32 [x0, x1, x2, x3, x4, x5, x6, x7] ++ [Value.slice none 0 0, Value.int .u64 0]).toArray) w := by kernel_rfl
    unfold execOp
    simp only [ho, Sem.run_bind, List.map_toArray, List.map_cons, List.map_nil, hx, hr, Result.andThen_ok, Sem.run_pure]
/-- Between the words put out. -/
def OL2 (w0 : World) (B : Nat) (s : List Int) (gk : Nat) (v x : Value) (w : World) : Prop :=
  ∃ (j : Nat) (A : Option Addr) (c : Nat), v = .slice A (4 * j) c ∧ x = .int .i64 j ∧ j ≤ 8 ∧ gk = 8 - j ∧ Frs w B A c (outW s j) ∧ Kept B (fun _ => False) w0 w
theorem Frs.empty2 (w : World) (b : Nat) : Frs w b none 0 [] := ⟨Nat.le_refl _, Nat.zero_le _, fun _ => rfl, fun h => absurd h (by simp)⟩
/-- Between the zeros. -/
def TL2 (w0 : World) (B : Nat) (l : List Int) (nm N gk : Nat) (v : Value) (w : World) : Prop :=
  ∃ (j : Nat) (A : Option Addr) (c : Nat), v = .slice A (nm + 1 + j) c ∧ j ≤ zn2 N ∧ gk = zn2 N - j ∧ Own w (B + 1) 5 .u8 (.slice A (nm + 1 + j) c) (tl2 l j) ∧ Kept (B + 1) (fun _ => False) w0 w
set_option maxRecDepth 100000 in
set_option maxHeartbeats 4000000 in
theorem sum2_any (l F : List Int) (p : Nat) (a : Option Nat) (w : World) (hF0 : sum2 l = F) (hH : Hsh w p a (hst l) (hrs l) (l.length : Nat)) (hl : l.length ≤ 1000000) (hb : Bys l) (hT : S2Tb w) :
    Calls Tryd.prog 69 #[.pointer (some ⟨p, 0, none⟩)] w (SumPost2 w F) := by
  have hmx : (200000000 : Nat) ≤ maxLen := by decide
  obtain ⟨s, hs⟩ : ∃ s, hst l = s := ⟨_, rfl⟩
  have hsl : s.length = 8 := by rw [← hs, hst_len]
  obtain ⟨v, hv, hne, hF, hO⟩ := hH
  rw [hs] at hF
  obtain ⟨m, hm⟩ : ∃ m, hrs l = m := ⟨_, rfl⟩
  rw [hm] at hO
  obtain ⟨N, hN⟩ : ∃ N, l.length = N := ⟨_, rfl⟩
  rw [hN] at hF
  obtain ⟨A0, c0, rfl, hmc, hcm, hR0, hA0⟩ := hO.form
  obtain ⟨nm, hnm⟩ : ∃ nm, m.length = nm := ⟨_, rfl⟩
  rw [hnm] at hF hO hmc hv
  have hnm2 : nm < 64 := by rw [← hnm, ← hm, hrs_len]; omega
  have hlt := hF.lt
  have c8 := hF.at_ 0 8 _ (by rw [hsl]) rfl
  have c9 := hF.at_ 1 9 _ (by rw [hsl]) rfl
  have HS := Lib.hid (And.intro hs (And.intro hm (And.intro hN hnm)))
  clear hs hm hN hnm
  obtain ⟨cs, hcs⟩ : ∃ cs : Array Value, (nums .u32 s ++ [Value.slice none 0 0, Value.int .u64 0]).toArray = cs := ⟨_, rfl⟩
  have hbox : ∀ (o : Oper) (ac : Act) (x : Operand), o.op = .build 103 #[(0, x)] → ac.eval x = .agg (U .u32 s) → ∀ w, (execOp ac.eval o).run Tryd.prog w = .ok (.value (.agg cs)) w := by
    rw [← hcs]
    exact fun o ac x => box2 s hsl o ac x
  go_enter Tryd.func69, Tryd.ntmps69
  go_upto_region 2 with (first | (refine wpList_load_frt (o := ⟨some 11, _, _, _, _, _⟩) rfl 96 _ rfl rfl hF Tryd.underlying96 rfl 8 inf_w8 hsl ?_) | (refine wpList_val2 (o := ⟨some 12, _, _, _, _, _⟩) (.agg cs) rfl (hbox _ _ _ rfl rfl _) ?_))
  obtain ⟨B, hB⟩ : ∃ B, w.heap.size = B := ⟨_, rfl⟩
  have hE2 : Hsh (w.alloc (.cells cs 103)) w.heap.size none s [] 0 := ⟨.slice none 0 0, rfl, by simp, (by rw [Frt, hcs]; exact heap_alloc_new w _), Lie.nil _ _ _ _⟩
  have hF2 : Frt (w.alloc (.cells cs 103)) p 103 .u32 s [Value.slice A0 nm c0, Value.int .u64 N] := by unfold Frt at *; rw [Below.heap_alloc w _ p hlt]; exact hF
  have hR2 : Rd (w.alloc (.cells cs 103)) w.heap.size .u8 A0 m := hR0.alloc (Nat.le_refl _) _
  have hT2 : S2Tb (w.alloc (.cells cs 103)) := hT.below ((Below.refl _ w).alloc (Nat.le_refl _) _) (Nat.le_refl _)
  have hK2 : Kept w.heap.size (fun _ => False) w (w.alloc (.cells cs 103)) := (Kept.refl _ _ w).alloc _ (Nat.le_refl _)
  have hs2 : (w.alloc (.cells cs 103)).heap.size = w.heap.size + 1 := by simp
  have hTl0 := hT.lt
  rw [hB] at hE2 hR2 hK2 hs2 hlt hTl0 ⊢
  generalize w.alloc (.cells cs 103) = w2 at hE2 hF2 hR2 hT2 hK2 hs2 ⊢
  have hOe := Own.lit (b := B + 1) (e := 5) (k := .u8) w2 [] (by omega) (Nat.zero_le _)
  have hRe := hR2.alloc (by omega) (.cells #[] 5)
  have hFe : Frt (w2.alloc (.cells #[] 5)) p 103 .u32 s [Value.slice A0 nm c0, Value.int .u64 N] := by unfold Frt at *; rw [Below.heap_alloc w2 _ p (by omega)]; exact hF2
  have c8e := hFe.at_ 0 8 _ (by rw [hsl]) rfl
  have HB := Lib.hid hB
  have HS2 := Lib.hid hs2
  have hz0 : m ++ [128] = tl2 l 0 := by rw [tl2, HS.out.2.1]; simp [zrw]
  have htl : ∀ j, (tl2 l j).length = nm + 1 + j := fun j => by rw [tl2_len, ← hrs_len, HS.out.2.1, HS.out.2.2.2]
  have HL := Lib.hid hl
  clear hF hO hR0 hT hR2 hbox c8 c9 hB hs2 hcs hl
  go_upto_region 4 with (first
    | (at_builtin; refine wpList_app rfl (.tmp 14) (.tmp 18) 24 5 .u8 1 rfl Tryd.underlying24 inf_u8 hOe hRe rfl rfl HS.out.2.2.2 m rfl nm HS.out.2.2.2 (by omega) (by omega) (by have := HS2.out; simp; omega) ?_; intro Aa ca wa hOa hga hfa)
    | (at_builtin; have hOb := hOa.alloc (.cells (U .u8 [128]) 5); have hNb := Rd.of_arr (B := wa.heap.size + 1) (Arr.new wa 5 .u8 [128]) (by omega); refine wpList_app rfl (.tmp 20) (.tmp 21) 24 5 .u8 1 rfl Tryd.underlying24 inf_u8 hOb hNb rfl rfl rfl (tl2 l 0) hz0 (nm + 1) (htl 0) (by omega) (by omega) (by have := HS2.out; have := hga.size; simp at this ⊢; omega) ?_; intro Ab cb wb hOb' hgb hfb))
  have hKb : Kept (B + 1) (fun _ => False) w2 wb := by
    have h0 := HS2.out
    have h1 := (Kept.refl (B + 1) (fun _ => False) w2).alloc (.cells #[] 5) (by omega)
    have h2 := h1.grew hOe hga (Nat.le_refl _) (by simp; omega)
    have h3 := h2.alloc (.cells (U .u8 [128]) 5) (by have := hga.size; simp at this; omega)
    exact h3.grew (hOa.alloc (.cells (U .u8 [128]) 5)) hgb (Nat.le_refl _) (by have := hga.size; simp at this ⊢; omega)
  clear hOe hRe hFe hOa hga hfa hgb hfb c8e
  go_loopg [4] (zn2 N) (fun gk v wr => TL2 w2 B l nm N gk v wr)
  case atStart => exact ⟨0, Ab, cb, rfl, Nat.zero_le _, rfl, hOb', hKb⟩
  case round =>
    clear hOb' hKb
    obtain ⟨j, A6, c6, rfl, hj, hgk, hO, hK⟩ := hrel
    have hat := tl2_mod l j
    rw [htl, HS.out.2.2.1] at hat
    have hz64 : zn2 N < 64 := Nat.mod_lt _ (by decide)
    have hwl : B + 1 ≤ wr.heap.size := by have := hK.size; have := HS2.out; omega
    by_cases hlt : (nm + 1 + j) % 64 = 56
    · have hj2 : j = zn2 N := by have := hat.1 hlt; omega
      have HJ2 := Lib.hid hj2
      have hj63 : j ≤ 63 := by omega
      have ht : ((nm : Int) + 1 + (j : Int)) % 64 = 56 := by omega
      have hFr : Frt wr p 103 .u32 s [Value.slice A0 nm c0, Value.int .u64 N] := by unfold Frt at *; rw [hK.block p (by have := HS2.out; omega) (fun h => h)]; exact hF2
      have hb1 : ((((nm : Int) + 1 + (j : Int)) % 64) != 56) = false := by simp [ht]
      have c9 := hFr.at_ 1 9 _ (by rw [hsl]) rfl
      have hEr : Hsh wr B none s [] 0 := hE2.kept hK (by have := HS2.out; omega) (fun h => h) (fun _ h => by cases h)
      have hTr : S2Tb wr := hT2.kept hK (by have := HS2.out; omega) (fun h => h) (fun h => h)
      have hKr := hK2.trans (S' := fun _ => False) hK (by omega) (fun _ _ h => h)
      have hN8 : IntKind.u64.wrap ((N : Int) * 8) = ((8 * N : Nat) : Int) := by rw [IntKind.wrap_u64]; have := HL.out; have := HS.out.2.2.1; omega
      clear hj2 hK hat hgk hj hE2 hF2 hT2 hK2 hFr
      go_wp2_with fail
      (with_reducible refine (put_any (8 * (N : Int)) 8 8 wr rfl (by decide)).mono ?_)
      rintro e wp ⟨Ap, cp, rfl, hOp, hbp⟩
      have hsp := hbp.size
      have hOw := hO.below hbp (Nat.le_refl _)
      have hP := parts2w (w := wp) (B := wp.heap.size) (T := 24) (Nat.le_refl _) (hOw.rd.partw (n := nm + 1 + j) (c := c6) (htl j) (by have := hO.len.2; rw [htl] at this; exact this)) (hOp.rd.partw (n := 8) (c := cp) (putL_len _ _) (by have := hOp.len; omega))
      have hE4 := (hEr.below hbp (Nat.le_refl _)).alloc (.cells #[.slice A6 (nm + 1 + j) c6, .slice Ap 8 cp] 24)
      have hT4 := (hTr.below hbp (Nat.le_refl _)).below ((Below.refl _ wp).alloc (Nat.le_refl _) (.cells #[.slice A6 (nm + 1 + j) c6, .slice Ap 8 cp] 24)) (Nat.le_refl _)
      have hK4 := (hKr.trans (S' := fun _ => False) (Kept.of_below hbp) (by omega) (fun _ _ h => h)).alloc (.cells #[.slice A6 (nm + 1 + j) c6, .slice Ap 8 cp] 24) (by omega)
      have hs4 : (wp.alloc (.cells #[.slice A6 (nm + 1 + j) c6, .slice Ap 8 cp] 24)).heap.size = wp.heap.size + 1 := by simp
      obtain ⟨TT, hTT⟩ : ∃ TT, tl2 l j ++ putL (8 * (N : Int)) 8 = TT := ⟨_, rfl⟩
      have hTl : TT.length = nm + 1 + j + 8 := by rw [← hTT, List.length_append, htl, putL_len]
      have hTX : whl l ++ TT = text2 l := by
        have h := tl2_end l
        rw [HS.out.2.2.1, ← HJ2.out, show ((8 * N : Nat) : Int) = 8 * (N : Int) by push_cast; rfl, hTT] at h
        exact h
      have HTT := Lib.hid hTT
      have HTX := Lib.hid hTX
      have HT4 := Lib.hid hT4
      clear hEr hTr hKr hO hOw hOp hbp hTT hTX hT4
      go_wp2_with fail
      have hcat := cat_any (wp.alloc (.cells #[.slice A6 (nm + 1 + j) c6, .slice Ap 8 cp] 24)) _ 2 (wp.heap.size + 1) 2 [tl2 l j, putL (8 * (N : Int)) 8] TT (by simp [HTT.out]) hP rfl (by omega) (by omega) (by omega) (by omega)
      (with_reducible refine hcat.mono ?_)
      rintro e wz ⟨Az, cz, rfl, hFz, hbz⟩
      have hs5 := hbz.size
      have hK5 := hK4.trans (S' := fun _ => False) (Kept.of_below hbz) (by omega) (fun _ _ h => h)
      have hE5 := hE4.below hbz (Nat.le_refl _)
      have hT5 := HT4.out.below hbz (Nat.le_refl _)
      have hR5 := hFz.rd
      have hE5' : Hsh wz B none (hst (whl l)) (hrs (whl l)) ((0 : Nat) : Int) := by rw [hst_whl, hrs_whl, HS.out.1]; exact hE5
      have HE5 := Lib.hid hE5'
      have HT5 := Lib.hid hT5
      rw [hTl]
      clear hcat hP hK4 hE4 HT4 hbz hFz hE5 hE5' hT5
      go_wp2_with fail
      have hwr := write_any (whl l) TT Az (nm + 1 + j + 8) cz B wz.heap.size 0 none wz HE5.out (by omega) hR5 hTl (by rw [whl_len]; have := HL.out; omega) (by rw [HTX.out]; exact text2_B hb) HT5.out ⟨by omega, by simp⟩ ⟨by omega, by simp⟩
      (with_reducible refine hwr.mono ?_)
      rintro e w5 ⟨rfl, a5, -, hH5, hk5⟩
      obtain ⟨S, hS⟩ : ∃ S, hst (text2 l) = S := ⟨_, rfl⟩
      have hSl : S.length = 8 := by rw [← hS, hst_len]
      have hSW : Ww S := hS ▸ hst_W (text2 l)
      rw [HTX.out, hS] at hH5
      obtain ⟨v5, -, -, hF5, -⟩ := hH5
      have hFIN : F = outW S 8 := by rw [← hF0, sum2, hS]
      have HFIN := Lib.hid hFIN
      have hKw := hK5.trans (S' := fun q => q = B ∨ (none : Option Nat) = some q) hk5 (by omega) (fun q hq h => h.elim (fun e => absurd hq (by omega)) (fun e => by cases e))
      have hB5 : B ≤ w5.heap.size := by have := hKw.size; have := HB.out; omega
      clear hwr hk5 hK5 HE5 HT5 hR5 hS HTX HTT hF0 hFIN
      go_wp2_with (refine wpList_load_frt (o := ⟨some 44, _, _, _, _, _⟩) rfl 96 _ rfl rfl hF5 Tryd.underlying96 rfl 8 inf_w8 hSl ?_)
      go_loopg [5, 45] 8 (fun gk v x wr => OL2 w B S gk v x wr)
      case atStart => exact ⟨0, none, 0, rfl, rfl, Nat.zero_le _, rfl, Frs.empty2 _ _, hKw⟩
      case round =>
        clear hKw hF5
        obtain ⟨i, Aj, cj, rfl, rfl, hi, hgk, hFj, hKj⟩ := hrel
        have HGK := Lib.hid hgk
        clear hgk
        by_cases hlt8 : i < 8
        · have hlt8I : (i : Int) < 8 := by omega
          have hix := run_index_arr (P := Tryd.prog) Tryd.underlying96 Tryd.underlying26 (show (Tryd.prog.info? 26).map (·.size) = some 1 by kernel_rfl) hSl i hlt8 (k := .u32)
          have hBr : B ≤ wr.heap.size := by have := hKj.size; have := HB.out; omega
          have hcv : IntKind.u64.wrap (gt S i) = gt S i := by obtain ⟨h1, h2⟩ := hSW.gt i; rw [IntKind.wrap_u64]; exact Int.emod_eq_of_lt h1 (by omega)
          go_wp2_with fail
          (with_reducible refine (put_any (gt S i) 4 4 wr rfl (by decide)).mono ?_)
          rintro e wp2 ⟨Ap2, cp2, rfl, hOp2, hbp2⟩
          have hsp2 := hbp2.size
          have hFp2 := hFj.below hbp2 (Nat.le_refl _)
          have hP2 := parts2w (w := wp2) (B := wp2.heap.size) (T := 24) (Nat.le_refl _) (hFp2.rd.partw (n := 4 * i) (c := cj) (outW_len _ _) (by have := hFj.cap; rw [outW_len] at this; exact this)) (hOp2.rd.partw (n := 4) (c := cp2) (putL_len _ _) (by have := hOp2.len; omega))
          have hKp := (hKj.trans (S' := fun _ => False) (Kept.of_below hbp2) hBr (fun _ _ h => h)).alloc (.cells #[.slice Aj (4 * i) cj, .slice Ap2 4 cp2] 24) (by omega)
          have hsz : (wp2.alloc (.cells #[.slice Aj (4 * i) cj, .slice Ap2 4 cp2] 24)).heap.size = wp2.heap.size + 1 := by simp
          clear hFj hKj hbp2 hFp2 hOp2
          go_wp2_with fail
          have hcat := cat_any (wp2.alloc (.cells #[.slice Aj (4 * i) cj, .slice Ap2 4 cp2] 24)) _ 2 (wp2.heap.size + 1) 2 [outW S i, putL (gt S i) 4] (outW S (i + 1)) (by simp [outW]) hP2 rfl (by omega) (by omega) (by omega) (by rw [outW_len]; omega)
          (with_reducible refine hcat.mono ?_)
          rintro e wz2 ⟨Az', cz', rfl, hFz, hbz⟩
          rw [outW_len]
          have hKz := hKp.trans (S' := fun _ => False) (Kept.of_below hbz) (by omega) (fun _ _ h => h)
          have hFz' := hFz.low (b' := B) (by omega)
          clear hcat hP2 hKp hbz hFz
          go_wp2_with fail
          go_roundg (8 - (i + 1))
          case measure => have := HGK.out; omega
          case rel => exact ⟨i + 1, Az', cz', rfl, by go_num, by omega, rfl, hFz', hKz⟩
        · have hlt8I : ¬ (i : Int) < 8 := by omega
          obtain rfl : i = 8 := by omega
          go_wp2_with fail
          go_ret
          refine ⟨Aj, cj, rfl, ?_, ?_⟩
          · rw [HFIN.out, HB.out]; exact hFj
          · rw [HB.out]; exact hKj.below
    · have ht : ¬ ((nm : Int) + 1 + (j : Int)) % 64 = 56 := by omega
      have hb1 : ((((nm : Int) + 1 + (j : Int)) % 64) != 56) = true := by simp; omega
      have hne : j ≠ zn2 N := fun e => hlt (hat.2 (by omega))
      have HGK := Lib.hid hgk
      clear hgk hat
      have hN2 := Rd.of_arr (B := wr.heap.size + 1) (Arr.new wr 5 .u8 [0]) (by omega)
      have hO2 := hO.alloc (.cells (U .u8 [0]) 5)
      go_wp2_with (at_builtin; refine wpList_app rfl (.tmp 27) (.tmp 28) 24 5 .u8 1 rfl Tryd.underlying24 inf_u8 hO2 hN2 rfl rfl rfl (tl2 l (j + 1)) (tl2_succ l j) (nm + 1 + (j + 1)) (htl _) (by omega) (by omega) (by simp; omega) ?_; intro Ab cb wb hOb hgb hfb)
      go_roundg (zn2 N - (j + 1))
      case measure => have := HGK.out; omega
      case rel => exact ⟨j + 1, Ab, cb, rfl, by omega, rfl, hOb, (hK.alloc (.cells (U .u8 [0]) 5) hwl).grew hO2 hgb (Nat.le_refl _) (by simp; omega)⟩
end Go.Proofs.YtfaonieaagepjaaDoor
