/- Texts joined into one: ShB, ShC, ShE, ShF, ShG, ShP, ShI, ShJ. -/
import Derived.Test.YtfaonieaagepjaaDoorZA
import Derived.Test.YtfaonieaagepjaaDoorZC
import Derived.Deep.DeepCutAuto
import Derived.Deep.CutBlock
import Derived.Deep.RegionHeld3
import Derived.Deep.RegionLaw
import Derived.Deep.LoopGhost
import Derived.Lib.SlBytesConst
import Derived.Lib.SmallJoins

namespace Go.Proofs.YtfaonieaagepjaaDoor
open Go.RowKit
set_option maxRecDepth 100000
set_option linter.unusedVariables false
set_option linter.unusedSimpArgs false

/-! ### The first bytes of a state -/
def byteAt (s : List Int) (j : Nat) : Int := (gt s (j / 8) / 2 ^ (8 * (j % 8))) % 256
def giveN (s : List Int) : Nat → List Int
  | 0 => List.replicate 136 0
  | j + 1 => st (giveN s j) j (byteAt s j)
theorem giveN_len (s : List Int) (j : Nat) : (giveN s j).length = 136 := by
  induction j with
  | zero => simp [giveN]
  | succ j ih => rw [giveN, st_len, ih]
set_option maxHeartbeats 1000000 in
def giveL (s : List Int) : List Int := giveN s 136
theorem giveL_len (s : List Int) : (giveL s).length = 136 := giveN_len s 136
set_option maxRecDepth 4000 in
theorem give_any (s : List Int) (w : World) (hs : s.length = 25) (hw : Ws s) :
    Calls Tryd.prog 82 #[.agg (U .u64 s)] w fun e w' => ∃ A c, e = .returned (.slice A (giveL s).length c) ∧ Own w' w.heap.size 5 .u8 (.slice A (giveL s).length c) (giveL s) ∧ Below w.heap.size w w' := by
  go_enter Tryd.func82, Tryd.ntmps82
  have hA0 := Arr.new w 100 .u64 s
  have hK0 : Kept w.heap.size (fun _ => False) w (w.alloc (.cells (U .u64 s) 100)) := (Kept.refl _ _ _).alloc _ (by omega)
  go_wp2_with (refine wpList_make_nums rfl _ _ 24 rfl 5 .u8 1 Tryd.underlying24 inf_u8 .i64 .i64 136 136 136 136 rfl rfl rfl rfl (by decide) (by decide) (by decide) ?_; intro w1 hw1)
  have hN1 := Arr.new (w.alloc (.cells (U .u64 s) 100)) 5 .u8 (List.replicate 136 0)
  have hA1 := hA0.alloc (.cells (U .u8 (List.replicate 136 0)) 5)
  have hK1 := hK0.alloc (.cells (U .u8 (List.replicate 136 0)) 5) (by simp)
  rw [← hw1.out] at hN1 hA1 hK1
  obtain ⟨B, hB⟩ : ∃ B, w.heap.size = B := ⟨_, rfl⟩
  rw [show (w.alloc (.cells (U .u64 s) 100)).heap.size = B + 1 by simp [hB]] at hN1
  rw [hB] at hA1 hK1 ⊢
  clear hA0 hK0 hw1
  have hB' := Lib.hid hB
  clear hB
  go_loopw [8] (fun i wr => ∃ j : Nat, i = .int .i64 j ∧ j ≤ 136 ∧ Arr wr B 100 .u64 s ∧ Arr wr (B + 1) 5 .u8 (giveN s j) ∧ Kept B (fun _ => False) w wr) (fun i _ => (136 - intOf i).toNat)
  case atStart => exact ⟨0, rfl, by omega, hA1, hN1, hK1⟩
  case round =>
    clear hA1 hN1 hK1
    obtain ⟨j, rfl, hj, hA, hN, hK⟩ := hrel
    have hgl := Lib.hid (giveN_len s j)
    by_cases hlt : j < 136
    · have hlt' : (j : Int) < 136 := by omega
      have hcs := hA.cell (j / 8) (by omega)
      have hcn := hN.cell j (by rw [giveN_len]; omega)
      have hfn := hN.free j
      go_wp2_with fail
      refine ⟨⟨j + 1, by go_num, by omega, hA.other _ _ _ (by omega), hN.set j _, hK.set _ _ _ (.inl (by omega))⟩, ?_⟩
      simp [intOf]; omega
    · have hlt' : ¬ ((j : Int) < 136) := by omega
      go_wp2_with fail
      go_ret
      obtain rfl : j = 136 := by omega
      have hO := Own.of_arr (b := B) hN (by omega) (by rw [giveN_len]; decide)
      refine ⟨some ⟨B + 1, 0, none⟩, 136, ?_, ?_, ?_⟩
      · rw [giveL_len]; rfl
      · rw [hB'.out]; rw [giveN_len] at hO; rw [giveL_len]; exact hO
      · rw [hB'.out]; exact hK.below

end Go.Proofs.YtfaonieaagepjaaDoor

namespace Go.Proofs.YtfaonieaagepjaaDoor
open Go.RowKit
set_option maxRecDepth 100000
set_option linter.unusedVariables false
set_option linter.unusedSimpArgs false

/-! ### A block into a state -/
def mixN (s l : List Int) : Nat → List Int
  | 0 => s
  | j + 1 => st (mixN s l j) (j / 8) (bits .xor .u64 (gt (mixN s l j) (j / 8)) (IntKind.u64.wrap (gt l j * 2 ^ (8 * (j % 8)))))
theorem mixN_len (s l : List Int) (j : Nat) : (mixN s l j).length = s.length := by
  induction j with
  | zero => rfl
  | succ j ih => rw [mixN, st_len, ih]
theorem mixN_W {s : List Int} (l : List Int) (h : Ws s) (j : Nat) : Ws (mixN s l j) := by
  induction j with
  | zero => exact h
  | succ j ih => exact ih.st _ (W64_xor _ _)
set_option maxRecDepth 4000 in
theorem mix_any (s l : List Int) (A : Option Addr) (c : Nat) (w : World) (hs : s.length = 25) (hw : Ws s) (hl : l.length = 136) (hr : Rd w w.heap.size .u8 A l) (hb : ∀ i, 0 ≤ gt l i ∧ gt l i < 256) (ht : KTab w) :
    Calls Tryd.prog 81 #[.agg (U .u64 s), .slice A 136 c] w fun e w' => e = .returned (.agg (U .u64 (permute (mixN s l 136)))) ∧ Below w.heap.size w w' := by
  have hz := World.block_lt_of_cell? w _ (ht.2 0 (by decide))
  have hz0 := World.block_lt_of_cell? w _ (ht.1 0 (by decide))
  go_enter Tryd.func81, Tryd.ntmps81
  have hA0 := Arr.new w 100 .u64 s
  have hK0 : Kept w.heap.size (fun _ => False) w (w.alloc (.cells (U .u64 s) 100)) := (Kept.refl _ _ _).alloc _ (by omega)
  have hR0 := hr.alloc (Nat.le_refl _) (.cells (U .u64 s) 100)
  go_wp2_with fail
  obtain ⟨B, hB⟩ : ∃ B, w.heap.size = B := ⟨_, rfl⟩
  rw [hB] at hA0 hK0 hR0 hz hz0 ⊢
  have hsz : (w.alloc (.cells (U .u64 s) 100)).heap.size = B + 1 := by simp [hB]
  generalize w.alloc (.cells (U .u64 s) 100) = w1 at hA0 hK0 hR0 hsz ⊢
  have hA1 := hA0.alloc (.cells (U .u64 (List.replicate 25 0)) 100)
  have hN1 := Arr.new w1 100 .u64 (List.replicate 25 0)
  have hK1 := hK0.alloc (.cells (U .u64 (List.replicate 25 0)) 100) (by omega)
  have hR1 := hR0.alloc (by omega) (.cells (U .u64 (List.replicate 25 0)) 100)
  rw [hsz] at hN1
  rw [← zero25] at hA1 hN1 hK1 hR1
  clear hA0 hK0 hR0 hsz hr
  have hB' := Lib.hid hB
  clear hB
  generalize w1.alloc _ = w2 at hA1 hN1 hK1 hR1 ⊢
  go_loopw [9] (fun i wr => ∃ j : Nat, i = .int .i64 j ∧ j ≤ 136 ∧ Arr wr B 100 .u64 (mixN s l j) ∧ Arr wr (B + 1) 100 .u64 (List.replicate 25 0) ∧ Kept B (fun _ => False) w wr ∧ Rd wr B .u8 A l) (fun i _ => (136 - intOf i).toNat)
  case atStart => exact ⟨0, rfl, by omega, hA1, hN1, hK1, hR1⟩
  case round =>
    clear hA1 hN1 hK1 hR1
    obtain ⟨j, rfl, hj, hA, hN, hK, hR⟩ := hrel
    by_cases hlt : j < 136
    · have hlt' : (j : Int) < 136 := by omega
      obtain ⟨ad, rfl, hadB, hca⟩ := hR.at_ (i := j) (by omega)
      obtain ⟨q, hq⟩ : ∃ q : Nat, j / 8 = q := ⟨_, rfl⟩
      obtain ⟨r, hr⟩ : ∃ r : Nat, j % 8 = r := ⟨_, rfl⟩
      obtain ⟨m, hm⟩ : ∃ m : Nat, 8 * r = m := ⟨_, rfl⟩
      have hq25 : q < 25 := by omega
      have hqI : (q : Int) < 25 := by omega
      have hm64 : m < 64 := by omega
      have f1 : IntKind.i64.wrap ((j : Int) / 8) = (q : Int) := by rw [IntWalk.i64_in _ (by omega)]; omega
      have f2 : (j : Int).tmod 8 = (r : Int) := by rw [Int.tmod_eq_emod_of_nonneg (by omega)]; omega
      obtain ⟨y, hy⟩ : ∃ y, gt l j = y := ⟨_, rfl⟩
      rw [hy] at hca
      have hy0 : 0 ≤ y := hy ▸ (hb j).1
      have hy1 : y < 256 := hy ▸ (hb j).2
      have fw : IntKind.u64.wrap y = y := by simp [IntKind.wrap, IntKind.signed, IntKind.bits]; omega
      have HYY := Lib.hid hy
      clear hy
      have f3 : IntKind.i64.wrap (8 * (r : Int)) = (m : Int) := by rw [IntWalk.i64_in _ (by omega)]; omega
      have hcs := hA.cell q (by rw [mixN_len]; omega)
      have hfs := hA.free q
      have HQ := Lib.hid hq
      have HR := Lib.hid hr
      have HM := Lib.hid hm
      clear hq hr hm
      go_wp2_with fail
      go_still_tail 12, (by kernel_rfl)
      repeat still_step
      change wpList _ _ _ _ _ wr.drew
      go_wp2_with fail
      go_roundw
      case rel =>
        refine ⟨j + 1, by go_num, by omega, ?_, hN.drew.other _ _ _ (by omega), hK.drew.set _ _ _ (.inl (by omega)), ?_⟩
        · have := hA.drew.set q (bits .xor .u64 (gt (mixN s l j) q) (IntKind.u64.wrap (y * 2 ^ m)))
          rw [mixN, HQ.out, HR.out, HM.out, HYY.out]; exact this
        · exact hR.drew.keep fun p hp => World.cell?_setCell_other _ _ _ _ (fun e => by subst e; simp at hp)
      case measure => simp [intOf]; omega
    · have hlt' : ¬ ((j : Int) < 136) := by omega
      have hj136 : j = 136 := by omega
      obtain ⟨L, hL⟩ : ∃ L, mixN s l j = L := ⟨_, rfl⟩
      have hLl : L.length = 25 := by rw [← hL, mixN_len, hs]
      have hLw : Ws L := hL ▸ mixN_W l hw j
      have hfin : Hid (L = mixN s l 136) := by show L = _; rw [← hL, hj136]
      rw [hL] at hA
      have hsz := hN.lt
      have hT := ht.kept hK hz0 hz
      clear hL hj136 hlt
      go_wp2_with (refine wpList_load_arr rfl 100 _ rfl rfl hA Tryd.underlying100 rfl 25 inf_a25 hLl ?_)
      (with_reducible refine (permute_any L wr hLl hLw hT (by omega) (by omega)).mono ?_)
      rintro e w3 ⟨rfl, hb3⟩
      have hN3 := hN.below hb3 (by omega)
      have hK3 := hK.trans (S' := fun _ => False) (Kept.of_below hb3) (by omega) (fun _ _ h => h)
      have hpl : (permute L).length = 25 := by rw [permute_len, hLl]
      clear hA hN hK hb3 hR
      go_wp2_with (refine wpList_store_arr rfl 100 _ _ rfl rfl rfl hN3 25 inf_a25 hpl rfl ?_)
      refine bodyPost_arr 4 100 25 Tryd.underlying100 rfl inf_a25 rfl rfl rfl (hN3.setRow _) hpl ⟨by rw [hfin.out], ?_⟩
      exact hB'.out ▸ (hK3.setRow (B + 1) _ (by omega)).below

end Go.Proofs.YtfaonieaagepjaaDoor

namespace Go.Proofs.YtfaonieaagepjaaDoor
open Go.RowKit
set_option maxRecDepth 100000
set_option linter.unusedVariables false
set_option linter.unusedSimpArgs false

theorem gives_load_two {P : Program} {S : World → Prop} {o : Oper} {a : Act} {w : World} {g T : Nat} {k : IntKind} {s : List Int} {v : Value} {d : TypeDesc} (hS : S w)
    (ty : TypeId) (x : Operand) (ho : o.op = .load ty x) (hx : a.eval x = .pointer (some ⟨g, 0, none⟩)) (h : Two w g T k s v)
    (hu : P.underlying ty = some d) (hd : d.isRow = true) (n : Nat) (hi : (P.info? ty).map (·.size) = some n) (hn : s.length = n) :
    Gives P S o a (.agg (U k s)) w := by
  refine gives_value hS ?_
  unfold execOp
  simp only [ho, hx, Instr.loadAt, Instr.sureAddr, Sem.run_bind, Sem.run_pure, Result.andThen_ok, run_loadVar_mid w g 0 ty (nums k s) d h.range hu hd (by rw [nums_len, hn]; exact hi)]
  rfl
/-- A text with its end: one byte 31, zeros up to a whole block, and the last bit. -/
def padZ (l : List Int) (j : Nat) : List Int := l ++ [31] ++ List.replicate j 0
theorem padZ_len (l : List Int) (j : Nat) : (padZ l j).length = l.length + 1 + j := by simp [padZ]; omega
theorem padZ_succ (l : List Int) (j : Nat) : padZ l j ++ [0] = padZ l (j + 1) := by simp [padZ, List.replicate_succ']

theorem padZ_B {l : List Int} (h : Bys l) (j : Nat) : Bys (padZ l j) := (h.append (Bys.one (by constructor <;> decide))).append (Bys.rep _ B8.zero)
def padJ (l : List Int) : Nat := (136 - (l.length + 1) % 136) % 136
/-- The state behind i blocks of a text. -/
def absS (T : List Int) : Nat → List Int
  | 0 => List.replicate 25 0
  | i + 1 => permute (mixN (absS T i) ((T.drop (136 * i)).take 136) 136)
theorem absS_len (T : List Int) (i : Nat) : (absS T i).length = 25 := by
  induction i with
  | zero => simp [absS]
  | succ i ih => rw [absS, permute_len, mixN_len, ih]
theorem absS_W (T : List Int) (i : Nat) : Ws (absS T i) := by
  induction i with
  | zero => exact Ws.zeros 25
  | succ i ih => exact permute_W (mixN_W _ ih _)
theorem padJ_lt (l : List Int) : padJ l < 136 := by unfold padJ; omega
theorem padJ_at (l : List Int) (j : Nat) (h : j ≤ padJ l) : (padZ l j).length % 136 = 0 ↔ j = padJ l := by
  rw [padZ_len]; unfold padJ at *; omega

def textL (l : List Int) : List Int := st (padZ l (padJ l)) ((padZ l (padJ l)).length - 1) (bits .xor .u8 (gt (padZ l (padJ l)) ((padZ l (padJ l)).length - 1)) 128)
def newS (l : List Int) : List Int := absS (textL l) ((textL l).length / 136)
set_option maxRecDepth 100000 in
theorem new_any (l : List Int) (A : Option Addr) (c B : Nat) (w : World) (hr : Rd w B .u8 A l) (hB : B ≤ w.heap.size) (hl : l.length ≤ 100000000) (hA : A = none → c = 0) (ht : KTab w) (hby0 : Bys l) :
    Calls Tryd.prog 70 #[.slice A l.length c] w fun e w' => ∃ (g : Nat) (A' : Option Addr) (c' : Nat), e = .returned (.pointer (some ⟨g, 0, none⟩)) ∧ w.heap.size ≤ g ∧ Two w' g 107 .u64 (newS l) (.slice A' 136 c') ∧ Own w' (g + 1) 5 .u8 (.slice A' 136 c') (giveL (newS l)) ∧ Below w.heap.size w w' := by
  go_enter Tryd.func70, Tryd.ntmps70
  go_wp2_with fail
  obtain ⟨B0, hB0⟩ : ∃ B0, w.heap.size = B0 := ⟨_, rfl⟩
  have hz := World.block_lt_of_cell? w _ (ht.2 0 (by decide))
  have hz0 := World.block_lt_of_cell? w _ (ht.1 0 (by decide))
  rw [hB0] at hz hz0
  (with_reducible refine (clone_any l A c B w hr hB (by omega) hA).mono ?_)
  rintro e w1 ⟨A1, c1, rfl, hO1, hb1⟩
  have hK1 := Kept.of_below (S := fun _ => False) hb1
  rw [hB0] at hO1 hb1 hK1
  have hO2 := hO1.alloc (.cells (U .u8 [31]) 5)
  have hN2 := Arr.new w1 5 .u8 [31]
  have hK2 := hK1.alloc (.cells (U .u8 [31]) 5) (by have := hb1.size; omega)
  have hR2 := Rd.of_arr (B := w1.heap.size + 1) hN2 (by omega)
  have hm1 : l.length + 1 ≤ maxLen := Nat.le_trans (show l.length + 1 ≤ 200000000 by omega) (by decide)
  go_wp2_with (at_builtin; refine wpList_append_nums rfl _ _ 24 5 .u8 1 rfl Tryd.underlying24 inf_u8 hO2 hR2 rfl rfl rfl (by simp; omega) (by simpa using hm1) (by simp; have := hb1.size; omega) ?_; intro A3 c3 w3 hO3 hg3 hf3)
  have hK3 := hK2.grew hO2 hg3 (Nat.le_refl _) (by have := hK2.size; omega)
  simp only [List.length_cons, List.length_nil, Nat.zero_add] at hO3
  clear hO1 hO2 hN2 hK1 hK2 hR2 hg3 hf3 hb1
  have hB0' := Lib.hid hB0
  clear hB0
  have hmx : (200000000 : Nat) ≤ maxLen := by decide
  have HL := Lib.hid hl
  clear hl hm1
  go_loopw [3] (fun v wr => ∃ (m : List Int) (A : Option Addr) (c : Nat), v = .slice A m.length c ∧ (∃ j, m = padZ l j ∧ j ≤ padJ l) ∧ Own wr B0 5 .u8 (.slice A m.length c) m ∧ Kept B0 (fun _ => False) w wr) (fun v _ => (match v with | .slice _ n _ => (136 - n % 136) % 136 | _ => 0))
  case atStart => exact ⟨l ++ [31], A3, c3, by simp, ⟨0, by simp [padZ], Nat.zero_le _⟩, by simpa using hO3, hK3⟩
  case round =>
    clear hO3 hK3
    obtain ⟨m, A4, c4, rfl, hj, hO, hK⟩ := hrel
    have hmb : m.length ≤ 150000000 := by
      obtain ⟨j, rfl, h⟩ := hj
      rw [padZ_len]
      have := HL.out
      have := padJ_lt l
      omega
    have HJ := Lib.hid hj
    clear hj
    by_cases hlt : m.length % 136 = 0
    · have ht1 : (m.length : Int) % 136 = 0 := by omega
      have hm : m = padZ l (padJ l) := by
        obtain ⟨j, rfl, h⟩ := HJ.out
        rw [(padJ_at l j h).1 hlt]
      have hm0 : 0 < m.length := by rw [hm, padZ_len]; omega
      have HM := Lib.hid hm
      have HLT := Lib.hid hlt
      clear hlt hm
      obtain ⟨_, _, hv, hmc, _, _, hA4⟩ := hO.form
      injection hv with h1 _ h3
      subst h1 h3
      obtain ⟨g, rfl, hg0, hg1⟩ : ∃ g, A4 = some ⟨g, 0, none⟩ ∧ B0 ≤ g ∧ g < wr.heap.size := by
        rcases hA4 with rfl | h
        · obtain ⟨ad, h, _⟩ := hO.rd hm0; cases h
        · exact h
      obtain ⟨n, hn⟩ : ∃ n, m.length = n + 1 := ⟨m.length - 1, by omega⟩
      have hcl := hO.cell n (by omega)
      have hfl := hO.free n
      rw [hn] at hO ⊢
      go_wp2_with fail
      obtain ⟨T, hT⟩ : ∃ T, st m n (bits .xor .u8 (gt m n) 128) = T := ⟨_, rfl⟩
      have hTl : T.length = n + 1 := by rw [← hT, st_len, hn]
      have hO6 := (hn ▸ hO).stored n (bits .xor .u8 (gt m n) 128)
      have hK6 := hK.set g n (.int .u8 (bits .xor .u8 (gt m n) 128)) (.inl hg0)
      have hg1' : g < (wr.setCell ⟨g, n, none⟩ (.int .u8 (bits .xor .u8 (gt m n) 128))).heap.size := by simpa [World.setCell] using hg1
      obtain ⟨R, hR⟩ : ∃ R, wr.heap.size = R := ⟨_, rfl⟩
      have hsz : (wr.setCell ⟨g, n, none⟩ (.int .u8 (bits .xor .u8 (gt m n) 128))).heap.size = R := by simpa [World.setCell] using hR
      rw [hT] at hO6
      generalize wr.setCell ⟨g, n, none⟩ (.int .u8 (bits .xor .u8 (gt m n) 128)) = w6 at hO6 hK6 hg1' hsz ⊢
      rw [hR]
      have hTw : Two (w6.alloc (.cells (nums .u64 (List.replicate 25 0) ++ [Value.slice none 0 0]).toArray 107)) R 107 .u64 (List.replicate 25 0) (.slice none 0 0) := by
        rw [← hsz]; exact heap_alloc_new w6 _
      have hR7 := (hO6.rd.alloc (Nat.le_refl _) (.cells (nums .u64 (List.replicate 25 0) ++ [Value.slice none 0 0]).toArray 107))
      have hK7 := hK6.alloc (.cells (nums .u64 (List.replicate 25 0) ++ [Value.slice none 0 0]).toArray 107) (by omega)
      have hRR : ∀ w7, w7 = w6.alloc (.cells (nums .u64 (List.replicate 25 0) ++ [Value.slice none 0 0]).toArray 107) → Rd w7 R .u8 (some ⟨g, 0, none⟩) T := fun w7 e => by rw [e, ← hsz]; exact hR7
      obtain ⟨w7, hw7⟩ : ∃ w7, w6.alloc (.cells (nums .u64 (List.replicate 25 0) ++ [Value.slice none 0 0]).toArray 107) = w7 := ⟨_, rfl⟩
      have hR8 := hRR w7 hw7.symm
      rw [hw7] at hTw hK7
      change Code.wp _ _ _ _ (w6.alloc (.cells (nums .u64 (List.replicate 25 0) ++ [Value.slice none 0 0]).toArray 107))
      rw [hw7]
      have hBR : B0 ≤ R := by omega
      clear hRR hw7 hR7 hO6 hK6 hg1' hsz hO hK hg1 hcl hfl
      rw [← hTl]
      have HT := Lib.hid hT
      have HTL := Lib.hid hTl
      have HR := Lib.hid hR
      clear hT hTl hR ht1
      go_loopw [3] (fun v wr => ∃ (i : Nat) (A : Option Addr) (c : Nat), v = .slice A (T.drop (136 * i)).length c ∧ (T.drop (136 * i)).length ≤ c ∧ 136 * i ≤ T.length ∧ Rd wr R .u8 A (T.drop (136 * i)) ∧ Two wr R 107 .u64 (absS T i) (.slice none 0 0) ∧ Kept B0 (fun _ => False) w wr) (fun v _ => (match v with | .slice _ n _ => n | _ => 0))
      case atStart => exact ⟨0, some ⟨g, 0, none⟩, c4, by simp, by simp; have := HTL.out; omega, by omega, by simpa using hR8, hTw, hK7⟩
      case round =>
        clear hR8 hTw hK7
        obtain ⟨i, A7, c7, rfl, hc7, hi, hRd, hTw, hK⟩ := hrel
        have hTm : T.length % 136 = 0 := by have := HTL.out; have := HLT.out; omega
        obtain ⟨p, hp⟩ : ∃ p, T.drop (136 * i) = p := ⟨_, rfl⟩
        have hpl : p.length = T.length - 136 * i := by rw [← hp, List.length_drop]
        rw [hp] at hRd hc7 ⊢
        have HP := Lib.hid hp
        clear hp
        by_cases hpos : 0 < p.length
        · have hp136 : 136 ≤ p.length := by omega
          have hc136 : (136 : Int) ≤ c7 := by omega
          have HPL := Lib.hid hpl
          clear hpl
          go_wp2_with fail
          have hbl : (p.take 136).length = 136 := by simp; omega
          have hby : ∀ i, B8 (gt (p.take 136) i) := by
            have hT1 : Bys T := by rw [← HT.out, HM.out]; exact (padZ_B hby0 _).st _ (B8.bits _ _ _)
            rw [← HP.out]
            exact fun i => ((hT1.drop _).take _).gt i
          obtain ⟨S0, hS0⟩ : ∃ S0, absS T i = S0 := ⟨_, rfl⟩
          obtain ⟨S1, hS1⟩ : ∃ S1, absS T (i + 1) = S1 := ⟨_, rfl⟩
          have hS01 : permute (mixN S0 (p.take 136) 136) = S1 := by rw [← hS1, absS, HP.out, hS0]
          have hS0l : S0.length = 25 := by rw [← hS0, absS_len]
          have hS1l : S1.length = 25 := by rw [← hS1, absS_len]
          have hS0w : Ws S0 := hS0 ▸ absS_W T i
          rw [hS0] at hTw
          have HS1 := Lib.hid hS1
          clear hS0 hS1
          have KT : ∀ {w'}, Kept B0 (fun _ => False) w w' → KTab w' := fun h => ht.kept h (by omega) (by omega)
          refine wp_region_hold_tail 10 (fun w' => Rd w' R .u8 A7 p ∧ Two w' R 107 .u64 S0 (.slice none 0 0) ∧ Kept B0 (fun _ => False) w w') (by kernel_rfl) (by kernel_rfl) ⟨hRd.drew, hTw.drew, hK.drew⟩ ?_
          simp only [List.take_succ_cons, List.take_zero, List.drop_succ_cons, List.drop_zero]
          ((first | (refine wpHold_step ?_ ?_ ?_ ?_; rotate_left 1; focus (with_reducible rfl)) | (refine wpHold_yes ?_ ?_ ?_ ?_; rotate_left 1; focus rfl)); (focus (intro w hw; unfold Gives; go_simp; refine ⟨?_, hw⟩; with_reducible rfl)); (try simp only [Act.put, List.setIfInBounds_toArray, List.set_cons_zero, List.set_cons_succ]))
          ((first | (refine wpHold_step ?_ ?_ ?_ ?_; rotate_left 1; focus (with_reducible rfl)) | (refine wpHold_yes ?_ ?_ ?_ ?_; rotate_left 1; focus rfl)); (focus (intro w hw; unfold Gives; go_simp; refine ⟨?_, hw⟩; with_reducible rfl)); (try simp only [Act.put, List.setIfInBounds_toArray, List.set_cons_zero, List.set_cons_succ]))
          ((first | (refine wpHold_step ?_ ?_ ?_ ?_; rotate_left 1; focus (with_reducible rfl)) | (refine wpHold_yes ?_ ?_ ?_ ?_; rotate_left 1; focus rfl)); (focus (intro w hw; unfold Gives; go_simp; refine ⟨?_, hw⟩; with_reducible rfl)); (try simp only [Act.put, List.setIfInBounds_toArray, List.set_cons_zero, List.set_cons_succ]))
          ((first | (refine wpHold_step ?_ ?_ ?_ ?_; rotate_left 1; focus (with_reducible rfl)) | (refine wpHold_yes ?_ ?_ ?_ ?_; rotate_left 1; focus rfl)); (focus (intro w hw; unfold Gives; go_simp; refine ⟨?_, hw⟩; with_reducible rfl)); (try simp only [Act.put, List.setIfInBounds_toArray, List.set_cons_zero, List.set_cons_succ]))
          ((first | (refine wpHold_step (.agg (U .u64 (S0))) ?_ ?_ ?_; focus (with_reducible rfl)) | (refine wpHold_yes (.agg (U .u64 (S0))) ?_ ?_ ?_; focus rfl)); (focus (intro w hw; exact gives_load_two hw 100 _ rfl rfl (hw.2.1) Tryd.underlying100 rfl 25 inf_a25 hS0l)); (try simp only [Act.put, List.setIfInBounds_toArray, List.set_cons_zero, List.set_cons_succ]))
          ((first | (refine wpHold_step ?_ ?_ ?_ ?_; rotate_left 1; focus (with_reducible rfl)) | (refine wpHold_yes ?_ ?_ ?_ ?_; rotate_left 1; focus rfl)); (focus (intro w hw; unfold Gives; go_simp; refine ⟨?_, hw⟩; with_reducible rfl)); (try simp only [Act.put, List.setIfInBounds_toArray, List.set_cons_zero, List.set_cons_succ]))
          ((first | (refine wpHold_step ?_ ?_ ?_ ?_; rotate_left 1; focus (with_reducible rfl)) | (refine wpHold_yes ?_ ?_ ?_ ?_; rotate_left 1; focus rfl)); (focus (intro w hw; unfold Gives; go_simp; refine ⟨?_, hw⟩; with_reducible rfl)); (try simp only [Act.put, List.setIfInBounds_toArray, List.set_cons_zero, List.set_cons_succ]))
          ((first | (refine wpHold_step (.agg (U .u64 (S1))) ?_ ?_ ?_; focus (with_reducible rfl)) | (refine wpHold_yes (.agg (U .u64 (S1))) ?_ ?_ ?_; focus rfl)); (focus (intro w hw; unfold Gives; go_simp; exact (mix_any S0 (p.take 136) A7 136 w hS0l hS0w hbl ((hw.1.take_ 136).more (by have := hw.2.1.lt; omega)) hby (KT hw.2.2)).mono fun e w' ⟨h1, h2⟩ => ⟨by rw [h1, hS01], hw.1.below (h2.mono (by have := hw.2.1.lt; omega)), hw.2.1.below h2 hw.2.1.lt, hw.2.2.trans (S' := fun _ => False) (Kept.of_below h2) (by have := hw.2.1.lt; omega) (fun _ _ h => h)⟩)); (try simp only [Act.put, List.setIfInBounds_toArray, List.set_cons_zero, List.set_cons_succ]))
          ((first | (refine wpHold_step ?_ ?_ ?_ ?_; rotate_left 1; focus (with_reducible rfl)) | (refine wpHold_yes ?_ ?_ ?_ ?_; rotate_left 1; focus rfl)); (focus (intro w hw; unfold Gives; go_simp; refine ⟨?_, hw⟩; with_reducible rfl)); (try simp only [Act.put, List.setIfInBounds_toArray, List.set_cons_zero, List.set_cons_succ]))
          ((first | (refine wpHold_step ?_ ?_ ?_ ?_; rotate_left 1; focus (with_reducible rfl)) | (refine wpHold_yes ?_ ?_ ?_ ?_; rotate_left 1; focus rfl)); (focus (intro w hw; unfold Gives; go_simp; refine ⟨?_, hw⟩; with_reducible rfl)); (try simp only [Act.put, List.setIfInBounds_toArray, List.set_cons_zero, List.set_cons_succ]))
          refine wpHold_nil ?_
          intro w' ⟨hRd1, hTw1, hK1⟩
          go_wp2_with (refine wpList_store_two rfl 100 _ _ rfl rfl rfl hTw1 25 inf_a25 hS0l hS1l ?_)
          have hd : T.drop (136 * (i + 1)) = p.drop 136 := by rw [← HP.out, List.drop_drop]; rfl
          have hcut := hRd1.cut 136 p.length p.length (Nat.le_refl _) (Nat.le_refl _)
          rw [List.take_length] at hcut
          have hi2 : 136 * (i + 1) ≤ T.length := by have := HPL.out; omega
          have hl2 : (p.drop 136).length = p.length - 136 := by simp
          refine ⟨⟨i + 1, _, p.length - 136, by rw [hd, hl2], by rw [hd, hl2]; exact Nat.le_refl _, hi2, ?_, by rw [HS1.out]; exact hTw1.setNums (by rw [hS0l, hS1l]), hK1.setCells _ _ _ (.inl hBR)⟩, ?_⟩
          · rw [hd]
            have he : (if p.length = 136 then A7 else Option.map (fun x : Addr => ({ block := x.block, off := x.off + 136, spot := none } : Addr)) A7) = (if p.length = 136 then A7 else A7.map (·.add 136)) := by
              congr 1
            rw [he]
            refine hcut.keep fun q hq => ?_
            exact World.cell?_of_block ((setCells_else (g := R) (nums .u64 S1) 0 w').2.2.2.2 q.block (by omega))
          · show p.length - 136 < p.length
            omega
        · have hpos' : ¬ ((0 : Int) < p.length) := by omega
          have hp0 : p.length = 0 := by omega
          have hT1 : T = textL l := by rw [← HT.out, textL, ← HM.out, show m.length - 1 = n by omega]
          have hS : absS T i = newS l := by
            have hiq : i = T.length / 136 := by omega
            rw [newS, ← hT1, hiq]
          obtain ⟨S0, hS0⟩ : ∃ S0, absS T i = S0 := ⟨_, rfl⟩
          have hS0l : S0.length = 25 := by rw [← hS0, absS_len]
          have hS0w : Ws S0 := hS0 ▸ absS_W T i
          rw [hS0] at hTw hS
          have HS := Lib.hid hS
          clear hS hS0 hT1
          go_wp2_with (refine wpList_load_two rfl 100 _ rfl rfl hTw Tryd.underlying100 rfl 25 inf_a25 hS0l ?_)
          (with_reducible refine (give_any S0 wr hS0l hS0w).mono ?_)
          rintro e w9 ⟨A9, c9, rfl, hO9, hb9⟩
          have hltR := hTw.lt
          have hTw9 := hTw.below hb9 hltR
          have hK9 := hK.trans (S' := fun _ => False) (Kept.of_below hb9) (by omega) (fun _ _ h => h)
          rw [giveL_len] at hO9 ⊢
          have hl9 := hTw9.last
          have hf9 := hTw9.free 25
          rw [hS0l] at hl9
          clear hTw hK hb9 hRd
          go_wp2_with fail
          go_ret
          have hTw10 := hTw9.setLast (v' := .slice A9 136 c9)
          rw [hS0l] at hTw10
          refine ⟨R, A9, c9, rfl, by rw [hB0'.out]; exact hBR, by rw [← HS.out]; exact hTw10, ?_, by rw [hB0'.out]; exact (hK9.set R 25 _ (.inl hBR)).below⟩
          rw [← HS.out]
          exact (hO9.low (by omega)).other R 25 _ (fun q hq => by have := (hO9.lt q hq).1; omega)
    · have ht1 : (((m.length : Int) % 136) != 0) = true := by simp; omega
      have HLT := Lib.hid hlt
      clear hlt
      have hO2 := hO.alloc (.cells (U .u8 [0]) 5)
      have hN2 := Arr.new wr 5 .u8 [0]
      have hK2 := hK.alloc (.cells (U .u8 [0]) 5) (by have := hK.size; have := hB0'.out; omega)
      have hR2 := Rd.of_arr (B := wr.heap.size + 1) hN2 (by omega)
      go_wp2_with (at_builtin; refine wpList_append_nums rfl _ _ 24 5 .u8 1 rfl Tryd.underlying24 inf_u8 hO2 hR2 rfl rfl rfl (by simp; omega) (by simp; omega) (by simp; have := hK.size; have := hB0'.out; omega) ?_; intro A5 c5 w5 hO5 hg5 hf5)
      have hK5 := hK2.grew hO2 hg5 (Nat.le_refl _) (by have := hK2.size; have := hB0'.out; omega)
      simp only [List.length_cons, List.length_nil, Nat.zero_add] at hO5
      refine ⟨⟨m ++ [0], A5, c5, by simp, ?_, by simpa using hO5, hK5⟩, ?_⟩
      · obtain ⟨j, rfl, h⟩ := HJ.out
        refine ⟨j + 1, padZ_succ l j, ?_⟩
        have : ¬ j = padJ l := fun e => HLT.out ((padJ_at l j h).2 e)
        omega
      · have := HLT.out
        simp
        omega

end Go.Proofs.YtfaonieaagepjaaDoor

/- What a text gives, as a row without an end: positions, and what is read from one on. Conditions: none of the program. -/
namespace Go.Proofs.YtfaonieaagepjaaDoor
open Go.RowKit
set_option maxRecDepth 100000
set_option linter.unusedVariables false

def iterP (S : List Int) : Nat → List Int
  | 0 => S
  | q + 1 => permute (iterP S q)
theorem iterP_len {S : List Int} (h : S.length = 25) (q : Nat) : (iterP S q).length = 25 := by
  induction q with
  | zero => exact h
  | succ q ih => rw [iterP, permute_len, ih]
theorem iterP_W {S : List Int} (h : Ws S) (q : Nat) : Ws (iterP S q) := by
  induction q with
  | zero => exact h
  | succ q ih => exact permute_W ih
/-- The i-th byte. -/
def sb (S : List Int) (i : Nat) : Int := gt (giveL (iterP S (i / 136))) (i % 136)
/-- n bytes from p on. -/
def seg (S : List Int) (p n : Nat) : List Int := (List.range n).map fun i => sb S (p + i)
theorem seg_len (S : List Int) (p n : Nat) : (seg S p n).length = n := by simp [seg]
theorem gt_seg (S : List Int) (p n i : Nat) (h : i < n) : gt (seg S p n) i = sb S (p + i) := by
  simp [seg, gt, h]
theorem seg_zero (S : List Int) (p : Nat) : seg S p 0 = [] := rfl
theorem seg_append (S : List Int) (p n m : Nat) : seg S p n ++ seg S (p + n) m = seg S p (n + m) := by
  apply ext_gt _ _ (by simp [seg_len])
  intro i hi
  simp only [List.length_append, seg_len] at hi
  rw [gt_seg _ _ _ _ hi]
  rcases Nat.lt_or_ge i n with h | h
  · rw [gt_append_left _ _ _ (by rw [seg_len]; exact h), gt_seg _ _ _ _ h]
  · rw [gt_append_right _ _ _ (by rw [seg_len]; exact h), seg_len, gt_seg _ _ _ _ (by omega)]
    congr 1; omega
theorem seg_sub (S : List Int) (p n i j : Nat) (h : i + j ≤ n) : ((seg S p n).take (i + j)).drop i = seg S (p + i) j := by
  apply ext_gt _ _ (by simp [seg_len]; omega)
  intro k hk
  simp only [List.length_drop, List.length_take, seg_len] at hk
  rw [gt_drop, gt_take _ _ _ (by omega), gt_seg _ _ _ _ (by omega), gt_seg _ _ _ _ (by omega)]
  congr 1; omega
/-- Where a reader stands. -/
def At (S : List Int) (p : Nat) (s rest : List Int) : Prop := ∃ q r, s = iterP S q ∧ rest = (giveL s).drop r ∧ r ≤ 136 ∧ p = 136 * q + r
theorem At.start (S : List Int) : At S 0 S (giveL S) := ⟨0, 0, rfl, rfl, by omega, rfl⟩
theorem At.len {S s rest : List Int} {p : Nat} (h : At S p s rest) : rest.length ≤ 136 := by
  obtain ⟨q, r, rfl, rfl, hr, rfl⟩ := h
  rw [List.length_drop, giveL_len]; omega
theorem At.slen {S s rest : List Int} {p : Nat} (h : At S p s rest) (hS : S.length = 25) : s.length = 25 := by
  obtain ⟨q, r, rfl, rfl, hr, rfl⟩ := h
  exact iterP_len hS q
theorem At.sW {S s rest : List Int} {p : Nat} (h : At S p s rest) (hS : Ws S) : Ws s := by
  obtain ⟨q, r, rfl, rfl, hr, rfl⟩ := h
  exact iterP_W hS q
theorem At.take {S s rest : List Int} {p : Nat} (h : At S p s rest) (k : Nat) (hk : k ≤ rest.length) : rest.take k = seg S p k := by
  obtain ⟨q, r, rfl, rfl, hr, rfl⟩ := h
  rw [List.length_drop, giveL_len] at hk
  apply ext_gt _ _ (by simp [seg_len, giveL_len]; omega)
  intro i hi
  simp only [List.length_take, List.length_drop, giveL_len] at hi
  rw [gt_take _ _ _ (by omega), gt_drop, gt_seg _ _ _ _ (by omega), sb, show (136 * q + r + i) / 136 = q by omega, show (136 * q + r + i) % 136 = r + i by omega]
theorem At.drop {S s rest : List Int} {p : Nat} (h : At S p s rest) (k : Nat) (hk : k ≤ rest.length) : At S (p + k) s (rest.drop k) := by
  obtain ⟨q, r, rfl, rfl, hr, rfl⟩ := h
  rw [List.length_drop, giveL_len] at hk
  exact ⟨q, r + k, rfl, by rw [List.drop_drop], by omega, by omega⟩
theorem At.next {S s rest : List Int} {p : Nat} (h : At S p s rest) (h0 : rest.length = 0) : At S p (permute s) (giveL (permute s)) := by
  obtain ⟨q, r, rfl, rfl, hr, rfl⟩ := h
  rw [List.length_drop, giveL_len] at h0
  exact ⟨q + 1, 0, rfl, rfl, by omega, by omega⟩

/-- A reader in memory: its state, and its rest in block rb. -/
structure Rdr (w : World) (T g rb : Nat) (s rest : List Int) (A : Option Addr) (c : Nat) : Prop where
  two : Two w g T .u64 s (.slice A rest.length c)
  cap : rest.length ≤ c
  rd : Rp w (· = rb) .u8 A rest
  ne : rb ≠ g
  lt : rb < w.heap.size
theorem Rdr.kept {w w' : World} {T g rb B : Nat} {s rest : List Int} {A : Option Addr} {c : Nat} {S : Nat → Prop} (h : Rdr w T g rb s rest A c) (hk : Kept B S w w') (hB : w.heap.size ≤ B) (hg : ¬ S g) (hr : ¬ S rb) : Rdr w' T g rb s rest A c :=
  ⟨h.two.kept hk (by have := h.two.lt; omega) hg, h.cap, h.rd.kept hk (fun q hq => by subst hq; exact ⟨by have := h.lt; omega, hr⟩), h.ne, by have := hk.size; have := h.lt; omega⟩
theorem Rdr.below {w w' : World} {T g rb : Nat} {s rest : List Int} {A : Option Addr} {c : Nat} (h : Rdr w T g rb s rest A c) (hk : Below w.heap.size w w') : Rdr w' T g rb s rest A c :=
  h.kept (S := fun _ => False) (Kept.of_below hk) (Nat.le_refl _) (fun x => x) (fun x => x)

end Go.Proofs.YtfaonieaagepjaaDoor

/- (*Reader).Read: from where the reader stands on, as many bytes as are asked for. Conditions: the reader's state and rest stand at a place of a row; the tables. -/
namespace Go.Proofs.YtfaonieaagepjaaDoor
open Go.RowKit
set_option maxRecDepth 100000
set_option linter.unusedVariables false
set_option linter.unusedSimpArgs false

theorem KTab.keptS {w w' : World} {B : Nat} {S : Nat → Prop} (h : KTab w) (hk : Kept B S w w') (h0 : 4 < B) (h1 : 3 < B) (hs0 : ¬ S 4) (hs1 : ¬ S 3) : KTab w' :=
  ⟨h.1.kept hk h0 hs0, h.2.kept hk h1 hs1⟩
/-- Between the rounds. -/
def RL (w0 : World) (B g rb0 : Nat) (S : List Int) (p n : Nat) (gk : Nat) (v : Value) (w : World) : Prop :=
  ∃ (j : Nat) (Ao : Option Addr) (co : Nat) (s rest : List Int) (A : Option Addr) (c rb : Nat), v = .slice Ao j co ∧ j ≤ n ∧ Own w B 5 .u8 (.slice Ao j co) (seg S p j) ∧ At S (p + j) s rest ∧
    Rdr w 107 g rb s rest A c ∧ (rb = rb0 ∨ B ≤ rb) ∧ (∀ q, (Value.slice Ao j co).ownBlock = some q → q ≠ rb ∧ q ≠ g) ∧ Kept B (· = g) w0 w ∧ gk = 2 * (n - j) + (if rest.length = 0 then 1 else 0)

/-- Behind the append. -/
def RM (w0 : World) (B g rb0 : Nat) (S : List Int) (p n j : Nat) (v : Value) (w : World) : Prop :=
  ∃ (Ao : Option Addr) (co : Nat) (s rest : List Int) (A : Option Addr) (c rb : Nat), v = .slice Ao j co ∧ Own w B 5 .u8 (.slice Ao j co) (seg S p j) ∧ At S (p + j) s rest ∧
    Rdr w 107 g rb s rest A c ∧ (rb = rb0 ∨ B ≤ rb) ∧ (∀ q, (Value.slice Ao j co).ownBlock = some q → q ≠ rb ∧ q ≠ g) ∧ Kept B (· = g) w0 w ∧ (j = n ∨ rest.length = 0)

theorem RM_close {w0 w w' : World} {B g rb0 n j k co c c' rb p : Nat} {S s rest : List Int} {Ao A A' A2 : Option Addr} {c2 : Nat} (hj : Own w B 5 .u8 (.slice Ao j co) (seg S p j)) (hat : At S (p + j) s rest)
    (hS : S.length = 25) (hR : Rdr w 107 g rb s rest A c) (hrb : rb = rb0 ∨ B ≤ rb) (hob : ∀ q, (Value.slice Ao j co).ownBlock = some q → q ≠ rb ∧ q ≠ g) (hK : Kept B (· = g) w0 w) (hkr : k ≤ rest.length) (hkn : j + k = n ∨ k = rest.length) (hBw : B ≤ w.heap.size)
    (hO1 : Own w' B 5 .u8 (.slice A' ((seg S p j).length + (rest.take k).length) c') (seg S p j ++ rest.take k)) (hg1 : w.drew.grownBy w' (Value.slice Ao j co).ownBlock)
    (hf1 : (Value.slice A' ((seg S p j).length + (rest.take k).length) c').ownBlock = (Value.slice Ao j co).ownBlock ∨ (Value.slice A' ((seg S p j).length + (rest.take k).length) c').ownBlock = some w.drew.heap.size)
    (h2 : (c = k ∧ A2 = A ∧ c2 = 0) ∨ (c ≠ k ∧ A2 = A.map (·.add k) ∧ c2 = c - k)) :
    RM w0 B g rb0 S p n (j + k) (.slice A' ((seg S p j).length + k) c') (w'.setCell ⟨g, 25, none⟩ (.slice A2 (rest.length - k) c2)) := by
  have hlt : (rest.take k).length = k := by simp; omega
  rw [hlt, seg_len] at hO1 hf1
  rw [seg_len]
  rw [hat.take k hkr, seg_append] at hO1
  have hs25 := hat.slen hS
  have hgw : g < w.heap.size := hR.two.lt
  have hbk : ∀ q, (Value.slice A' (j + k) c').ownBlock = some q → q ≠ rb ∧ q ≠ g := fun q hq => by
    rcases hf1 with h | h
    · exact hob q (h ▸ hq)
    · rw [h] at hq; injection hq with hq
      have hd : w.drew.heap.size = w.heap.size := rfl
      have := hR.lt
      omega
  have hTw := hR.two.drew.grown hg1 (fun e => (hob g e).2 rfl)
  have hrd := Rp.grown (w := w.drew) (S := (· = rb)) (k := .u8) (A := A) (l := rest) hR.rd hg1 (fun q hq => by subst hq; exact ⟨hR.lt, fun e => (hob q e).1 rfl⟩)
  have htl := hrd.tail k c hR.cap
  have hc1 := hR.cap
  have e2 : A2 = (if c = k then A else A.map (·.add k)) ∧ c2 = c - k := by
    rcases h2 with ⟨a, b, d⟩ | ⟨a, b, d⟩
    · rw [if_pos a]; exact ⟨b, by omega⟩
    · rw [if_neg a]; exact ⟨b, d⟩
  obtain ⟨rfl, rfl⟩ := e2
  refine ⟨A', c', s, rest.drop k, (if c = k then A else A.map (·.add k)), c - k, rb, rfl, ?_, by rw [← Nat.add_assoc]; exact hat.drop k hkr, ⟨?_, by simp; omega, ?_, hR.ne, ?_⟩, hrb, hbk, ?_, ?_⟩
  · exact hO1.other g 25 _ (fun q hq => (hbk q hq).2)
  · have := hTw.setLast (v' := .slice (if c = k then A else A.map (·.add k)) (rest.length - k) (c - k))
    rw [hs25] at this
    rw [List.length_drop]
    exact this
  · refine htl.keep fun q hq => ?_
    exact World.cell?_setCell_other _ _ _ _ (fun e => hR.ne (by rw [← hq, ← e]))
  · have := hR.lt; have hsz : w.heap.size ≤ w'.heap.size := hg1.size; simp [World.setCell]; omega
  · refine Kept.set ?_ g 25 _ (.inr rfl)
    exact hK.drew.grown hg1 hBw (fun q hq => .inl ((hj.lt q hq).1))
  · rcases hkn with h | h
    · exact .inl h
    · exact .inr (by rw [List.length_drop]; omega)

def ReadPost (w : World) (g rb0 : Nat) (S : List Int) (p n : Nat) (e : Ending) (w' : World) : Prop :=
  ∃ Ao co s' rest' A' c' rb, e = .returned (.slice Ao n co) ∧ Own w' w.heap.size 5 .u8 (.slice Ao n co) (seg S p n) ∧
      At S (p + n) s' rest' ∧ Rdr w' 107 g rb s' rest' A' c' ∧ (rb = rb0 ∨ w.heap.size ≤ rb) ∧ Kept w.heap.size (· = g) w w'
set_option maxRecDepth 100000 in
set_option maxHeartbeats 2000000 in
theorem read_any (n g rb0 p : Nat) (S s rest : List Int) (A : Option Addr) (c : Nat) (w : World) (hS : S.length = 25) (hSw : Ws S) (hn : n ≤ 65536) (hat : At S p s rest) (hr : Rdr w 107 g rb0 s rest A c) (ht : KTab w) (hg1 : g ≠ 3) (hg2 : g ≠ 4) :
    Calls Tryd.prog 71 #[.pointer (some ⟨g, 0, none⟩), .int .i64 n] w (ReadPost w g rb0 S p n) := by
  have hz := World.block_lt_of_cell? w _ (ht.2 0 (by decide))
  have hz0 := World.block_lt_of_cell? w _ (ht.1 0 (by decide))
  have hgB := hr.two.lt
  have hrB := hr.lt
  have hnI : (n : Int) ≤ 65536 := by omega
  have hmx : (65536 : Nat) ≤ maxLen := by decide
  have hz2 : 3 < w.heap.size := hz
  have hz3 : 4 < w.heap.size := hz0
  go_enter Tryd.func71, Tryd.ntmps71
  go_wp2_with (refine wpList_make_nums rfl _ _ 24 rfl 5 .u8 1 Tryd.underlying24 inf_u8 .i64 .i64 0 n 0 n rfl rfl rfl rfl (by omega) (by omega) (by omega) ?_; intro w1 hw1)
  have hO1 : Own w1 w.heap.size 5 .u8 (.slice (some ⟨w.heap.size, 0, none⟩) 0 n) [] := by
    rw [hw1.out]
    exact Own.room w (U .u8 (List.replicate n 0)) n (Nat.le_refl _) (by omega) (by simp [U_size])
  have hK1 : Kept w.heap.size (· = g) w w1 := by rw [hw1.out]; exact (Kept.refl _ _ _).alloc _ (Nat.le_refl _)
  have hR1 := hr.kept ((Kept.refl w.heap.size (fun _ => False) w).alloc (.cells (U .u8 (List.replicate n 0)) 5) (Nat.le_refl _)) (Nat.le_refl _) (fun x => x) (fun x => x)
  rw [← hw1.out] at hR1
  obtain ⟨B, hB⟩ : ∃ B, w.heap.size = B := ⟨_, rfl⟩
  rw [hB] at hO1 hK1 hgB hrB hz2 hz3 ⊢
  have KT : ∀ {w'}, Kept B (· = g) w w' → KTab w' := fun h => ht.keptS h hz3 hz2 (fun e => hg2 e.symm) (fun e => hg1 e.symm)
  have HB := Lib.hid hB
  clear hB hw1 hz hz0 hr
  go_loopg [5] (2 * n + (if rest.length = 0 then 1 else 0)) (fun gk v wr => RL w B g rb0 S p n gk v wr)
  case atStart => exact ⟨0, some ⟨B, 0, none⟩, n, s, rest, A, c, rb0, rfl, Nat.zero_le _, hO1, hat, hR1, .inl rfl, fun q hq => by have h : some B = some q := hq; injection h with h; omega, hK1, rfl⟩
  case round =>
    clear hO1 hK1 hR1 hat s rest A c hrB
    obtain ⟨j, Ao, co, s, rest, A, c, rb, rfl, hj, hO, hat, hR, hrb, hob, hK, hgk⟩ := hrel
    have hjI : (j : Int) ≤ n := by omega
    have hl := hR.two.last
    rw [hat.slen hS] at hl
    have hc1 := hR.cap
    have hfr := hR.two.free 25
    have hBw : B ≤ wr.heap.size := by have := hK.size; have := HB.out; omega
    have hl136 := hat.len
    have HK := Lib.hid hgk
    clear hgk
    obtain ⟨d, hd⟩ : ∃ d : Nat, (n : Int) - (j : Int) = (d : Int) := ⟨n - j, by omega⟩
    have hnd : n = j + d := by omega
    have HND := Lib.hid hnd
    clear hnd
    obtain ⟨k, hk⟩ : ∃ k : Nat, min d rest.length = k := ⟨_, rfl⟩
    have hkd : k ≤ d := by omega
    have hkr : k ≤ rest.length := by omega
    have HMN := Lib.hid hk
    have hkn := Lib.hid (show j + k = n ∨ k = rest.length by have := HND.out; omega)
    have hmeas := Lib.hid (show j + k = n ∨ (2 * (n - (j + k)) < gk ∧ j + k < n) by have := HND.out; have := HK.out; split at this <;> omega)
    clear hk
    go_upto_region 5 with (refine wpList_min_nat (o := ⟨some 24, _, _, _, _, _⟩) rfl _ _ _ rfl d rest.length k rfl rfl HMN.out ?_)
    have hk0 : (0 : Int) ≤ (k : Int) := by omega
    have hkc : (k : Int) ≤ (c : Int) := by omega
    have hkl : (k : Int) ≤ (rest.length : Int) := by omega
    have hO' := hO.drew
    have hRd' := (hR.rd.take_ k).rd (B := wr.heap.size) (fun q hq => by subst hq; exact hR.lt)
    have hlen : (seg S p j).length = j := seg_len _ _ _
    have hlt : (rest.take k).length = k := by simp; omega
    have HO := Lib.hid hO'
    have HRd := Lib.hid hRd'
    have HLEN := Lib.hid hlen
    have HLT := Lib.hid hlt
    have HLM := Lib.hid (show ((seg S p j).length + (rest.take k).length) * 1 ≤ 140737488355328 by rw [hlen, hlt]; have := HND.out; omega)
    have HMX := Lib.hid (show (seg S p j).length + (rest.take k).length ≤ maxLen by rw [hlen, hlt]; have := HND.out; omega)
    have hgw : g < wr.heap.size := hR.two.lt
    have hgo : ∀ q, (Value.slice Ao j co).ownBlock = some q → q ≠ g := fun q hq => (hob q hq).2
    clear hO' hRd' hlen hlt
    go_cut [5] (fun v wx => RM w B g rb0 S p n (j + k) v wx)
    case first =>
      go_region_law (refine step_append_nums (by rfl) _ _ 24 5 .u8 1 (by rfl) Tryd.underlying24 inf_u8 HO.out HRd.out (by rfl) (by rfl) HLT.out HLM.out HMX.out hBw ?_; intro A' c' w' hO1 hg1 hf1; have hl1 := (World.cell?_of_block (hg1.block g hgw (fun e => hgo g e.symm rfl))).trans hl; have hfr1 := (hR.two.drew.grown hg1 (fun e => hgo g e rfl)).free 25)
      all_goals go_wp2_with fail
      all_goals go_meet
      all_goals first | exact RM_close hO hat hS hR hrb hob hK hkr hkn.out hBw hO1 hg1 hf1 (.inl ⟨‹_›, rfl, rfl⟩) | exact RM_close hO hat hS hR hrb hob hK hkr hkn.out hBw hO1 hg1 hf1 (.inr ⟨‹_›, rfl, rfl⟩)
    case rest =>
      clear hO hat hR hrb hob hK hjI hl hc1 hfr hl136 HO HRd HLEN HLT hgw hgo hk0 hkc hkl hkr hkd
      obtain ⟨Ao, co, s, rest, A, c, rb, rfl, hO, hat, hR, hrb, hob, hK, hdone⟩ := hcut
      obtain ⟨jk, hjk⟩ : ∃ jk, j + k = jk := ⟨_, rfl⟩
      rw [hjk] at hO hat hob hdone hmeas ⊢
      clear hjk hkn HMN HND hd
      have hHR := Lib.hid hR
      by_cases he : jk = n
      · subst he
        clear hR
        go_wp2_with fail
        go_ret
        unfold ReadPost
        rw [HB.out]
        exact ⟨Ao, co, s, rest, A, c, rb, rfl, hO, hat, hHR.out, hrb, hK⟩
      · have hr0 : rest.length = 0 := by omega
        have hb1 : ((jk : Int) == (n : Int)) = false := beq_eq_false_iff_ne.2 (by omega)
        have hat2 := hat.next hr0
        have hsl := hat.slen hS
        have hsw := hat.sW hSw
        have htw := hR.two
        have HR0 := Lib.hid hr0
        clear hr0 hR hat
        go_wp2_with (refine wpList_load_two (o := ⟨some 51, _, _, _, _, _⟩) rfl 100 _ rfl rfl htw Tryd.underlying100 rfl 25 inf_a25 hsl ?_)
        have hltC : g < wc.heap.size := htw.lt
        have hBc : B ≤ wc.heap.size := by have := hK.size; have := HB.out; omega
        (with_reducible refine (permute_any s wc hsl hsw (KT hK) (by omega) (by omega)).mono ?_)
        rintro e w8 ⟨rfl, hb8⟩
        have hTw8 := htw.below hb8 hltC
        have hK8 := hK.trans (S' := fun _ => False) (Kept.of_below hb8) hBc (fun _ _ h => h.elim)
        have hO8 := hO.below hb8 (Nat.le_refl _)
        have hpl : (permute s).length = 25 := by rw [permute_len, hsl]
        have hpw : Ws (permute s) := permute_W hsw
        obtain ⟨s8, hs8⟩ : ∃ s8, permute s = s8 := ⟨_, rfl⟩
        rw [hs8] at hpl hpw hat2 ⊢
        clear htw hK hO hb8 hs8 hHR
        go_wp2_with (first | (refine wpList_store_two (o := ⟨none, _, _, _, _, _⟩) rfl 100 _ _ rfl rfl rfl hTw8 25 inf_a25 hsl hpl ?_) | (refine wpList_load_two (o := ⟨some 59, _, _, _, _, _⟩) rfl 100 _ rfl rfl (hTw8.setNums (s' := s8) (by rw [hsl, hpl])) Tryd.underlying100 rfl 25 inf_a25 hpl ?_))
        have hTw9 := hTw8.setNums (s' := s8) (by rw [hsl, hpl])
        have hK9 := hK8.setCells g 0 (nums .u64 s8) (.inr rfl)
        have hO9 : Own (w8.setCells g 0 (nums .u64 s8)) B 5 .u8 (.slice Ao jk co) (seg S p jk) := hO8.keep fun q hq => (setCells_else (g := g) (nums .u64 s8) 0 w8).2.2.2.2 q (hob q hq).2
        generalize w8.setCells g 0 (nums .u64 s8) = w9 at hTw9 hK9 hO9 ⊢
        clear hTw8 hK8 hO8 hltC hBc
        have hlt9 : g < w9.heap.size := hTw9.lt
        (with_reducible refine (give_any s8 w9 hpl hpw).mono ?_)
        rintro e wa ⟨Aa, ca, rfl, hOa, hba⟩
        have hTwa := hTw9.below hba hlt9
        have hB9 : B ≤ w9.heap.size := by have := hK9.size; have := HB.out; omega
        have hKa := hK9.trans (S' := fun _ => False) (Kept.of_below hba) hB9 (fun _ _ h => h.elim)
        have hObl := hO9.lt
        have hOw := hO9.below hba (Nat.le_refl _)
        have hlw := hTwa.last
        have hfw := hTwa.free 25
        rw [hpl] at hlw
        have hgl := giveL_len s8
        have hla := hOa.len
        obtain ⟨_, _, hva, hca, _, _, hga⟩ := hOa.form
        injection hva with h1 _ h3
        subst h1 h3
        obtain ⟨L8, hL8⟩ : ∃ L8, giveL s8 = L8 := ⟨_, rfl⟩
        rw [hL8] at hOa hgl hla hat2 hca ⊢
        obtain ⟨ga, hga1, hga2, hga3⟩ : ∃ ga, Aa = some ⟨ga, 0, none⟩ ∧ w9.heap.size ≤ ga ∧ ga < wa.heap.size := by
          rcases hga with rfl | h
          · obtain ⟨ad, h, _⟩ := hOa.rd (by omega); cases h
          · exact h
        have HGA := Lib.hid hga1
        have HL8 := Lib.hid hL8
        have HGL := Lib.hid hgl
        clear hga1 hL8 hgl hga hTw9 hK9 hO9 hba
        go_wp2_with fail
        go_roundg (2 * (n - jk))
        case measure => have := hmeas.out; omega
        case rel =>
          have hgl := HGL.out
          obtain rfl := HGA.out
          have hTwz := hTwa.setLast (v' := .slice (some ⟨ga, 0, none⟩) L8.length ca)
          rw [hpl] at hTwz
          have hne : ga ≠ g := by omega
          refine ⟨jk, Ao, co, s8, L8, some ⟨ga, 0, none⟩, ca, ga, rfl, ?_, hOw.other g 25 _ (fun q hq => (hob q hq).2), hat2, ⟨hTwz, hca, ?_, hne, by simpa [World.setCell] using hga3⟩, .inr (by omega), fun q hq => ⟨?_, (hob q hq).2⟩, hKa.set g 25 _ (.inr rfl), ?_⟩
          · have := hmeas.out; omega
          · exact hOa.rp.keep fun q hq => World.cell?_setCell_other _ _ _ _ (fun e => hne (by rw [← hq, ← e]))
          · have := (hObl q hq).2; omega
          · rw [if_neg (by omega)]; omega

end Go.Proofs.YtfaonieaagepjaaDoor

/- A block into a state word by word is the same as byte by byte; a state's words, taken apart from the low byte on, are its first bytes. Conditions: none of the program. -/
namespace Go.Proofs.YtfaonieaagepjaaDoor
open Go.RowKit
set_option maxRecDepth 100000
set_option linter.unusedVariables false

/-! ### Bytes put together to a word, the last one first -/
def wle (l : List Int) (o : Nat) : Nat → Int
  | 0 => 0
  | m + 1 => wle l o m * 256 + gt l (o + 7 - m)
/-- .. the first one first. -/
def wlo (l : List Int) (o : Nat) : Nat → Int
  | 0 => 0
  | m + 1 => wlo l o m + gt l (o + m) * 256 ^ m
theorem wle_bd {l : List Int} (h : Bys l) (o m : Nat) : 0 ≤ wle l o m ∧ wle l o m < 256 ^ m := by
  induction m with
  | zero => simp [wle]
  | succ m ih =>
    have := h.gt (o + 7 - m)
    unfold B8 at this
    rw [wle, Int.pow_succ]
    omega
theorem wlo_bd {l : List Int} (h : Bys l) (o m : Nat) : 0 ≤ wlo l o m ∧ wlo l o m < 256 ^ m := by
  induction m with
  | zero => simp [wlo]
  | succ m ih =>
    have h1 := h.gt (o + m)
    unfold B8 at h1
    have hp : (0 : Int) < 256 ^ m := Int.pow_pos (by decide)
    rw [wlo, Int.pow_succ]
    generalize (256 : Int) ^ m = P at *
    generalize gt l (o + m) = g at *
    have h2 : 0 ≤ g * P := Int.mul_nonneg h1.1 (by omega)
    have h3 : g * P ≤ 255 * P := Int.mul_le_mul_of_nonneg_right (by omega) (by omega)
    omega
theorem wle_wlo (l : List Int) (o : Nat) : wle l o 8 = wlo l o 8 := by
  simp only [wle, wlo, show o + 7 - 0 = o + 7 by omega, show o + 7 - 1 = o + 6 by omega, show o + 7 - 2 = o + 5 by omega, show o + 7 - 3 = o + 4 by omega, show o + 7 - 4 = o + 3 by omega, show o + 7 - 5 = o + 2 by omega, show o + 7 - 6 = o + 1 by omega, show o + 7 - 7 = o by omega, Nat.add_zero]
  omega

/-! ### Parts that don't meet, put together -/
theorem nat_xor_parts (x y k : Nat) (h : x < 2 ^ k) : x ^^^ (y * 2 ^ k) = x + y * 2 ^ k := by
  apply Nat.eq_of_testBit_eq
  intro i
  rw [Nat.add_comm, Nat.mul_comm, Nat.testBit_two_pow_mul_add y h i, Nat.testBit_xor, Nat.testBit_two_pow_mul]
  by_cases hi : i < k
  · have : ¬ k ≤ i := by omega
    simp [hi, this]
  · have h2 : x < 2 ^ i := Nat.lt_of_lt_of_le h (Nat.pow_le_pow_right (by decide) (by omega))
    simp [hi, Nat.testBit_lt_two_pow h2, show k ≤ i by omega]
theorem X_parts (a x y : Int) (k : Nat) (hx0 : 0 ≤ x) (hx : x < 2 ^ k) (hy0 : 0 ≤ y) (hy : x + y * 2 ^ k < 18446744073709551616) : X (X a x) (y * 2 ^ k) = X a (x + y * 2 ^ k) := by
  rw [X_assoc]
  congr 1
  obtain ⟨x, rfl⟩ : ∃ n : Nat, x = n := ⟨x.toNat, by omega⟩
  obtain ⟨y, rfl⟩ : ∃ n : Nat, y = n := ⟨y.toNat, by omega⟩
  have hx' : x < 2 ^ k := by
    have h := hx
    rw [show (2 : Int) ^ k = ((2 ^ k : Nat) : Int) by push_cast; rfl] at h
    omega
  have e : (y : Int) * 2 ^ k = ((y * 2 ^ k : Nat) : Int) := by push_cast; rfl
  rw [e] at hy ⊢
  have hs := nat_xor_parts x y k hx'
  generalize y * 2 ^ k = z at *
  rw [X, bv_xor, BitVec.toNat_xor, bv_natCast, bv_natCast, Nat.mod_eq_of_lt (by omega), Nat.mod_eq_of_lt (by omega), hs]
  push_cast; rfl

/-! ### A block into a state, word by word -/
def xorW (s l : List Int) : Nat → List Int
  | 0 => s
  | i + 1 => st (xorW s l i) i (X (gt (xorW s l i) i) (wle l (8 * i) 8))
theorem xorW_len (s l : List Int) (i : Nat) : (xorW s l i).length = s.length := by
  induction i with
  | zero => rfl
  | succ i ih => rw [xorW, st_len, ih]
theorem xorW_W {s : List Int} (l : List Int) (h : Ws s) (j : Nat) : Ws (xorW s l j) := by
  induction j with
  | zero => exact h
  | succ j ih => exact ih.st _ (W64_xor _ _)
theorem st_st (l : List Int) (i : Nat) (x y : Int) : st (st l i x) i y = st l i y := by simp [st]
theorem st_self (l : List Int) (i : Nat) (h : i < l.length) : st l i (gt l i) = l := by
  apply ext_gt _ _ (by simp [st_len])
  intro j hj
  rw [gt_st _ _ _ _ h]
  split
  · subst_vars; rfl
  · rfl
theorem mixN_word (s l : List Int) (i : Nat) (hs : s.length = 25) (hw : Ws s) (hl : Bys l) (hi : i < 17) : ∀ m, m ≤ 8 →
    mixN s l (8 * i + m) = st (mixN s l (8 * i)) i (X (gt (mixN s l (8 * i)) i) (wlo l (8 * i) m))
  | 0, _ => by
    have hW := (mixN_W l hw (8 * i)).gt i
    have hz : X (gt (mixN s l (8 * i)) i) 0 = gt (mixN s l (8 * i)) i := by rw [X_comm, X_zero hW]
    rw [Nat.add_zero, wlo, hz, st_self _ _ (by rw [mixN_len]; omega)]
  | m + 1, hm => by
    have hd : (8 * i + m) / 8 = i := by omega
    have hr : (8 * i + m) % 8 = m := by omega
    have hb := hl.gt (8 * i + m)
    have hbd := wlo_bd hl (8 * i) (m + 1)
    have hbd' := wlo_bd hl (8 * i) m
    have e256 : ∀ n : Nat, (256 : Int) ^ n = 2 ^ (8 * n) := fun n => by rw [Int.pow_mul]; rfl
    have hp : (256 : Int) ^ (m + 1) ≤ 18446744073709551616 := by
      have : ∀ m, m ≤ 7 → (256 : Int) ^ (m + 1) ≤ 18446744073709551616 := by decide
      exact this m (by omega)
    rw [wlo, e256] at hbd
    rw [show 8 * i + (m + 1) = 8 * i + m + 1 by omega, mixN, mixN_word s l i hs hw hl hi m (by omega), hd, hr, st_st, gt_st _ _ _ _ (by rw [mixN_len]; omega), if_pos rfl]
    have hlt : wlo l (8 * i) (m + 1) < 18446744073709551616 := by have := (wlo_bd hl (8 * i) (m + 1)).2; omega
    rw [wlo, e256] at hlt
    have h1 : (0 : Int) ≤ gt l (8 * i + m) * 2 ^ (8 * m) := Int.mul_nonneg hb.1 (Int.pow_nonneg (by decide))
    have hwr : IntKind.u64.wrap (gt l (8 * i + m) * 2 ^ (8 * m)) = gt l (8 * i + m) * 2 ^ (8 * m) := by
      rw [IntKind.wrap_u64]
      omega
    rw [hwr, wlo, e256]
    congr 1
    exact X_parts _ _ _ _ hbd'.1 (by rw [← e256]; exact hbd'.2) hb.1 hlt
theorem mixN_xorW (s l : List Int) (hs : s.length = 25) (hw : Ws s) (hl : Bys l) : ∀ i, i ≤ 17 → mixN s l (8 * i) = xorW s l i
  | 0, _ => rfl
  | i + 1, hi => by
    rw [show 8 * (i + 1) = 8 * i + 8 by omega, mixN_word s l i hs hw hl (by omega) 8 (Nat.le_refl _), mixN_xorW s l hs hw hl i (by omega), xorW, wle_wlo]

/-! ### The first bytes of a state, one by one -/
def gave (s : List Int) (n : Nat) : List Int := (List.range n).map (byteAt s)
theorem gave_len (s : List Int) (n : Nat) : (gave s n).length = n := by simp [gave]
theorem gave_succ (s : List Int) (n : Nat) : gave s (n + 1) = gave s n ++ [byteAt s n] := by simp [gave, List.range_succ]
theorem gt_giveN (s : List Int) (j i : Nat) (hj : j ≤ 136) : gt (giveN s j) i = if i < j then byteAt s i else 0 := by
  induction j with
  | zero =>
    simp only [giveN, gt, List.getD_eq_getElem?_getD, List.getElem?_replicate]
    split <;> simp
  | succ j ih =>
    rw [giveN, gt_st _ _ _ _ (by rw [giveN_len]; omega), ih (by omega)]
    by_cases h : i = j
    · subst h; simp
    · rw [if_neg h]
      by_cases h2 : i < j
      · rw [if_pos h2, if_pos (by omega)]
      · rw [if_neg h2, if_neg (by omega)]
theorem giveL_gave (s : List Int) : giveL s = gave s 136 := by
  apply ext_gt _ _ (by rw [giveL_len, gave_len])
  intro i hi
  rw [giveL_len] at hi
  rw [giveL, gt_giveN _ _ _ (Nat.le_refl _), if_pos hi]
  simp [gave, gt, hi]
theorem seg_block (S : List Int) (q : Nat) : seg S (136 * q) 136 = giveL (iterP S q) := by
  apply ext_gt _ _ (by rw [seg_len, giveL_len])
  intro i hi
  rw [seg_len] at hi
  rw [gt_seg _ _ _ _ hi, sb, show (136 * q + i) / 136 = q by omega, show (136 * q + i) % 136 = i by omega]
theorem seg_blocks (S : List Int) (q m : Nat) (hm : m ≤ 136) : seg S 0 (136 * q) ++ gave (iterP S q) m = seg S 0 (136 * q + m) := by
  have h : gave (iterP S q) m = seg S (0 + 136 * q) m := by
    have h1 := seg_sub S (136 * q) 136 0 m (by omega)
    rw [seg_block, giveL_gave, List.drop_zero, Nat.zero_add, Nat.add_zero] at h1
    rw [Nat.zero_add, ← h1]
    simp only [gave, ← List.map_take, List.take_range, Nat.min_eq_left hm]
  rw [h, seg_append]

end Go.Proofs.YtfaonieaagepjaaDoor

/- The reference's sum of a text: as many bytes as are asked for of the row that the text gives. Conditions: the text has at most 100000000 bytes. -/
namespace Go.Proofs.YtfaonieaagepjaaDoor
open Go.RowKit
set_option maxRecDepth 100000
set_option linter.unusedVariables false
set_option linter.unusedSimpArgs false

theorem wle_step {T : List Int} (hT : Bys T) {o m kk : Nat} (hk : kk = 7 - m) (hm : m < 8) {x y : Int} (hx : wle T o m = x) (hy : gt T (o + kk) = y) : IntKind.u64.wrap (IntKind.u64.wrap (x * 256) + y) = wle T o (m + 1) := by
  have h1 := wle_bd hT o (m + 1)
  have hp : ∀ m, m < 8 → (256 : Int) ^ (m + 1) ≤ 18446744073709551616 := by decide
  have h2 := hp m hm
  have hyb := hT.gt (o + kk)
  have hxb := wle_bd hT o m
  unfold B8 at hyb
  rw [wle, show o + 7 - m = o + kk by omega, hx, hy] at h1 ⊢
  rw [hy] at hyb
  rw [hx] at hxb
  rw [IntKind.wrap_u64, IntKind.wrap_u64]
  omega
theorem wle_blk (T : List Int) (a i : Nat) (hi : i < 17) : ∀ m, m ≤ 8 → wle ((T.drop a).take 136) (8 * i) m = wle T (a + 8 * i) m
  | 0, _ => rfl
  | m + 1, h => by
    rw [wle, wle, wle_blk T a i hi m (by omega), gt_take _ _ _ (by omega), gt_drop]
    congr 2
    omega
theorem gt_giveL (s : List Int) (j : Nat) (hj : j < 136) : gt (giveL s) j = byteAt s j := by
  rw [giveL, gt_giveN _ _ _ (Nat.le_refl _), if_pos hj]
theorem seg_snoc (S : List Int) (m : Nat) : seg S 0 m ++ [sb S m] = seg S 0 (m + 1) := by simp [seg, List.range_succ]
theorem sb_word {S s : List Int} {q i k m0 m1 : Nat} {x y : Int} (hs : iterP S q = s) (hi : i < 17) (hk : k < 8) (h0 : 136 * q = m0) (h1 : m0 + 8 * i = m1) (hx : gt s i = x) (hy : x / 2 ^ (8 * k) = y) : sb S (m1 + k) = y % 256 := by
  have e1 : (m1 + k) / 136 = q := by omega
  have e2 : (m1 + k) % 136 = 8 * i + k := by omega
  have e3 : (8 * i + k) / 8 = i := by omega
  have e4 : (8 * i + k) % 8 = k := by omega
  rw [sb, e1, e2, hs, gt_giveL _ _ (by omega), byteAt, e3, e4, hx, hy]
theorem div_next {x y : Int} {k : Nat} (hx : W64 x) (hy : x / 2 ^ (8 * k) = y) : IntKind.u64.wrap (y.tdiv 256) = x / 2 ^ (8 * (k + 1)) := by
  have hp : (0 : Int) < 2 ^ (8 * k) := Int.pow_pos (by decide)
  have hy0 : 0 ≤ y := by rw [← hy]; exact Int.ediv_nonneg hx.1 (by omega)
  have hy1 : y ≤ x := by rw [← hy]; exact Int.ediv_le_self _ hx.1
  have e : y / 256 = x / 2 ^ (8 * (k + 1)) := by
    rw [← hy, Int.ediv_ediv, if_neg (by omega), show 8 * (k + 1) = 8 * k + 8 by omega, Int.pow_add]
    simp
  have := hx.2
  rw [Int.tdiv_eq_ediv_of_nonneg hy0, IntKind.wrap_u64, ← e]
  omega
/-- While the text is made. -/
def R1 (w0 : World) (B : Nat) (l : List Int) (gk : Nat) (v : Value) (w : World) : Prop :=
  ∃ (j : Nat) (A : Option Addr) (c : Nat), v = .slice A (l.length + 1 + j) c ∧ j ≤ padJ l ∧ gk = padJ l - j ∧ Own w (B + 1) 5 .u8 (.slice A (l.length + 1 + j) c) (padZ l j) ∧ Kept (B + 1) (fun _ => False) w0 w

def R2 (w0 : World) (C : Nat) (T : List Int) (gk : Nat) (v : Value) (w : World) : Prop :=
  ∃ i : Nat, v = .int .i64 ((136 * i : Nat) : Int) ∧ 136 * i ≤ T.length ∧ gk = T.length / 136 - i ∧ Arr w C 100 .u64 (absS T i) ∧ Kept C (fun _ => False) w0 w
def R3 (w0 : World) (C : Nat) (S b : List Int) (gk : Nat) (v : Value) (w : World) : Prop :=
  ∃ i : Nat, v = .int .i64 i ∧ i ≤ 17 ∧ gk = 17 - i ∧ Arr w C 100 .u64 (xorW S b i) ∧ Kept C (fun _ => False) w0 w
def R4 (w0 : World) (T : List Int) (o : Nat) (gk : Nat) (v v' : Value) (w : World) : Prop :=
  ∃ (m : Nat) (z : Int), v = .int .u64 (wle T o m) ∧ v' = .int .i64 z ∧ z = 7 - (m : Int) ∧ m ≤ 8 ∧ gk = 8 - m ∧ w0 = w

def R5 (w0 : World) (C : Nat) (S : List Int) (n gk : Nat) (v : Value) (w : World) : Prop :=
  ∃ (q : Nat) (A : Option Addr) (c : Nat), v = .slice A (136 * q) c ∧ Own w (C + 1) 5 .u8 (.slice A (136 * q) c) (seg S 0 (136 * q)) ∧ Arr w C 100 .u64 (iterP S q) ∧ Kept C (fun _ => False) w0 w ∧ 136 * q < n + 136 ∧ gk = n / 136 + 1 - q
def R6 (w0 : World) (C : Nat) (S : List Int) (m0 gk : Nat) (v v' : Value) (w : World) : Prop :=
  ∃ (i : Nat) (A : Option Addr) (c : Nat), v = .slice A (m0 + 8 * i) c ∧ v' = .int .i64 i ∧ i ≤ 17 ∧ gk = 17 - i ∧ Own w (C + 1) 5 .u8 (.slice A (m0 + 8 * i) c) (seg S 0 (m0 + 8 * i)) ∧ Kept (C + 1) (fun _ => False) w0 w
def R7 (w0 : World) (C : Nat) (S : List Int) (m1 : Nat) (x : Int) (gk : Nat) (v v' v'' : Value) (w : World) : Prop :=
  ∃ (k : Nat) (A : Option Addr) (c : Nat), v = .slice A (m1 + k) c ∧ v' = .int .u64 (x / 2 ^ (8 * k)) ∧ v'' = .int .i64 k ∧ k ≤ 8 ∧ gk = 8 - k ∧ Own w (C + 1) 5 .u8 (.slice A (m1 + k) c) (seg S 0 (m1 + k)) ∧ Kept (C + 1) (fun _ => False) w0 w

def RefPostF (w : World) (l : List Int) (n : Nat) (e : Ending) (w' : World) : Prop :=
  ∃ A' c', e = .returned (.slice A' n c') ∧ Rd w' w'.heap.size .u8 A' (seg (newS l) 0 n) ∧ n ≤ c' ∧ Below w.heap.size w w'
def RefPost (w : World) (l : List Int) (n : Nat) (e : Ending) (w' : World) : Prop :=
  ∃ A' c', e = .returned (.slice A' n c') ∧ Rd w' w'.heap.size .u8 A' (seg (newS l) 0 n) ∧ Below w.heap.size w w'
set_option maxRecDepth 100000 in
set_option maxHeartbeats 2000000 in
theorem refsumF_any (l : List Int) (A : Option Addr) (c B0 n : Nat) (w : World) (hr : Rd w B0 .u8 A l) (hB : B0 ≤ w.heap.size) (hl : l.length ≤ 100000000) (hn : n ≤ 65536) (hby0 : Bys l) :
    Calls Tryd.prog 66 #[.slice A l.length c, .int .i64 n] w (RefPostF w l n) := by
  have hnI : (n : Int) ≤ 65536 := by omega
  go_enter Tryd.func66, Tryd.ntmps66
  go_wp2_with fail
  (with_reducible refine (constants_any w).mono ?_)
  rintro e w1 ⟨rfl, hb1⟩
  have hK1 := Kept.of_below (S := fun _ => False) hb1
  have hsz1 := hb1.size
  have hB1 : w.heap.size ≤ w1.heap.size := hsz1
  have hN2 := Arr.new w1 98 .u64 (List.replicate 24 0)
  have hK2 := (hK1.mono (B' := w.heap.size) (S' := fun _ => False) (Nat.le_refl _) (fun _ _ h => h)).alloc (.cells (U .u64 (List.replicate 24 0)) 98) hsz1
  go_upto_region 4 with (refine wpList_store_arr rfl 98 _ _ rfl rfl rfl hN2 24 inf_a24 rfl rfl ?_)
  obtain ⟨B, hBe⟩ : ∃ B, w1.heap.size = B := ⟨_, rfl⟩
  have hN3 := hN2.setRow rcL
  have hK3 := hK2.setRow w1.heap.size (U .u64 rcL) (.inl hsz1)
  rw [hBe] at hN3 hK3 hsz1 ⊢
  have hs3 : ((w1.alloc (.cells (U .u64 (List.replicate 24 0)) 98)).setRow B (U .u64 rcL)).heap.size = B + 1 := by simp [hBe]
  change Code.wp _ _ _ _ ((w1.alloc (.cells (U .u64 (List.replicate 24 0)) 98)).setRow B (U .u64 rcL))
  generalize (w1.alloc (.cells (U .u64 (List.replicate 24 0)) 98)).setRow B (U .u64 rcL) = w3 at hN3 hK3 hs3 ⊢
  have hr3 := hr.kept hK3 hB (fun _ _ h => h)
  have hOe := Own.lit (b := B + 1) (e := 5) (k := .u8) w3 [] (by omega) (Nat.zero_le _)
  have hRe := hr3.alloc (by omega) (.cells #[] 5)
  have hKe := hK3.alloc (.cells #[] 5) (by omega)
  have hNe := hN3.alloc (.cells #[] 5)
  have hHB := Lib.hid hBe
  have hmx : (200000000 : Nat) ≤ maxLen := by decide
  have HL := Lib.hid hl
  have HS3 := Lib.hid hs3
  clear hN2 hK2 hK1 hb1 hB1 hr hBe hl hs3 hB
  go_upto_region 5 with (first
    | (at_builtin; refine wpList_app rfl (.tmp 23) (.tmp 24) 24 5 .u8 1 rfl Tryd.underlying24 inf_u8 hOe hRe rfl rfl rfl l rfl l.length rfl (by have := HL.out; omega) (by have := HL.out; omega) (by have := HS3.out; simp; omega) ?_; intro Aa ca wa hOa hga hfa)
    | (at_builtin; have hOb := hOa.alloc (.cells (U .u8 [31]) 5); have hNb := Rd.of_arr (B := wa.heap.size + 1) (Arr.new wa 5 .u8 [31]) (by omega); refine wpList_app rfl (.tmp 25) (.tmp 26) 24 5 .u8 1 rfl Tryd.underlying24 inf_u8 hOb hNb rfl rfl rfl (padZ l 0) (by simp [padZ]) (l.length + 1) (by rw [padZ_len]) (by have := HL.out; omega) (by have := HL.out; omega) (by have := HS3.out; have := hga.size; simp at this ⊢; omega) ?_; intro Ab cb wb hOb' hgb hfb))
  have hKb : Kept (B + 1) (fun _ => False) w3 wb := by
    have h0 := HS3.out
    have h1 := (Kept.refl (B + 1) (fun _ => False) w3).alloc (.cells #[] 5) (by omega)
    have h2 := h1.grew hOe hga (Nat.le_refl _) (by simp; omega)
    have h3 := h2.alloc (.cells (U .u8 [31]) 5) (by have := hga.size; simp at this; omega)
    exact h3.grew (hOa.alloc (.cells (U .u8 [31]) 5)) hgb (Nat.le_refl _) (by have := hga.size; simp at this ⊢; omega)
  clear hOe hRe hKe hNe hOa hga hfa hgb hfb hr3
  go_loopg [6] (padJ l) (fun gk v wr => R1 w3 B l gk v wr)
  case atStart => exact ⟨0, Ab, cb, rfl, Nat.zero_le _, rfl, hOb', hKb⟩
  case round =>
    clear hOb' hKb
    obtain ⟨j, A6, c6, rfl, hj, hgk, hO, hK⟩ := hrel
    have hjl := padJ_lt l
    have hL := HL.out
    have hat := padJ_at l j hj
    rw [padZ_len] at hat
    have hwl : B + 1 ≤ wr.heap.size := by have := hK.size; have := HS3.out; omega
    by_cases hlt : (l.length + 1 + j) % 136 = 0
    · have hj2 : j = padJ l := hat.1 hlt
      have ht : ((l.length : Int) + 1 + (j : Int)) % 136 = 0 := by omega
      obtain ⟨M, hM⟩ : ∃ M, padZ l j = M := ⟨_, rfl⟩
      have hMl : M.length = l.length + 1 + j := by rw [← hM, padZ_len]
      have hTx : textL l = st M (M.length - 1) (bits .xor .u8 (gt M (M.length - 1)) 128) := by rw [← hM, hj2]; rfl
      obtain ⟨N, hN⟩ : ∃ N, l.length + 1 + j = N + 1 := ⟨l.length + j, by omega⟩
      rw [hM] at hO
      rw [hN] at hO hMl ⊢
      have htN : ((N : Int) + 1) % 136 = 0 := by omega
      have hNb : N < 200000000 := by omega
      obtain ⟨g6, rfl, -, hg6, hg6', hc6⟩ := hO.where_ (by omega)
      have hcl := hO.cell N (by omega)
      have hfl := hO.free N
      have HM := Lib.hid hM
      have HTX := Lib.hid hTx
      have HMl := Lib.hid hMl
      have hc6' : N + 1 ≤ c6 := by omega
      clear hM hTx hMl hN ht hlt hat hj2 hgk hjl hL
      go_wp2_with fail
      obtain ⟨C, hC⟩ : ∃ C, wr.heap.size = C := ⟨_, rfl⟩
      obtain ⟨T, hT⟩ : ∃ T, st M N (bits .xor .u8 (gt M N) 128) = T := ⟨_, rfl⟩
      have hTl : T.length = N + 1 := by rw [← hT, st_len]; exact HMl.out
      have hTt : textL l = T := by rw [HTX.out, HMl.out]; exact hT
      have hO6 := hO.stored N (bits .xor .u8 (gt M N) 128)
      have hK6 := hK.set g6 N (.int .u8 (bits .xor .u8 (gt M N) 128)) (.inl (by omega))
      have hs6 : (wr.setCell ⟨g6, N, none⟩ (.int .u8 (bits .xor .u8 (gt M N) 128))).heap.size = C := by simpa [World.setCell] using hC
      rw [hT] at hO6
      rw [hC] at hg6' hwl ⊢
      generalize wr.setCell ⟨g6, N, none⟩ (.int .u8 (bits .xor .u8 (gt M N) 128)) = w6 at hO6 hK6 hs6 ⊢
      have hR7 := hO6.rp.keep (w' := w6.alloc (.cells (U .u64 (List.replicate 25 0)) 100)) (fun q hq => World.cell?_of_block (Below.heap_alloc w6 _ q.block (by omega)))
      have hS7 := Arr.new w6 100 .u64 (List.replicate 25 0)
      have hK7 := hK6.alloc (.cells (U .u64 (List.replicate 25 0)) 100) (by omega)
      have hs7 : (w6.alloc (.cells (U .u64 (List.replicate 25 0)) 100)).heap.size = C + 1 := by simp [hs6]
      rw [hs6] at hS7
      change Code.wp _ _ _ _ (w6.alloc (.cells (U .u64 (List.replicate 25 0)) 100))
      generalize w6.alloc (.cells (U .u64 (List.replicate 25 0)) 100) = w7 at hR7 hS7 hK7 hs7 ⊢
      have HC := Lib.hid hC
      have HTt := Lib.hid hTt
      have HTl := Lib.hid hTl
      have HTN : Hid (T.length % 136 = 0) := by show T.length % 136 = 0; omega
      have HS7 := Lib.hid hs7
      have hTB : Bys T := by
        rw [← hTt]
        exact (padZ_B hby0 _).st _ (B8.bits _ _ _)
      have HTB := Lib.hid hTB
      clear hC hT hTt hTl hO6 hK6 hs6 hs7 hO hK hcl hfl htN hTB
      go_loopg [8] (T.length / 136) (fun gk v wr => R2 w7 C T gk v wr)
      case atStart => exact ⟨0, rfl, by omega, rfl, hS7, Kept.refl _ _ _⟩
      case round =>
        clear hS7
        obtain ⟨wo, rfl⟩ : ∃ wo : World, wo = wr := ⟨_, rfl⟩
        obtain ⟨i, rfl, hi, hgk, hS, hK⟩ := hrel
        obtain ⟨at_, hat⟩ : ∃ a, 136 * i = a := ⟨_, rfl⟩
        obtain ⟨S, hSe⟩ : ∃ S, absS T i = S := ⟨_, rfl⟩
        have hS25 : S.length = 25 := by rw [← hSe, absS_len]
        have hSW : Ws S := hSe ▸ absS_W T i
        rw [hat] at hi ⊢
        rw [hSe] at hS
        have HAT := Lib.hid hat
        have HSE := Lib.hid hSe
        have HGK := Lib.hid hgk
        have hRT := hR7.kept hK (fun q hq => by subst hq; exact ⟨by omega, fun h => h⟩)
        by_cases hlt : at_ < N + 1
        · have hltI : (at_ : Int) < (N : Int) + 1 := by omega
          have hbig : at_ + 136 ≤ N + 1 := by have := HTN.out; have := HTl.out; have := HAT.out; omega
          clear hat hSe hgk hi
          go_wp2_with fail
          go_loopg [9] 17 (fun gk v wr => R3 w7 C S ((T.drop at_).take 136) gk v wr)
          case atStart => exact ⟨0, rfl, by omega, rfl, hS, hK⟩
          case round =>
            clear hS hK hRT
            obtain ⟨wx, rfl⟩ : ∃ wx : World, wx = wr := ⟨_, rfl⟩
            obtain ⟨i2, rfl, hi2, hgk2, hS, hK⟩ := hrel
            have hRT := hR7.kept hK (fun q hq => by subst hq; exact ⟨by omega, fun h => h⟩)
            have HGK2 := Lib.hid hgk2
            by_cases hlt2 : i2 < 17
            · have hlt2I : (i2 : Int) < 17 := by omega
              clear hgk2
              go_wp2_with fail
              go_loopg [10, 11] 8 (fun gk v v' wr => R4 wx T (at_ + 8 * i2) gk v v' wr)
              case atStart => exact ⟨0, 7, rfl, rfl, rfl, by omega, rfl, rfl⟩
              case round =>
                obtain ⟨m, z, rfl, rfl, hz, hm, hgk3, rfl⟩ := hrel
                have HGK3 := Lib.hid hgk3
                by_cases hlt3 : m < 8
                · obtain ⟨kk, rfl⟩ : ∃ kk : Nat, z = kk := ⟨7 - m, by omega⟩
                  have hcell : wx.cell? ⟨g6, at_ + 8 * i2 + kk, none⟩ = some (.int .u8 (gt T (at_ + 8 * i2 + kk))) := by
                    have h1 := hRT (by have := HTl.out; omega)
                    obtain ⟨ad, e, _, h⟩ := h1
                    injection e with e
                    subst e
                    have := h (at_ + 8 * i2 + kk) (by have := HTl.out; omega)
                    rwa [plus_head] at this
                  have hkk : kk = 7 - m := by omega
                  have HZ := Lib.hid hz
                  have HKK := Lib.hid hkk
                  have hlt3I : (m : Int) < 8 := by omega
                  have hkI : (0 : Int) ≤ (kk : Int) := by omega
                  have hk8 : kk < 8 := by omega
                  obtain ⟨y, hy⟩ : ∃ y, gt T (at_ + 8 * i2 + kk) = y := ⟨_, rfl⟩
                  have hyb : B8 y := hy ▸ HTB.out.gt _
                  have hy0 := hyb.1
                  have hy1 := hyb.2
                  rw [hy] at hcell
                  have HY := Lib.hid hy
                  obtain ⟨x, hx⟩ : ∃ x, wle T (at_ + 8 * i2) m = x := ⟨_, rfl⟩
                  have hx0 : 0 ≤ x := hx ▸ (wle_bd HTB.out _ _).1
                  rw [hx]
                  have HX := Lib.hid hx
                  clear hy hx hz hkk hgk3 hyb
                  go_wp2_with fail
                  go_roundg (8 - (m + 1))
                  case measure => have := HGK3.out; omega
                  case rel => exact ⟨m + 1, (kk : Int) - 1, by rw [wle_step HTB.out HKK.out hlt3 HX.out HY.out], rfl, by have := HZ.out; push_cast; omega, by omega, rfl, rfl⟩
                · have hzn : ¬ ((0 : Int) ≤ z) := by omega
                  obtain rfl : m = 8 := by omega
                  have hcl := hS.cell i2 (by rw [xorW_len]; omega)
                  have hfl := hS.free i2
                  have HZ := Lib.hid hz
                  clear hz hgk3
                  obtain ⟨x, hx⟩ : ∃ x, wle T (at_ + 8 * i2) 8 = x := ⟨_, rfl⟩
                  rw [hx]
                  have HX := Lib.hid hx
                  clear hx
                  go_wp2_with fail
                  go_roundg (17 - (i2 + 1))
                  case measure => have := HGK2.out; omega
                  case rel =>
                    refine ⟨i2 + 1, by go_num, by omega, rfl, ?_, hK.set C i2 _ (.inl (Nat.le_refl _))⟩
                    have h := hS.set i2 (bits .xor .u64 (gt (xorW S ((T.drop at_).take 136) i2) i2) x)
                    rw [xorW, wle_blk T at_ i2 hlt2 8 (Nat.le_refl _), HX.out]
                    exact h
            · have hlt2I : ¬ ((i2 : Int) < 17) := by omega
              have hi17 : i2 = 17 := by omega
              obtain ⟨L, hL⟩ : ∃ L, xorW S ((T.drop at_).take 136) i2 = L := ⟨_, rfl⟩
              have hLl : L.length = 25 := by rw [← hL, xorW_len, hS25]
              have hLw : Ws L := hL ▸ xorW_W _ hSW _
              have hfin : Hid (permute L = absS T (i + 1)) := by
                show permute L = _
                rw [absS, HSE.out, HAT.out, ← hL, hi17, ← mixN_xorW S _ hS25 hSW ((HTB.out.drop at_).take 136) 17 (Nat.le_refl _)]
              rw [hL] at hS
              have hrcx := (hN3.kept hK7 (by omega) (fun h => h)).kept hK (by omega) (fun h => h)
              have hltC := hS.lt
              clear hL hi17 hgk2
              go_wp2_with (first | (refine wpList_load_arr (o := ⟨some 81, _, _, _, _, _⟩) rfl 100 _ rfl rfl hS Tryd.underlying100 rfl 25 inf_a25 hLl ?_) | (refine wpList_load_arr (o := ⟨some 82, _, _, _, _, _⟩) rfl 98 _ rfl rfl hrcx Tryd.underlying98 rfl 24 inf_a24 rfl ?_))
              (with_reducible refine (fPermuteI_any L _ hLl hLw).mono ?_)
              rintro e wy ⟨rfl, hby⟩
              have hSy := hS.below hby hltC
              have hKy := hK.trans (S' := fun _ => False) (Kept.of_below hby) (by omega) (fun _ _ h => h)
              have hpl : (permute L).length = 25 := by rw [permute_len, hLl]
              obtain ⟨L2, hL2⟩ : ∃ L2, permute L = L2 := ⟨_, rfl⟩
              rw [hL2] at hpl hfin ⊢
              have HL2 := Lib.hid hL2
              clear hS hK hby hL2 hrcx hRT
              go_wp2_with (refine wpList_store_arr (o := ⟨none, _, _, _, _, _⟩) rfl 100 _ _ rfl rfl rfl hSy 25 inf_a25 hpl hLl ?_)
              go_roundg (T.length / 136 - (i + 1))
              case measure => have := HGK.out; have := HAT.out; have := HTl.out; omega
              case rel =>
                have h1 := hSy.setRow L2
                refine ⟨i + 1, ?_, ?_, rfl, by rw [← hfin.out]; exact h1, hKy.setRow C _ (.inl (Nat.le_refl _))⟩
                · have := HAT.out
                  rw [show (136 * (i + 1) : Nat) = at_ + 136 by omega]
                  push_cast; rfl
                · have := HAT.out; have := HTl.out; omega
        · have hltI : ¬ ((at_ : Int) < (N : Int) + 1) := by omega
          have hiq : i = T.length / 136 := by have := HTN.out; have := HTl.out; have := HAT.out; omega
          have hSn : S = newS l := by rw [newS, HTt.out, ← HSE.out, hiq]
          have HSn := Lib.hid hSn
          have hKall : Kept (B + 1) (fun _ => False) w3 wo := hK7.trans (S' := fun _ => False) hK (by omega) (fun _ _ h => h)
          have hwoC : C + 1 ≤ wo.heap.size := hS.lt
          clear hat hSe hgk hi hSn hRT hiq
          go_wp2_with fail
          go_loopg [12] (n / 136 + 1) (fun gk v wr => R5 wo C S n gk v wr)
          case atStart => exact ⟨0, none, 0, rfl, Own.nil _ _ _ _, hS, Kept.refl _ _ _, by omega, rfl⟩
          case round =>
            clear hS hK
            obtain ⟨wq, rfl⟩ : ∃ wq : World, wq = wr := ⟨_, rfl⟩
            obtain ⟨q, Ao, co, rfl, hO, hS, hK, hqn, hgk⟩ := hrel
            obtain ⟨m0, hm0⟩ : ∃ m0, 136 * q = m0 := ⟨_, rfl⟩
            obtain ⟨s, hs⟩ : ∃ s, iterP S q = s := ⟨_, rfl⟩
            have hsl : s.length = 25 := by rw [← hs, iterP_len hS25]
            have hsw : Ws s := hs ▸ iterP_W hSW q
            rw [hm0] at hO hqn ⊢
            rw [hs] at hS
            have HM0 := Lib.hid hm0
            have HSQ := Lib.hid hs
            have HGQ := Lib.hid hgk
            have hqC : C + 1 ≤ wq.heap.size := hS.lt
            by_cases hltn : m0 < n
            · have hltnI : (m0 : Int) < (n : Int) := by omega
              clear hm0 hs hgk
              go_wp2_with fail
              go_loopg [12, 13] 17 (fun gk v v' wr => R6 wq C S m0 gk v v' wr)
              case atStart => exact ⟨0, Ao, co, rfl, rfl, by omega, rfl, hO, Kept.refl _ _ _⟩
              case round =>
                clear hO
                obtain ⟨wi, rfl⟩ : ∃ wi : World, wi = wr := ⟨_, rfl⟩
                obtain ⟨i2, Ai, ci, rfl, rfl, hi2, hgk2, hO, hK6⟩ := hrel
                obtain ⟨m1, hm1⟩ : ∃ m1, m0 + 8 * i2 = m1 := ⟨_, rfl⟩
                rw [hm1] at hO ⊢
                have HM1 := Lib.hid hm1
                have HGK2 := Lib.hid hgk2
                have hSi := hS.kept hK6 (Nat.lt_succ_self C) (fun h => h)
                have hiC : C + 1 ≤ wi.heap.size := hSi.lt
                by_cases hlt2 : i2 < 17
                · have hlt2I : (i2 : Int) < 17 := by omega
                  have hcl := hSi.cell i2 (by omega)
                  obtain ⟨x, hx⟩ : ∃ x, gt s i2 = x := ⟨_, rfl⟩
                  rw [hx] at hcl
                  have hxw : W64 x := hx ▸ hsw.gt i2
                  have HX := Lib.hid hx
                  have HXW := Lib.hid hxw
                  clear hm1 hgk2 hx hxw
                  go_wp2_with fail
                  go_loopg [12, 14, 15] 8 (fun gk v v' v'' wr => R7 wi C S m1 x gk v v' v'' wr)
                  case atStart => exact ⟨0, Ai, ci, rfl, by simp, rfl, by omega, rfl, hO, Kept.refl _ _ _⟩
                  case round =>
                    clear hO
                    obtain ⟨k, Ak, ck, rfl, rfl, rfl, hk, hgk3, hO, hK7'⟩ := hrel
                    have HGK3 := Lib.hid hgk3
                    obtain ⟨y, hy⟩ : ∃ y, x / 2 ^ (8 * k) = y := ⟨_, rfl⟩
                    have hy0 : 0 ≤ y := by rw [← hy]; exact Int.ediv_nonneg HXW.out.1 (Int.pow_nonneg (by decide))
                    rw [hy]
                    have HY := Lib.hid hy
                    have hkC : C + 1 ≤ wr.heap.size := by have := hK7'.size; omega
                    by_cases hlt3 : k < 8
                    · have hlt3I : (k : Int) < 8 := by omega
                      clear hgk3 hy
                      have hO2 := hO.alloc (.cells (U .u8 [y % 256]) 5)
                      have hN2 := Rd.of_arr (B := wr.heap.size + 1) (Arr.new wr 5 .u8 [y % 256]) (by omega)
                      have hsb := sb_word HSQ.out hlt2 hlt3 HM0.out HM1.out HX.out HY.out
                      have HSB := Lib.hid (show seg S 0 (m1 + k) ++ [y % 256] = seg S 0 (m1 + (k + 1)) by rw [← hsb]; exact seg_snoc S (m1 + k))
                      have hmb : m1 + 8 ≤ 66000 := by have := HM1.out; omega
                      clear hsb
                      go_wp2_with (at_builtin; refine wpList_app rfl (.tmp 99) (.tmp 103) 24 5 .u8 1 rfl Tryd.underlying24 inf_u8 hO2 hN2 rfl rfl rfl (seg S 0 (m1 + (k + 1))) HSB.out (m1 + (k + 1)) (seg_len _ _ _) (by omega) (by omega) (by simp; omega) ?_; intro Ab cb wb hOb hgb hfb)
                      go_roundg (8 - (k + 1))
                      case measure => have := HGK3.out; omega
                      case rel =>
                        refine ⟨k + 1, Ab, cb, rfl, by rw [div_next HXW.out HY.out], by go_num, by omega, rfl, hOb, ?_⟩
                        exact (hK7'.alloc (.cells (U .u8 [y % 256]) 5) hkC).grew hO2 hgb (Nat.le_refl _) (by simp; omega)
                    · have hlt3I : ¬ ((k : Int) < 8) := by omega
                      have hk8 : m1 + k = m0 + 8 * (i2 + 1) := by have := HM1.out; omega
                      rw [hk8] at hO ⊢
                      clear hgk3 hy hk8
                      go_wp2_with fail
                      go_roundg (17 - (i2 + 1))
                      case measure => have := HGK2.out; omega
                      case rel => exact ⟨i2 + 1, Ak, ck, rfl, by go_num, by omega, rfl, hO, hK6.trans (S' := fun _ => False) hK7' (Nat.le_refl _) (fun _ _ h => h)⟩
                · have hlt2I : ¬ ((i2 : Int) < 17) := by omega
                  have hm17 : m1 = 136 * (q + 1) := by have := HM0.out; omega
                  rw [hm17] at hO ⊢
                  have hrcx := ((hN3.kept hKall (by omega) (fun h => h)).kept hK (by omega) (fun h => h)).kept hK6 (by omega) (fun h => h)
                  have HQ17 : Hid (136 * (q + 1) = m1) := hm17.symm
                  clear hm17 hgk2
                  go_wp2_with (first | (refine wpList_load_arr (o := ⟨some 107, _, _, _, _, _⟩) rfl 100 _ rfl rfl hSi Tryd.underlying100 rfl 25 inf_a25 hsl ?_) | (refine wpList_load_arr (o := ⟨some 108, _, _, _, _, _⟩) rfl 98 _ rfl rfl hrcx Tryd.underlying98 rfl 24 inf_a24 rfl ?_))
                  (with_reducible refine (fPermuteI_any s _ hsl hsw).mono ?_)
                  rintro e wy ⟨rfl, hby⟩
                  have hSy := hSi.below hby hSi.lt
                  have hOy := hO.below hby (Nat.le_refl _)
                  have hK5 := (hK.trans (S' := fun _ => False) (hK6.mono (S' := fun _ => False) (Nat.le_succ C) (fun _ _ h => h)) (Nat.le_refl _) (fun _ _ h => h)).trans (S' := fun _ => False) (Kept.of_below hby) (by omega) (fun _ _ h => h)
                  have hpl : (permute s).length = 25 := by rw [permute_len, hsl]
                  obtain ⟨L2, hL2⟩ : ∃ L2, permute s = L2 := ⟨_, rfl⟩
                  rw [hL2] at hpl ⊢
                  have HL2 := Lib.hid hL2
                  clear hS hK hK6 hSi hO hby hL2 hrcx
                  go_wp2_with (refine wpList_store_arr (o := ⟨none, _, _, _, _, _⟩) rfl 100 _ _ rfl rfl rfl hSy 25 inf_a25 hpl hsl ?_)
                  go_roundg (n / 136 + 1 - (q + 1))
                  case measure => have := HGQ.out; have := HM0.out; omega
                  case rel =>
                    have h1 := hSy.setRow L2
                    refine ⟨q + 1, Ai, ci, rfl, hOy.keep (fun g hg => setRow_other wy C g _ (by have := (hOy.lt g hg).1; omega)), by rw [iterP, HSQ.out, HL2.out]; exact h1, hK5.setRow C _ (.inl (Nat.le_refl _)), ?_, rfl⟩
                    have := HM0.out; omega
            · have hltnI : ¬ ((m0 : Int) < (n : Int)) := by omega
              have hlen := hO.len
              rw [seg_len] at hlen
              have hnm : (n : Int) ≤ (co : Int) := by omega
              have hn0 : (0 : Int) ≤ (n : Int) := by omega
              have hRd := hO.rd
              have hnc : n ≤ co := by omega
              have HNC := Lib.hid hnc
              clear hnc
              have hsub := seg_sub S 0 m0 0 n (by omega)
              rw [List.drop_zero, Nat.zero_add] at hsub
              have hR2 := hRd.take_ n
              rw [hsub, HSn.out] at hR2
              clear hsub hm0 hs hgk hlen hRd
              go_wp2_with fail
              go_ret
              refine ⟨Ao, co, rfl, hR2, HNC.out, ?_⟩
              exact ((hK3.trans (S' := fun _ => False) hKall (by omega) (fun _ _ h => h)).trans (S' := fun _ => False) hK (by omega) (fun _ _ h => h)).below
    · have ht : ¬ ((l.length : Int) + 1 + (j : Int)) % 136 = 0 := by omega
      have hb1 : ((((l.length : Int) + 1 + (j : Int)) % 136) != 0) = true := by simp; omega
      have hne : j ≠ padJ l := fun e => hlt (hat.2 e)
      have HGK := Lib.hid hgk
      clear hgk hat hL hjl
      have hN2 := Rd.of_arr (B := wr.heap.size + 1) (Arr.new wr 5 .u8 [0]) (by omega)
      have hO2 := hO.alloc (.cells (U .u8 [0]) 5)
      go_wp2_with (at_builtin; refine wpList_app rfl (.tmp 32) (.tmp 33) 24 5 .u8 1 rfl Tryd.underlying24 inf_u8 hO2 hN2 rfl rfl rfl (padZ l (j + 1)) (padZ_succ l j) (l.length + 1 + (j + 1)) (by rw [padZ_len]) (by have := HL.out; have := padJ_lt l; omega) (by have := HL.out; have := padJ_lt l; omega) (by simp; omega) ?_; intro Ab cb wb hOb hgb hfb)
      go_roundg (padJ l - (j + 1))
      case measure => have := HGK.out; omega
      case rel => exact ⟨j + 1, Ab, cb, rfl, by omega, rfl, hOb, (hK.alloc (.cells (U .u8 [0]) 5) hwl).grew hO2 hgb (Nat.le_refl _) (by simp; omega)⟩

theorem refsum_any (l : List Int) (A : Option Addr) (c B0 n : Nat) (w : World) (hr : Rd w B0 .u8 A l) (hB : B0 ≤ w.heap.size) (hl : l.length ≤ 100000000) (hn : n ≤ 65536) (hby0 : Bys l) :
    Calls Tryd.prog 66 #[.slice A l.length c, .int .i64 n] w (RefPost w l n) :=
  (refsumF_any l A c B0 n w hr hB hl hn hby0).mono fun e w' ⟨A', c', h1, h2, _, h3⟩ => ⟨A', c', h1, h2, h3⟩
end Go.Proofs.YtfaonieaagepjaaDoor

/- shake.Sum, and what is asked of it before a statement. Conditions: a text of at most 100000000 bytes; the tables. -/
namespace Go.Proofs.YtfaonieaagepjaaDoor
open Go.RowKit
set_option maxRecDepth 100000
set_option linter.unusedVariables false
set_option linter.unusedSimpArgs false

theorem newS_len (l : List Int) : (newS l).length = 25 := absS_len _ _
theorem newS_W (l : List Int) : Ws (newS l) := absS_W _ _
theorem rdr_of_new {w : World} {g c : Nat} {A : Option Addr} {s : List Int} (h2 : Two w g 107 .u64 s (.slice A 136 c)) (hO : Own w (g + 1) 5 .u8 (.slice A 136 c) (giveL s)) :
    ∃ rb, Rdr w 107 g rb s (giveL s) A c ∧ g < rb := by
  obtain ⟨rb, rfl, hn, h3, h4, h5⟩ := hO.where_ (by rw [giveL_len]; decide)
  refine ⟨rb, ⟨?_, h5, hO.rp, by omega, h4⟩, by omega⟩
  rw [giveL_len]; exact h2

theorem read_none (n : Int) (A : Option Addr) (w : World) (hn : n < 0 ∨ 65536 < n) :
    Calls Tryd.prog 71 #[.pointer A, .int .i64 n] w fun e w' => e = .returned (.slice none 0 0) ∧ w = w' := by
  go_enter Tryd.func71, Tryd.ntmps71
  rcases hn with h | h
  · go_wp2_with fail
    go_ret
    exact ⟨rfl, rfl⟩
  · have h' : ¬ n < 0 := by omega
    go_wp2_with fail
    go_ret
    exact ⟨rfl, rfl⟩
theorem refsum_none (n : Int) (v : Value) (w : World) (hn : n < 0 ∨ 65536 < n) :
    Calls Tryd.prog 66 #[v, .int .i64 n] w fun e w' => e = .returned (.slice none 0 0) ∧ w = w' := by
  go_enter Tryd.func66, Tryd.ntmps66
  rcases hn with h | h
  · go_wp2_with fail
    go_ret
    exact ⟨rfl, rfl⟩
  · have h' : ¬ n < 0 := by omega
    go_wp2_with fail
    go_ret
    exact ⟨rfl, rfl⟩

def SumPost (w : World) (l : List Int) (n : Nat) (e : Ending) (w' : World) : Prop :=
  ∃ A c, e = .returned (.slice A n c) ∧ Own w' w.heap.size 5 .u8 (.slice A n c) (seg (newS l) 0 n) ∧ Below w.heap.size w w'
theorem sum_any (l : List Int) (A : Option Addr) (c B n : Nat) (w : World) (hr : Rd w B .u8 A l) (hB : B ≤ w.heap.size) (hl : l.length ≤ 100000000) (hA : A = none → c = 0) (ht : KTab w) (hby0 : Bys l) (hn : n ≤ 65536) :
    Calls Tryd.prog 45 #[.slice A l.length c, .int .i64 n] w (SumPost w l n) := by
  have hz := World.block_lt_of_cell? w _ (ht.2 0 (by decide))
  have hz0 := World.block_lt_of_cell? w _ (ht.1 0 (by decide))
  have hz2 : 3 < w.heap.size := hz
  have hz3 : 4 < w.heap.size := hz0
  go_enter Tryd.func45, Tryd.ntmps45
  go_wp2_with fail
  (with_reducible refine (new_any l A c B w hr hB hl hA ht hby0).mono ?_)
  rintro e w1 ⟨g, A1, c1, rfl, hg, h2, hO, hb⟩
  obtain ⟨rb, hR, hrb⟩ := rdr_of_new h2 hO
  have hT1 := ht.below hb hz3 hz2
  have hsz := hb.size
  clear h2 hO
  go_wp2_with fail
  (with_reducible refine (read_any n g rb 0 (newS l) (newS l) (giveL (newS l)) A1 c1 w1 (newS_len l) (newS_W l) hn (At.start _) hR hT1 (by omega) (by omega)).mono ?_)
  rintro e w2 ⟨Ao, co, s', rest', A', c', rb', rfl, hO, _, _, _, hK⟩
  go_wp2_with fail
  go_ret
  refine ⟨Ao, co, rfl, hO.low hsz, ?_⟩
  exact ((Kept.of_below (S := fun _ => False) hb).trans (S := fun _ => False) hK hsz (fun k hk e => by subst e; omega)).below
theorem sum_none (l : List Int) (A : Option Addr) (c B : Nat) (n : Int) (w : World) (hr : Rd w B .u8 A l) (hB : B ≤ w.heap.size) (hl : l.length ≤ 100000000) (hA : A = none → c = 0) (ht : KTab w) (hby0 : Bys l) (hn : n < 0 ∨ 65536 < n) :
    Calls Tryd.prog 45 #[.slice A l.length c, .int .i64 n] w fun e w' => e = .returned (.slice none 0 0) ∧ Below w.heap.size w w' := by
  go_enter Tryd.func45, Tryd.ntmps45
  go_wp2_with fail
  (with_reducible refine (new_any l A c B w hr hB hl hA ht hby0).mono ?_)
  rintro e w1 ⟨g, A1, c1, rfl, hg, h2, hO, hb⟩
  clear h2 hO
  go_wp2_with fail
  (with_reducible refine (read_none n _ w1 hn).mono ?_)
  rintro e w2 ⟨rfl, rfl⟩
  go_wp2_with fail
  go_ret
  exact ⟨rfl, hb⟩

theorem same_true (w : World) (A A' : Option Addr) (l : List Int) (n c c' B B' : Nat) (hA : Rd w B .u8 A l) (hB : Rd w B' .u8 A' l) (hn : l.length = n) (hm : n ≤ 9223372036854775807) :
    Calls Tryd.prog 13 #[.slice A n c, .slice A' n c'] w fun e w' => e = .returned (.bool true) ∧ ∃ q, w' = w.drewN q := by
  subst hn
  have h := same_any w A A' l l c c' B B' hA hB hm
  rwa [decide_eq_true rfl] at h

def NewPost (w : World) (l : List Int) (e : Ending) (w' : World) : Prop :=
  ∃ (g rb : Nat) (A' : Option Addr) (c' : Nat), e = .returned (.pointer (some ⟨g, 0, none⟩)) ∧ w.heap.size ≤ g ∧ g < rb ∧ Rdr w' 107 g rb (newS l) (giveL (newS l)) A' c' ∧ Below w.heap.size w w'
theorem new_n (l : List Int) (A : Option Addr) (n c B : Nat) (w : World) (hr : Rd w B .u8 A l) (hB : B ≤ w.heap.size) (hl : l.length ≤ 100000000) (hA : A = none → c = 0) (ht : KTab w) (hby0 : Bys l) (hn : l.length = n) :
    Calls Tryd.prog 70 #[.slice A n c] w (NewPost w l) := by
  subst hn
  refine (new_any l A c B w hr hB hl hA ht hby0).mono ?_
  rintro e w1 ⟨g, A1, c1, rfl, hg, h2, hO, hb⟩
  obtain ⟨rb, hR, hrb⟩ := rdr_of_new h2 hO
  exact ⟨g, rb, A1, c1, rfl, hg, hrb, hR, hb⟩
theorem sum_n (l : List Int) (A : Option Addr) (m c B n : Nat) (w : World) (hr : Rd w B .u8 A l) (hB : B ≤ w.heap.size) (hl : l.length ≤ 100000000) (hA : A = none → c = 0) (ht : KTab w) (hby0 : Bys l) (hn : n ≤ 65536) (hm : l.length = m) (N : Int) (hN : N = n) :
    Calls Tryd.prog 45 #[.slice A m c, .int .i64 N] w (SumPost w l n) := by
  subst hm hN
  exact sum_any l A c B n w hr hB hl hA ht hby0 hn
/-- Read, its number told apart. -/
theorem read_n (N : Int) (n g rb0 p : Nat) (S s rest : List Int) (A : Option Addr) (c : Nat) (w : World) (hS : S.length = 25) (hSw : Ws S) (hn : n ≤ 65536) (hat : At S p s rest) (hr : Rdr w 107 g rb0 s rest A c) (ht : KTab w) (hg1 : g ≠ 3) (hg2 : g ≠ 4) (hN : N = n) :
    Calls Tryd.prog 71 #[.pointer (some ⟨g, 0, none⟩), .int .i64 N] w (ReadPost w g rb0 S p n) := by
  subst hN
  exact read_any n g rb0 p S s rest A c w hS hSw hn hat hr ht hg1 hg2

theorem Rd.marked (w : World) (T : Nat) (k : IntKind) (l : List Int) (fr : Nat × Nat) : Rd (w.alloc (.cells (U k l) T fr)) (w.heap.size + 1) k (some ⟨w.heap.size, 0, none⟩) l := fun hn =>
  ⟨_, rfl, Nat.lt_succ_self _, fun i hi => by rw [plus_head, World.cell?_alloc_mark w (U k l) T fr i, U_get k l i hi]⟩
theorem first4 : seg (newS []) 0 4 = [70, 185, 221, 43] := by decide +kernel
theorem first1 : seg (newS []) 0 1 = [70] := by
  have h := seg_sub (newS []) 0 4 0 1 (by decide)
  rw [first4] at h; simpa using h.symm
theorem next2 : seg (newS []) 1 2 = [185, 221] := by
  have h := seg_sub (newS []) 0 4 1 2 (by decide)
  rw [first4] at h; simpa using h.symm
end Go.Proofs.YtfaonieaagepjaaDoor
