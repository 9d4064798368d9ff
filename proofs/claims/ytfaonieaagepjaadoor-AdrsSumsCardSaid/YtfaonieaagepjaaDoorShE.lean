import Derived.Test.YtfaonieaagepjaaDoorZA
import Derived.Test.YtfaonieaagepjaaDoorShC
import Derived.Deep.DeepCutAuto
import Derived.Deep.CutBlock
namespace Go.Proofs.YtfaonieaagepjaaDoor
open Go.RowKit
set_option maxRecDepth 100000
set_option linter.unusedVariables false
set_option linter.unusedSimpArgs false

theorem gives_load_two {P : Program} {S : World → Prop} {o : Oper} {a : Act} {w : World} {g T : Nat} {k : IntKind} {s : List Int} {v : Value} {d : TypeDesc} (hS : S w)
    (ty : TypeId) (x : Operand) (ho : o.op = .load ty x) (hx : a.eval x = .pointer (some ⟨g, 0, none⟩)) (h : Two w g T k s v)
    (hu : P.underlying ty = some d) (hd : d.isRow = true) (n : Nat) (hi : (P.info? ty).map (·.size) = some n) (hn : s.length = n) :
    Gives P S o a (.agg (U k s)) w := by
  refine gives_value hS ?_
  unfold execOp
  simp only [ho, hx, Instr.loadAt, Instr.sureAddr, Sem.run_bind, Sem.run_pure, Result.andThen_ok, run_loadVar_mid w g 0 ty (nums k s) d h.range hu hd (by rw [nums_len, hn]; exact hi)]
  rfl
/-- A text with its end: one byte 31, zeros up to a whole block, and the last bit. -/
def padZ (l : List Int) (j : Nat) : List Int := l ++ [31] ++ List.replicate j 0
theorem padZ_len (l : List Int) (j : Nat) : (padZ l j).length = l.length + 1 + j := by simp [padZ]; omega
theorem padZ_succ (l : List Int) (j : Nat) : padZ l j ++ [0] = padZ l (j + 1) := by simp [padZ, List.replicate_succ']

theorem padZ_B {l : List Int} (h : Bys l) (j : Nat) : Bys (padZ l j) := (h.append (Bys.one (by constructor <;> decide))).append (Bys.rep _ B8.zero)
def padJ (l : List Int) : Nat := (136 - (l.length + 1) % 136) % 136
/-- The state behind i blocks of a text. -/
def absS (T : List Int) : Nat → List Int
  | 0 => List.replicate 25 0
  | i + 1 => permute (mixN (absS T i) ((T.drop (136 * i)).take 136) 136)
theorem absS_len (T : List Int) (i : Nat) : (absS T i).length = 25 := by
  induction i with
  | zero => simp [absS]
  | succ i ih => rw [absS, permute_len, mixN_len, ih]
theorem absS_W (T : List Int) (i : Nat) : Ws (absS T i) := by
  induction i with
  | zero => exact Ws.zeros 25
  | succ i ih => exact permute_W (mixN_W _ ih _)
theorem padJ_lt (l : List Int) : padJ l < 136 := by unfold padJ; omega
theorem padJ_at (l : List Int) (j : Nat) (h : j ≤ padJ l) : (padZ l j).length % 136 = 0 ↔ j = padJ l := by
  rw [padZ_len]; unfold padJ at *; omega

def textL (l : List Int) : List Int := st (padZ l (padJ l)) ((padZ l (padJ l)).length - 1) (bits .xor .u8 (gt (padZ l (padJ l)) ((padZ l (padJ l)).length - 1)) 128)
def newS (l : List Int) : List Int := absS (textL l) ((textL l).length / 136)
set_option maxRecDepth 100000 in
theorem new_any (l : List Int) (A : Option Addr) (c B : Nat) (w : World) (hr : Rd w B .u8 A l) (hB : B ≤ w.heap.size) (hl : l.length ≤ 100000000) (hA : A = none → c = 0) (ht : KTab w) (hby0 : Bys l) :
    Calls Tryd.prog 70 #[.slice A l.length c] w fun e w' => ∃ (g : Nat) (A' : Option Addr) (c' : Nat), e = .returned (.pointer (some ⟨g, 0, none⟩)) ∧ w.heap.size ≤ g ∧ Two w' g 107 .u64 (newS l) (.slice A' 136 c') ∧ Own w' (g + 1) 5 .u8 (.slice A' 136 c') (giveL (newS l)) ∧ Below w.heap.size w w' := by
  go_enter Tryd.func70, Tryd.ntmps70
  go_wp2_with fail
  obtain ⟨B0, hB0⟩ : ∃ B0, w.heap.size = B0 := ⟨_, rfl⟩
  have hz := World.block_lt_of_cell? w _ (ht.2 0 (by decide))
  have hz0 := World.block_lt_of_cell? w _ (ht.1 0 (by decide))
  rw [hB0] at hz hz0
  (with_reducible refine (clone_any l A c B w hr hB (by omega) hA).mono ?_)
  rintro e w1 ⟨A1, c1, rfl, hO1, hb1⟩
  have hK1 := Kept.of_below (S := fun _ => False) hb1
  rw [hB0] at hO1 hb1 hK1
  have hO2 := hO1.alloc (.cells (U .u8 [31]) 5)
  have hN2 := Arr.new w1 5 .u8 [31]
  have hK2 := hK1.alloc (.cells (U .u8 [31]) 5) (by have := hb1.size; omega)
  have hR2 := Rd.of_arr (B := w1.heap.size + 1) hN2 (by omega)
  have hm1 : l.length + 1 ≤ maxLen := Nat.le_trans (show l.length + 1 ≤ 200000000 by omega) (by decide)
  go_wp2_with (at_builtin; refine wpList_append_nums rfl _ _ 24 5 .u8 1 rfl Tryd.underlying24 inf_u8 hO2 hR2 rfl rfl rfl (by simp; omega) (by simpa using hm1) (by simp; have := hb1.size; omega) ?_; intro A3 c3 w3 hO3 hg3 hf3)
  have hK3 := hK2.grew hO2 hg3 (Nat.le_refl _) (by have := hK2.size; omega)
  simp only [List.length_cons, List.length_nil, Nat.zero_add] at hO3
  clear hO1 hO2 hN2 hK1 hK2 hR2 hg3 hf3 hb1
  have hB0' := Lib.hid hB0
  clear hB0
  have hmx : (200000000 : Nat) ≤ maxLen := by decide
  have HL := Lib.hid hl
  clear hl hm1
  go_loopw [3] (fun v wr => ∃ (m : List Int) (A : Option Addr) (c : Nat), v = .slice A m.length c ∧ (∃ j, m = padZ l j ∧ j ≤ padJ l) ∧ Own wr B0 5 .u8 (.slice A m.length c) m ∧ Kept B0 (fun _ => False) w wr) (fun v _ => (match v with | .slice _ n _ => (136 - n % 136) % 136 | _ => 0))
  case atStart => exact ⟨l ++ [31], A3, c3, by simp, ⟨0, by simp [padZ], Nat.zero_le _⟩, by simpa using hO3, hK3⟩
  case round =>
    clear hO3 hK3
    obtain ⟨m, A4, c4, rfl, hj, hO, hK⟩ := hrel
    have hmb : m.length ≤ 150000000 := by
      obtain ⟨j, rfl, h⟩ := hj
      rw [padZ_len]
      have := HL.out
      have := padJ_lt l
      omega
    have HJ := Lib.hid hj
    clear hj
    by_cases hlt : m.length % 136 = 0
    · have ht1 : (m.length : Int) % 136 = 0 := by omega
      have hm : m = padZ l (padJ l) := by
        obtain ⟨j, rfl, h⟩ := HJ.out
        rw [(padJ_at l j h).1 hlt]
      have hm0 : 0 < m.length := by rw [hm, padZ_len]; omega
      have HM := Lib.hid hm
      have HLT := Lib.hid hlt
      clear hlt hm
      obtain ⟨_, _, hv, hmc, _, _, hA4⟩ := hO.form
      injection hv with h1 _ h3
      subst h1 h3
      obtain ⟨g, rfl, hg0, hg1⟩ : ∃ g, A4 = some ⟨g, 0, none⟩ ∧ B0 ≤ g ∧ g < wr.heap.size := by
        rcases hA4 with rfl | h
        · obtain ⟨ad, h, _⟩ := hO.rd hm0; cases h
        · exact h
      obtain ⟨n, hn⟩ : ∃ n, m.length = n + 1 := ⟨m.length - 1, by omega⟩
      have hcl := hO.cell n (by omega)
      have hfl := hO.free n
      rw [hn] at hO ⊢
      go_wp2_with fail
      obtain ⟨T, hT⟩ : ∃ T, st m n (bits .xor .u8 (gt m n) 128) = T := ⟨_, rfl⟩
      have hTl : T.length = n + 1 := by rw [← hT, st_len, hn]
      have hO6 := (hn ▸ hO).stored n (bits .xor .u8 (gt m n) 128)
      have hK6 := hK.set g n (.int .u8 (bits .xor .u8 (gt m n) 128)) (.inl hg0)
      have hg1' : g < (wr.setCell ⟨g, n, none⟩ (.int .u8 (bits .xor .u8 (gt m n) 128))).heap.size := by simpa [World.setCell] using hg1
      obtain ⟨R, hR⟩ : ∃ R, wr.heap.size = R := ⟨_, rfl⟩
      have hsz : (wr.setCell ⟨g, n, none⟩ (.int .u8 (bits .xor .u8 (gt m n) 128))).heap.size = R := by simpa [World.setCell] using hR
      rw [hT] at hO6
      generalize wr.setCell ⟨g, n, none⟩ (.int .u8 (bits .xor .u8 (gt m n) 128)) = w6 at hO6 hK6 hg1' hsz ⊢
      rw [hR]
      have hTw : Two (w6.alloc (.cells (nums .u64 (List.replicate 25 0) ++ [Value.slice none 0 0]).toArray 107)) R 107 .u64 (List.replicate 25 0) (.slice none 0 0) := by
        rw [← hsz]; exact heap_alloc_new w6 _
      have hR7 := (hO6.rd.alloc (Nat.le_refl _) (.cells (nums .u64 (List.replicate 25 0) ++ [Value.slice none 0 0]).toArray 107))
      have hK7 := hK6.alloc (.cells (nums .u64 (List.replicate 25 0) ++ [Value.slice none 0 0]).toArray 107) (by omega)
      have hRR : ∀ w7, w7 = w6.alloc (.cells (nums .u64 (List.replicate 25 0) ++ [Value.slice none 0 0]).toArray 107) → Rd w7 R .u8 (some ⟨g, 0, none⟩) T := fun w7 e => by rw [e, ← hsz]; exact hR7
      obtain ⟨w7, hw7⟩ : ∃ w7, w6.alloc (.cells (nums .u64 (List.replicate 25 0) ++ [Value.slice none 0 0]).toArray 107) = w7 := ⟨_, rfl⟩
      have hR8 := hRR w7 hw7.symm
      rw [hw7] at hTw hK7
      change Code.wp _ _ _ _ (w6.alloc (.cells (nums .u64 (List.replicate 25 0) ++ [Value.slice none 0 0]).toArray 107))
      rw [hw7]
      have hBR : B0 ≤ R := by omega
      clear hRR hw7 hR7 hO6 hK6 hg1' hsz hO hK hg1 hcl hfl
      rw [← hTl]
      have HT := Lib.hid hT
      have HTL := Lib.hid hTl
      have HR := Lib.hid hR
      clear hT hTl hR ht1
      go_loopw [3] (fun v wr => ∃ (i : Nat) (A : Option Addr) (c : Nat), v = .slice A (T.drop (136 * i)).length c ∧ (T.drop (136 * i)).length ≤ c ∧ 136 * i ≤ T.length ∧ Rd wr R .u8 A (T.drop (136 * i)) ∧ Two wr R 107 .u64 (absS T i) (.slice none 0 0) ∧ Kept B0 (fun _ => False) w wr) (fun v _ => (match v with | .slice _ n _ => n | _ => 0))
      case atStart => exact ⟨0, some ⟨g, 0, none⟩, c4, by simp, by simp; have := HTL.out; omega, by omega, by simpa using hR8, hTw, hK7⟩
      case round =>
        clear hR8 hTw hK7
        obtain ⟨i, A7, c7, rfl, hc7, hi, hRd, hTw, hK⟩ := hrel
        have hTm : T.length % 136 = 0 := by have := HTL.out; have := HLT.out; omega
        obtain ⟨p, hp⟩ : ∃ p, T.drop (136 * i) = p := ⟨_, rfl⟩
        have hpl : p.length = T.length - 136 * i := by rw [← hp, List.length_drop]
        rw [hp] at hRd hc7 ⊢
        have HP := Lib.hid hp
        clear hp
        by_cases hpos : 0 < p.length
        · have hp136 : 136 ≤ p.length := by omega
          have hc136 : (136 : Int) ≤ c7 := by omega
          have HPL := Lib.hid hpl
          clear hpl
          go_wp2_with fail
          have hbl : (p.take 136).length = 136 := by simp; omega
          have hby : ∀ i, B8 (gt (p.take 136) i) := by
            have hT1 : Bys T := by rw [← HT.out, HM.out]; exact (padZ_B hby0 _).st _ (B8.bits _ _ _)
            rw [← HP.out]
            exact fun i => ((hT1.drop _).take _).gt i
          obtain ⟨S0, hS0⟩ : ∃ S0, absS T i = S0 := ⟨_, rfl⟩
          obtain ⟨S1, hS1⟩ : ∃ S1, absS T (i + 1) = S1 := ⟨_, rfl⟩
          have hS01 : permute (mixN S0 (p.take 136) 136) = S1 := by rw [← hS1, absS, HP.out, hS0]
          have hS0l : S0.length = 25 := by rw [← hS0, absS_len]
          have hS1l : S1.length = 25 := by rw [← hS1, absS_len]
          have hS0w : Ws S0 := hS0 ▸ absS_W T i
          rw [hS0] at hTw
          have HS1 := Lib.hid hS1
          clear hS0 hS1
          have KT : ∀ {w'}, Kept B0 (fun _ => False) w w' → KTab w' := fun h => ht.kept h (by omega) (by omega)
          refine wp_region_hold_tail 10 (fun w' => Rd w' R .u8 A7 p ∧ Two w' R 107 .u64 S0 (.slice none 0 0) ∧ Kept B0 (fun _ => False) w w') (by kernel_rfl) (by kernel_rfl) ⟨hRd.drew, hTw.drew, hK.drew⟩ ?_
          simp only [List.take_succ_cons, List.take_zero, List.drop_succ_cons, List.drop_zero]
          ((first | (refine wpHold_step ?_ ?_ ?_ ?_; rotate_left 1; focus (with_reducible rfl)) | (refine wpHold_yes ?_ ?_ ?_ ?_; rotate_left 1; focus rfl)); (focus (intro w hw; unfold Gives; go_simp; refine ⟨?_, hw⟩; with_reducible rfl)); (try simp only [Act.put, List.setIfInBounds_toArray, List.set_cons_zero, List.set_cons_succ]))
          ((first | (refine wpHold_step ?_ ?_ ?_ ?_; rotate_left 1; focus (with_reducible rfl)) | (refine wpHold_yes ?_ ?_ ?_ ?_; rotate_left 1; focus rfl)); (focus (intro w hw; unfold Gives; go_simp; refine ⟨?_, hw⟩; with_reducible rfl)); (try simp only [Act.put, List.setIfInBounds_toArray, List.set_cons_zero, List.set_cons_succ]))
          ((first | (refine wpHold_step ?_ ?_ ?_ ?_; rotate_left 1; focus (with_reducible rfl)) | (refine wpHold_yes ?_ ?_ ?_ ?_; rotate_left 1; focus rfl)); (focus (intro w hw; unfold Gives; go_simp; refine ⟨?_, hw⟩; with_reducible rfl)); (try simp only [Act.put, List.setIfInBounds_toArray, List.set_cons_zero, List.set_cons_succ]))
          ((first | (refine wpHold_step ?_ ?_ ?_ ?_; rotate_left 1; focus (with_reducible rfl)) | (refine wpHold_yes ?_ ?_ ?_ ?_; rotate_left 1; focus rfl)); (focus (intro w hw; unfold Gives; go_simp; refine ⟨?_, hw⟩; with_reducible rfl)); (try simp only [Act.put, List.setIfInBounds_toArray, List.set_cons_zero, List.set_cons_succ]))
          ((first | (refine wpHold_step (.agg (U .u64 (S0))) ?_ ?_ ?_; focus (with_reducible rfl)) | (refine wpHold_yes (.agg (U .u64 (S0))) ?_ ?_ ?_; focus rfl)); (focus (intro w hw; exact gives_load_two hw 100 _ rfl rfl (hw.2.1) Tryd.underlying100 rfl 25 inf_a25 hS0l)); (try simp only [Act.put, List.setIfInBounds_toArray, List.set_cons_zero, List.set_cons_succ]))
          ((first | (refine wpHold_step ?_ ?_ ?_ ?_; rotate_left 1; focus (with_reducible rfl)) | (refine wpHold_yes ?_ ?_ ?_ ?_; rotate_left 1; focus rfl)); (focus (intro w hw; unfold Gives; go_simp; refine ⟨?_, hw⟩; with_reducible rfl)); (try simp only [Act.put, List.setIfInBounds_toArray, List.set_cons_zero, List.set_cons_succ]))
          ((first | (refine wpHold_step ?_ ?_ ?_ ?_; rotate_left 1; focus (with_reducible rfl)) | (refine wpHold_yes ?_ ?_ ?_ ?_; rotate_left 1; focus rfl)); (focus (intro w hw; unfold Gives; go_simp; refine ⟨?_, hw⟩; with_reducible rfl)); (try simp only [Act.put, List.setIfInBounds_toArray, List.set_cons_zero, List.set_cons_succ]))
          ((first | (refine wpHold_step (.agg (U .u64 (S1))) ?_ ?_ ?_; focus (with_reducible rfl)) | (refine wpHold_yes (.agg (U .u64 (S1))) ?_ ?_ ?_; focus rfl)); (focus (intro w hw; unfold Gives; go_simp; exact (mix_any S0 (p.take 136) A7 136 w hS0l hS0w hbl ((hw.1.take_ 136).more (by have := hw.2.1.lt; omega)) hby (KT hw.2.2)).mono fun e w' ⟨h1, h2⟩ => ⟨by rw [h1, hS01], hw.1.below (h2.mono (by have := hw.2.1.lt; omega)), hw.2.1.below h2 hw.2.1.lt, hw.2.2.trans (S' := fun _ => False) (Kept.of_below h2) (by have := hw.2.1.lt; omega) (fun _ _ h => h)⟩)); (try simp only [Act.put, List.setIfInBounds_toArray, List.set_cons_zero, List.set_cons_succ]))
          ((first | (refine wpHold_step ?_ ?_ ?_ ?_; rotate_left 1; focus (with_reducible rfl)) | (refine wpHold_yes ?_ ?_ ?_ ?_; rotate_left 1; focus rfl)); (focus (intro w hw; unfold Gives; go_simp; refine ⟨?_, hw⟩; with_reducible rfl)); (try simp only [Act.put, List.setIfInBounds_toArray, List.set_cons_zero, List.set_cons_succ]))
          ((first | (refine wpHold_step ?_ ?_ ?_ ?_; rotate_left 1; focus (with_reducible rfl)) | (refine wpHold_yes ?_ ?_ ?_ ?_; rotate_left 1; focus rfl)); (focus (intro w hw; unfold Gives; go_simp; refine ⟨?_, hw⟩; with_reducible rfl)); (try simp only [Act.put, List.setIfInBounds_toArray, List.set_cons_zero, List.set_cons_succ]))
          refine wpHold_nil ?_
          intro w' ⟨hRd1, hTw1, hK1⟩
          go_wp2_with (refine wpList_store_two rfl 100 _ _ rfl rfl rfl hTw1 25 inf_a25 hS0l hS1l ?_)
          have hd : T.drop (136 * (i + 1)) = p.drop 136 := by rw [← HP.out, List.drop_drop]; rfl
          have hcut := hRd1.cut 136 p.length p.length (Nat.le_refl _) (Nat.le_refl _)
          rw [List.take_length] at hcut
          have hi2 : 136 * (i + 1) ≤ T.length := by have := HPL.out; omega
          have hl2 : (p.drop 136).length = p.length - 136 := by simp
          refine ⟨⟨i + 1, _, p.length - 136, by rw [hd, hl2], by rw [hd, hl2]; exact Nat.le_refl _, hi2, ?_, by rw [HS1.out]; exact hTw1.setNums (by rw [hS0l, hS1l]), hK1.setCells _ _ _ (.inl hBR)⟩, ?_⟩
          · rw [hd]
            have he : (if p.length = 136 then A7 else Option.map (fun x : Addr => ({ block := x.block, off := x.off + 136, spot := none } : Addr)) A7) = (if p.length = 136 then A7 else A7.map (·.add 136)) := by
              congr 1
            rw [he]
            refine hcut.keep fun q hq => ?_
            exact World.cell?_of_block ((setCells_else (g := R) (nums .u64 S1) 0 w').2.2.2.2 q.block (by omega))
          · show p.length - 136 < p.length
            omega
        · have hpos' : ¬ ((0 : Int) < p.length) := by omega
          have hp0 : p.length = 0 := by omega
          have hT1 : T = textL l := by rw [← HT.out, textL, ← HM.out, show m.length - 1 = n by omega]
          have hS : absS T i = newS l := by
            have hiq : i = T.length / 136 := by omega
            rw [newS, ← hT1, hiq]
          obtain ⟨S0, hS0⟩ : ∃ S0, absS T i = S0 := ⟨_, rfl⟩
          have hS0l : S0.length = 25 := by rw [← hS0, absS_len]
          have hS0w : Ws S0 := hS0 ▸ absS_W T i
          rw [hS0] at hTw hS
          have HS := Lib.hid hS
          clear hS hS0 hT1
          go_wp2_with (refine wpList_load_two rfl 100 _ rfl rfl hTw Tryd.underlying100 rfl 25 inf_a25 hS0l ?_)
          (with_reducible refine (give_any S0 wr hS0l hS0w).mono ?_)
          rintro e w9 ⟨A9, c9, rfl, hO9, hb9⟩
          have hltR := hTw.lt
          have hTw9 := hTw.below hb9 hltR
          have hK9 := hK.trans (S' := fun _ => False) (Kept.of_below hb9) (by omega) (fun _ _ h => h)
          rw [giveL_len] at hO9 ⊢
          have hl9 := hTw9.last
          have hf9 := hTw9.free 25
          rw [hS0l] at hl9
          clear hTw hK hb9 hRd
          go_wp2_with fail
          go_ret
          have hTw10 := hTw9.setLast (v' := .slice A9 136 c9)
          rw [hS0l] at hTw10
          refine ⟨R, A9, c9, rfl, by rw [hB0'.out]; exact hBR, by rw [← HS.out]; exact hTw10, ?_, by rw [hB0'.out]; exact (hK9.set R 25 _ (.inl hBR)).below⟩
          rw [← HS.out]
          exact (hO9.low (by omega)).other R 25 _ (fun q hq => by have := (hO9.lt q hq).1; omega)
    · have ht1 : (((m.length : Int) % 136) != 0) = true := by simp; omega
      have HLT := Lib.hid hlt
      clear hlt
      have hO2 := hO.alloc (.cells (U .u8 [0]) 5)
      have hN2 := Arr.new wr 5 .u8 [0]
      have hK2 := hK.alloc (.cells (U .u8 [0]) 5) (by have := hK.size; have := hB0'.out; omega)
      have hR2 := Rd.of_arr (B := wr.heap.size + 1) hN2 (by omega)
      go_wp2_with (at_builtin; refine wpList_append_nums rfl _ _ 24 5 .u8 1 rfl Tryd.underlying24 inf_u8 hO2 hR2 rfl rfl rfl (by simp; omega) (by simp; omega) (by simp; have := hK.size; have := hB0'.out; omega) ?_; intro A5 c5 w5 hO5 hg5 hf5)
      have hK5 := hK2.grew hO2 hg5 (Nat.le_refl _) (by have := hK2.size; have := hB0'.out; omega)
      simp only [List.length_cons, List.length_nil, Nat.zero_add] at hO5
      refine ⟨⟨m ++ [0], A5, c5, by simp, ?_, by simpa using hO5, hK5⟩, ?_⟩
      · obtain ⟨j, rfl, h⟩ := HJ.out
        refine ⟨j + 1, padZ_succ l j, ?_⟩
        have : ¬ j = padJ l := fun e => HLT.out ((padJ_at l j h).2 e)
        omega
      · have := HLT.out
        simp
        omega

end Go.Proofs.YtfaonieaagepjaaDoor
