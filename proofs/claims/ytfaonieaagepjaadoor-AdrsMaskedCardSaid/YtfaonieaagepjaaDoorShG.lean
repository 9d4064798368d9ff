/- (*Reader).Read: from where the reader stands on, as many bytes as are asked for. Conditions: the reader's state and rest stand at a place of a row; the tables. -/
import Derived.Test.YtfaonieaagepjaaDoorShF
import Derived.Deep.RegionHeld3
import Derived.Deep.RegionLaw
import Derived.Deep.LoopGhost
namespace Go.Proofs.YtfaonieaagepjaaDoor
open Go.RowKit
set_option maxRecDepth 100000
set_option linter.unusedVariables false
set_option linter.unusedSimpArgs false

theorem KTab.keptS {w w' : World} {B : Nat} {S : Nat → Prop} (h : KTab w) (hk : Kept B S w w') (h0 : 4 < B) (h1 : 3 < B) (hs0 : ¬ S 4) (hs1 : ¬ S 3) : KTab w' :=
  ⟨h.1.kept hk h0 hs0, h.2.kept hk h1 hs1⟩
/-- Between the rounds. -/
def RL (w0 : World) (B g rb0 : Nat) (S : List Int) (p n : Nat) (gk : Nat) (v : Value) (w : World) : Prop :=
  ∃ (j : Nat) (Ao : Option Addr) (co : Nat) (s rest : List Int) (A : Option Addr) (c rb : Nat), v = .slice Ao j co ∧ j ≤ n ∧ Own w B 5 .u8 (.slice Ao j co) (seg S p j) ∧ At S (p + j) s rest ∧
    Rdr w 107 g rb s rest A c ∧ (rb = rb0 ∨ B ≤ rb) ∧ (∀ q, (Value.slice Ao j co).ownBlock = some q → q ≠ rb ∧ q ≠ g) ∧ Kept B (· = g) w0 w ∧ gk = 2 * (n - j) + (if rest.length = 0 then 1 else 0)

/-- Behind the append. -/
def RM (w0 : World) (B g rb0 : Nat) (S : List Int) (p n j : Nat) (v : Value) (w : World) : Prop :=
  ∃ (Ao : Option Addr) (co : Nat) (s rest : List Int) (A : Option Addr) (c rb : Nat), v = .slice Ao j co ∧ Own w B 5 .u8 (.slice Ao j co) (seg S p j) ∧ At S (p + j) s rest ∧
    Rdr w 107 g rb s rest A c ∧ (rb = rb0 ∨ B ≤ rb) ∧ (∀ q, (Value.slice Ao j co).ownBlock = some q → q ≠ rb ∧ q ≠ g) ∧ Kept B (· = g) w0 w ∧ (j = n ∨ rest.length = 0)

theorem RM_close {w0 w w' : World} {B g rb0 n j k co c c' rb p : Nat} {S s rest : List Int} {Ao A A' A2 : Option Addr} {c2 : Nat} (hj : Own w B 5 .u8 (.slice Ao j co) (seg S p j)) (hat : At S (p + j) s rest)
    (hS : S.length = 25) (hR : Rdr w 107 g rb s rest A c) (hrb : rb = rb0 ∨ B ≤ rb) (hob : ∀ q, (Value.slice Ao j co).ownBlock = some q → q ≠ rb ∧ q ≠ g) (hK : Kept B (· = g) w0 w) (hkr : k ≤ rest.length) (hkn : j + k = n ∨ k = rest.length) (hBw : B ≤ w.heap.size)
    (hO1 : Own w' B 5 .u8 (.slice A' ((seg S p j).length + (rest.take k).length) c') (seg S p j ++ rest.take k)) (hg1 : w.drew.grownBy w' (Value.slice Ao j co).ownBlock)
    (hf1 : (Value.slice A' ((seg S p j).length + (rest.take k).length) c').ownBlock = (Value.slice Ao j co).ownBlock ∨ (Value.slice A' ((seg S p j).length + (rest.take k).length) c').ownBlock = some w.drew.heap.size)
    (h2 : (c = k ∧ A2 = A ∧ c2 = 0) ∨ (c ≠ k ∧ A2 = A.map (·.add k) ∧ c2 = c - k)) :
    RM w0 B g rb0 S p n (j + k) (.slice A' ((seg S p j).length + k) c') (w'.setCell ⟨g, 25, none⟩ (.slice A2 (rest.length - k) c2)) := by
  have hlt : (rest.take k).length = k := by simp; omega
  rw [hlt, seg_len] at hO1 hf1
  rw [seg_len]
  rw [hat.take k hkr, seg_append] at hO1
  have hs25 := hat.slen hS
  have hgw : g < w.heap.size := hR.two.lt
  have hbk : ∀ q, (Value.slice A' (j + k) c').ownBlock = some q → q ≠ rb ∧ q ≠ g := fun q hq => by
    rcases hf1 with h | h
    · exact hob q (h ▸ hq)
    · rw [h] at hq; injection hq with hq
      have hd : w.drew.heap.size = w.heap.size := rfl
      have := hR.lt
      omega
  have hTw := hR.two.drew.grown hg1 (fun e => (hob g e).2 rfl)
  have hrd := Rp.grown (w := w.drew) (S := (· = rb)) (k := .u8) (A := A) (l := rest) hR.rd hg1 (fun q hq => by subst hq; exact ⟨hR.lt, fun e => (hob q e).1 rfl⟩)
  have htl := hrd.tail k c hR.cap
  have hc1 := hR.cap
  have e2 : A2 = (if c = k then A else A.map (·.add k)) ∧ c2 = c - k := by
    rcases h2 with ⟨a, b, d⟩ | ⟨a, b, d⟩
    · rw [if_pos a]; exact ⟨b, by omega⟩
    · rw [if_neg a]; exact ⟨b, d⟩
  obtain ⟨rfl, rfl⟩ := e2
  refine ⟨A', c', s, rest.drop k, (if c = k then A else A.map (·.add k)), c - k, rb, rfl, ?_, by rw [← Nat.add_assoc]; exact hat.drop k hkr, ⟨?_, by simp; omega, ?_, hR.ne, ?_⟩, hrb, hbk, ?_, ?_⟩
  · exact hO1.other g 25 _ (fun q hq => (hbk q hq).2)
  · have := hTw.setLast (v' := .slice (if c = k then A else A.map (·.add k)) (rest.length - k) (c - k))
    rw [hs25] at this
    rw [List.length_drop]
    exact this
  · refine htl.keep fun q hq => ?_
    exact World.cell?_setCell_other _ _ _ _ (fun e => hR.ne (by rw [← hq, ← e]))
  · have := hR.lt; have hsz : w.heap.size ≤ w'.heap.size := hg1.size; simp [World.setCell]; omega
  · refine Kept.set ?_ g 25 _ (.inr rfl)
    exact hK.drew.grown hg1 hBw (fun q hq => .inl ((hj.lt q hq).1))
  · rcases hkn with h | h
    · exact .inl h
    · exact .inr (by rw [List.length_drop]; omega)

def ReadPost (w : World) (g rb0 : Nat) (S : List Int) (p n : Nat) (e : Ending) (w' : World) : Prop :=
  ∃ Ao co s' rest' A' c' rb, e = .returned (.slice Ao n co) ∧ Own w' w.heap.size 5 .u8 (.slice Ao n co) (seg S p n) ∧
      At S (p + n) s' rest' ∧ Rdr w' 107 g rb s' rest' A' c' ∧ (rb = rb0 ∨ w.heap.size ≤ rb) ∧ Kept w.heap.size (· = g) w w'
set_option maxRecDepth 100000 in
set_option maxHeartbeats 2000000 in
theorem read_any (n g rb0 p : Nat) (S s rest : List Int) (A : Option Addr) (c : Nat) (w : World) (hS : S.length = 25) (hSw : Ws S) (hn : n ≤ 65536) (hat : At S p s rest) (hr : Rdr w 107 g rb0 s rest A c) (ht : KTab w) (hg1 : g ≠ 3) (hg2 : g ≠ 4) :
    Calls Tryd.prog 71 #[.pointer (some ⟨g, 0, none⟩), .int .i64 n] w (ReadPost w g rb0 S p n) := by
  have hz := World.block_lt_of_cell? w _ (ht.2 0 (by decide))
  have hz0 := World.block_lt_of_cell? w _ (ht.1 0 (by decide))
  have hgB := hr.two.lt
  have hrB := hr.lt
  have hnI : (n : Int) ≤ 65536 := by omega
  have hmx : (65536 : Nat) ≤ maxLen := by decide
  have hz2 : 3 < w.heap.size := hz
  have hz3 : 4 < w.heap.size := hz0
  go_enter Tryd.func71, Tryd.ntmps71
  go_wp2_with (refine wpList_make_nums rfl _ _ 24 rfl 5 .u8 1 Tryd.underlying24 inf_u8 .i64 .i64 0 n 0 n rfl rfl rfl rfl (by omega) (by omega) (by omega) ?_; intro w1 hw1)
  have hO1 : Own w1 w.heap.size 5 .u8 (.slice (some ⟨w.heap.size, 0, none⟩) 0 n) [] := by
    rw [hw1.out]
    exact Own.room w (U .u8 (List.replicate n 0)) n (Nat.le_refl _) (by omega) (by simp [U_size])
  have hK1 : Kept w.heap.size (· = g) w w1 := by rw [hw1.out]; exact (Kept.refl _ _ _).alloc _ (Nat.le_refl _)
  have hR1 := hr.kept ((Kept.refl w.heap.size (fun _ => False) w).alloc (.cells (U .u8 (List.replicate n 0)) 5) (Nat.le_refl _)) (Nat.le_refl _) (fun x => x) (fun x => x)
  rw [← hw1.out] at hR1
  obtain ⟨B, hB⟩ : ∃ B, w.heap.size = B := ⟨_, rfl⟩
  rw [hB] at hO1 hK1 hgB hrB hz2 hz3 ⊢
  have KT : ∀ {w'}, Kept B (· = g) w w' → KTab w' := fun h => ht.keptS h hz3 hz2 (fun e => hg2 e.symm) (fun e => hg1 e.symm)
  have HB := Lib.hid hB
  clear hB hw1 hz hz0 hr
  go_loopg [5] (2 * n + (if rest.length = 0 then 1 else 0)) (fun gk v wr => RL w B g rb0 S p n gk v wr)
  case atStart => exact ⟨0, some ⟨B, 0, none⟩, n, s, rest, A, c, rb0, rfl, Nat.zero_le _, hO1, hat, hR1, .inl rfl, fun q hq => by have h : some B = some q := hq; injection h with h; omega, hK1, rfl⟩
  case round =>
    clear hO1 hK1 hR1 hat s rest A c hrB
    obtain ⟨j, Ao, co, s, rest, A, c, rb, rfl, hj, hO, hat, hR, hrb, hob, hK, hgk⟩ := hrel
    have hjI : (j : Int) ≤ n := by omega
    have hl := hR.two.last
    rw [hat.slen hS] at hl
    have hc1 := hR.cap
    have hfr := hR.two.free 25
    have hBw : B ≤ wr.heap.size := by have := hK.size; have := HB.out; omega
    have hl136 := hat.len
    have HK := Lib.hid hgk
    clear hgk
    obtain ⟨d, hd⟩ : ∃ d : Nat, (n : Int) - (j : Int) = (d : Int) := ⟨n - j, by omega⟩
    have hnd : n = j + d := by omega
    have HND := Lib.hid hnd
    clear hnd
    obtain ⟨k, hk⟩ : ∃ k : Nat, min d rest.length = k := ⟨_, rfl⟩
    have hkd : k ≤ d := by omega
    have hkr : k ≤ rest.length := by omega
    have HMN := Lib.hid hk
    have hkn := Lib.hid (show j + k = n ∨ k = rest.length by have := HND.out; omega)
    have hmeas := Lib.hid (show j + k = n ∨ (2 * (n - (j + k)) < gk ∧ j + k < n) by have := HND.out; have := HK.out; split at this <;> omega)
    clear hk
    go_upto_region 5 with (refine wpList_min_nat (o := ⟨some 24, _, _, _, _, _⟩) rfl _ _ _ rfl d rest.length k rfl rfl HMN.out ?_)
    have hk0 : (0 : Int) ≤ (k : Int) := by omega
    have hkc : (k : Int) ≤ (c : Int) := by omega
    have hkl : (k : Int) ≤ (rest.length : Int) := by omega
    have hO' := hO.drew
    have hRd' := (hR.rd.take_ k).rd (B := wr.heap.size) (fun q hq => by subst hq; exact hR.lt)
    have hlen : (seg S p j).length = j := seg_len _ _ _
    have hlt : (rest.take k).length = k := by simp; omega
    have HO := Lib.hid hO'
    have HRd := Lib.hid hRd'
    have HLEN := Lib.hid hlen
    have HLT := Lib.hid hlt
    have HLM := Lib.hid (show ((seg S p j).length + (rest.take k).length) * 1 ≤ 140737488355328 by rw [hlen, hlt]; have := HND.out; omega)
    have HMX := Lib.hid (show (seg S p j).length + (rest.take k).length ≤ maxLen by rw [hlen, hlt]; have := HND.out; omega)
    have hgw : g < wr.heap.size := hR.two.lt
    have hgo : ∀ q, (Value.slice Ao j co).ownBlock = some q → q ≠ g := fun q hq => (hob q hq).2
    clear hO' hRd' hlen hlt
    go_cut [5] (fun v wx => RM w B g rb0 S p n (j + k) v wx)
    case first =>
      go_region_law (refine step_append_nums (by rfl) _ _ 24 5 .u8 1 (by rfl) Tryd.underlying24 inf_u8 HO.out HRd.out (by rfl) (by rfl) HLT.out HLM.out HMX.out hBw ?_; intro A' c' w' hO1 hg1 hf1; have hl1 := (World.cell?_of_block (hg1.block g hgw (fun e => hgo g e.symm rfl))).trans hl; have hfr1 := (hR.two.drew.grown hg1 (fun e => hgo g e rfl)).free 25)
      all_goals go_wp2_with fail
      all_goals go_meet
      all_goals first | exact RM_close hO hat hS hR hrb hob hK hkr hkn.out hBw hO1 hg1 hf1 (.inl ⟨‹_›, rfl, rfl⟩) | exact RM_close hO hat hS hR hrb hob hK hkr hkn.out hBw hO1 hg1 hf1 (.inr ⟨‹_›, rfl, rfl⟩)
    case rest =>
      clear hO hat hR hrb hob hK hjI hl hc1 hfr hl136 HO HRd HLEN HLT hgw hgo hk0 hkc hkl hkr hkd
      obtain ⟨Ao, co, s, rest, A, c, rb, rfl, hO, hat, hR, hrb, hob, hK, hdone⟩ := hcut
      obtain ⟨jk, hjk⟩ : ∃ jk, j + k = jk := ⟨_, rfl⟩
      rw [hjk] at hO hat hob hdone hmeas ⊢
      clear hjk hkn HMN HND hd
      have hHR := Lib.hid hR
      by_cases he : jk = n
      · subst he
        clear hR
        go_wp2_with fail
        go_ret
        unfold ReadPost
        rw [HB.out]
        exact ⟨Ao, co, s, rest, A, c, rb, rfl, hO, hat, hHR.out, hrb, hK⟩
      · have hr0 : rest.length = 0 := by omega
        have hb1 : ((jk : Int) == (n : Int)) = false := beq_eq_false_iff_ne.2 (by omega)
        have hat2 := hat.next hr0
        have hsl := hat.slen hS
        have hsw := hat.sW hSw
        have htw := hR.two
        have HR0 := Lib.hid hr0
        clear hr0 hR hat
        go_wp2_with (refine wpList_load_two (o := ⟨some 51, _, _, _, _, _⟩) rfl 100 _ rfl rfl htw Tryd.underlying100 rfl 25 inf_a25 hsl ?_)
        have hltC : g < wc.heap.size := htw.lt
        have hBc : B ≤ wc.heap.size := by have := hK.size; have := HB.out; omega
        (with_reducible refine (permute_any s wc hsl hsw (KT hK) (by omega) (by omega)).mono ?_)
        rintro e w8 ⟨rfl, hb8⟩
        have hTw8 := htw.below hb8 hltC
        have hK8 := hK.trans (S' := fun _ => False) (Kept.of_below hb8) hBc (fun _ _ h => h.elim)
        have hO8 := hO.below hb8 (Nat.le_refl _)
        have hpl : (permute s).length = 25 := by rw [permute_len, hsl]
        have hpw : Ws (permute s) := permute_W hsw
        obtain ⟨s8, hs8⟩ : ∃ s8, permute s = s8 := ⟨_, rfl⟩
        rw [hs8] at hpl hpw hat2 ⊢
        clear htw hK hO hb8 hs8 hHR
        go_wp2_with (first | (refine wpList_store_two (o := ⟨none, _, _, _, _, _⟩) rfl 100 _ _ rfl rfl rfl hTw8 25 inf_a25 hsl hpl ?_) | (refine wpList_load_two (o := ⟨some 59, _, _, _, _, _⟩) rfl 100 _ rfl rfl (hTw8.setNums (s' := s8) (by rw [hsl, hpl])) Tryd.underlying100 rfl 25 inf_a25 hpl ?_))
        have hTw9 := hTw8.setNums (s' := s8) (by rw [hsl, hpl])
        have hK9 := hK8.setCells g 0 (nums .u64 s8) (.inr rfl)
        have hO9 : Own (w8.setCells g 0 (nums .u64 s8)) B 5 .u8 (.slice Ao jk co) (seg S p jk) := hO8.keep fun q hq => (setCells_else (g := g) (nums .u64 s8) 0 w8).2.2.2.2 q (hob q hq).2
        generalize w8.setCells g 0 (nums .u64 s8) = w9 at hTw9 hK9 hO9 ⊢
        clear hTw8 hK8 hO8 hltC hBc
        have hlt9 : g < w9.heap.size := hTw9.lt
        (with_reducible refine (give_any s8 w9 hpl hpw).mono ?_)
        rintro e wa ⟨Aa, ca, rfl, hOa, hba⟩
        have hTwa := hTw9.below hba hlt9
        have hB9 : B ≤ w9.heap.size := by have := hK9.size; have := HB.out; omega
        have hKa := hK9.trans (S' := fun _ => False) (Kept.of_below hba) hB9 (fun _ _ h => h.elim)
        have hObl := hO9.lt
        have hOw := hO9.below hba (Nat.le_refl _)
        have hlw := hTwa.last
        have hfw := hTwa.free 25
        rw [hpl] at hlw
        have hgl := giveL_len s8
        have hla := hOa.len
        obtain ⟨_, _, hva, hca, _, _, hga⟩ := hOa.form
        injection hva with h1 _ h3
        subst h1 h3
        obtain ⟨L8, hL8⟩ : ∃ L8, giveL s8 = L8 := ⟨_, rfl⟩
        rw [hL8] at hOa hgl hla hat2 hca ⊢
        obtain ⟨ga, hga1, hga2, hga3⟩ : ∃ ga, Aa = some ⟨ga, 0, none⟩ ∧ w9.heap.size ≤ ga ∧ ga < wa.heap.size := by
          rcases hga with rfl | h
          · obtain ⟨ad, h, _⟩ := hOa.rd (by omega); cases h
          · exact h
        have HGA := Lib.hid hga1
        have HL8 := Lib.hid hL8
        have HGL := Lib.hid hgl
        clear hga1 hL8 hgl hga hTw9 hK9 hO9 hba
        go_wp2_with fail
        go_roundg (2 * (n - jk))
        case measure => have := hmeas.out; omega
        case rel =>
          have hgl := HGL.out
          obtain rfl := HGA.out
          have hTwz := hTwa.setLast (v' := .slice (some ⟨ga, 0, none⟩) L8.length ca)
          rw [hpl] at hTwz
          have hne : ga ≠ g := by omega
          refine ⟨jk, Ao, co, s8, L8, some ⟨ga, 0, none⟩, ca, ga, rfl, ?_, hOw.other g 25 _ (fun q hq => (hob q hq).2), hat2, ⟨hTwz, hca, ?_, hne, by simpa [World.setCell] using hga3⟩, .inr (by omega), fun q hq => ⟨?_, (hob q hq).2⟩, hKa.set g 25 _ (.inr rfl), ?_⟩
          · have := hmeas.out; omega
          · exact hOa.rp.keep fun q hq => World.cell?_setCell_other _ _ _ _ (fun e => hne (by rw [← hq, ← e]))
          · have := (hObl q hq).2; omega
          · rw [if_neg (by omega)]; omega

end Go.Proofs.YtfaonieaagepjaaDoor
