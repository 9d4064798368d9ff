/- shake.Sum, and what is asked of it before a statement. Conditions: a text of at most 100000000 bytes; the tables. -/
import Derived.Test.YtabpbnkipdjnlaaDoorShI
import Derived.Lib.SlBytesConst
import Derived.Lib.SmallJoins
namespace Go.Proofs.YtabpbnkipdjnlaaDoor
open Go.RowKit
set_option linter.unusedVariables false
set_option linter.unusedSimpArgs false

theorem newS_len (l : List Int) : (newS l).length = 25 := absS_len _ _
theorem newS_W (l : List Int) : Ws (newS l) := absS_W _ _
theorem rdr_of_new {w : World} {g c : Nat} {A : Option Addr} {s : List Int} (h2 : Two w g 61 .u64 s (.slice A 136 c)) (hO : Own w (g + 1) 5 .u8 (.slice A 136 c) (giveL s)) :
    ∃ rb, Rdr w 61 g rb s (giveL s) A c ∧ g < rb := by
  obtain ⟨rb, rfl, hn, h3, h4, h5⟩ := hO.where_ (by rw [giveL_len]; decide)
  refine ⟨rb, ⟨?_, h5, hO.rp, by omega, h4⟩, by omega⟩
  rw [giveL_len]; exact h2

theorem read_none (n : Int) (A : Option Addr) (w : World) (hn : n < 0 ∨ 65536 < n) :
    Calls Tryd.prog 28 #[.pointer A, .int .i64 n] w fun e w' => e = .returned (.slice none 0 0) ∧ w = w' := by
  go_enter Tryd.func28, Tryd.ntmps28
  rcases hn with h | h
  · go_wp2_with fail
    go_ret
    exact ⟨rfl, rfl⟩
  · have h' : ¬ n < 0 := by omega
    go_wp2_with fail
    go_ret
    exact ⟨rfl, rfl⟩
theorem refsum_none (n : Int) (v : Value) (w : World) (hn : n < 0 ∨ 65536 < n) :
    Calls Tryd.prog 26 #[v, .int .i64 n] w fun e w' => e = .returned (.slice none 0 0) ∧ w = w' := by
  go_enter Tryd.func26, Tryd.ntmps26
  rcases hn with h | h
  · go_wp2_with fail
    go_ret
    exact ⟨rfl, rfl⟩
  · have h' : ¬ n < 0 := by omega
    go_wp2_with fail
    go_ret
    exact ⟨rfl, rfl⟩

def SumPost (w : World) (l : List Int) (n : Nat) (e : Ending) (w' : World) : Prop :=
  ∃ A c, e = .returned (.slice A n c) ∧ Own w' w.heap.size 5 .u8 (.slice A n c) (seg (newS l) 0 n) ∧ Below w.heap.size w w'
theorem sum_any (l : List Int) (A : Option Addr) (c B n : Nat) (w : World) (hr : Rd w B .u8 A l) (hB : B ≤ w.heap.size) (hl : l.length ≤ 100000000) (hA : A = none → c = 0) (ht : KTab w) (hby0 : Bys l) (hn : n ≤ 65536) :
    Calls Tryd.prog 25 #[.slice A l.length c, .int .i64 n] w (SumPost w l n) := by
  have hz := World.block_lt_of_cell? w _ (ht.2 0 (by decide))
  have hz0 := World.block_lt_of_cell? w _ (ht.1 0 (by decide))
  have hz2 : 1 < w.heap.size := hz
  have hz3 : 0 < w.heap.size := hz0
  go_enter Tryd.func25, Tryd.ntmps25
  go_wp2_with fail
  (with_reducible refine (new_any l A c B w hr hB hl hA ht hby0).mono ?_)
  rintro e w1 ⟨g, A1, c1, rfl, hg, h2, hO, hb⟩
  obtain ⟨rb, hR, hrb⟩ := rdr_of_new h2 hO
  have hT1 := ht.below hb hz3 hz2
  have hsz := hb.size
  clear h2 hO
  go_wp2_with fail
  (with_reducible refine (read_any n g rb 0 (newS l) (newS l) (giveL (newS l)) A1 c1 w1 (newS_len l) (newS_W l) hn (At.start _) hR hT1 (by omega) (by omega)).mono ?_)
  rintro e w2 ⟨Ao, co, s', rest', A', c', rb', rfl, hO, _, _, _, hK⟩
  go_wp2_with fail
  go_ret
  refine ⟨Ao, co, rfl, hO.low hsz, ?_⟩
  exact ((Kept.of_below (S := fun _ => False) hb).trans (S := fun _ => False) hK hsz (fun k hk e => by subst e; omega)).below
theorem sum_none (l : List Int) (A : Option Addr) (c B : Nat) (n : Int) (w : World) (hr : Rd w B .u8 A l) (hB : B ≤ w.heap.size) (hl : l.length ≤ 100000000) (hA : A = none → c = 0) (ht : KTab w) (hby0 : Bys l) (hn : n < 0 ∨ 65536 < n) :
    Calls Tryd.prog 25 #[.slice A l.length c, .int .i64 n] w fun e w' => e = .returned (.slice none 0 0) ∧ Below w.heap.size w w' := by
  go_enter Tryd.func25, Tryd.ntmps25
  go_wp2_with fail
  (with_reducible refine (new_any l A c B w hr hB hl hA ht hby0).mono ?_)
  rintro e w1 ⟨g, A1, c1, rfl, hg, h2, hO, hb⟩
  clear h2 hO
  go_wp2_with fail
  (with_reducible refine (read_none n _ w1 hn).mono ?_)
  rintro e w2 ⟨rfl, rfl⟩
  go_wp2_with fail
  go_ret
  exact ⟨rfl, hb⟩

theorem same_true (w : World) (A A' : Option Addr) (l : List Int) (n c c' B B' : Nat) (hA : Rd w B .u8 A l) (hB : Rd w B' .u8 A' l) (hn : l.length = n) (hm : n ≤ 9223372036854775807) :
    Calls Tryd.prog 24 #[.slice A n c, .slice A' n c'] w fun e w' => e = .returned (.bool true) ∧ ∃ q, w' = w.drewN q := by
  subst hn
  have h := same_any w A A' l l c c' B B' hA hB hm
  rwa [decide_eq_true rfl] at h

def NewPost (w : World) (l : List Int) (e : Ending) (w' : World) : Prop :=
  ∃ (g rb : Nat) (A' : Option Addr) (c' : Nat), e = .returned (.pointer (some ⟨g, 0, none⟩)) ∧ w.heap.size ≤ g ∧ g < rb ∧ Rdr w' 61 g rb (newS l) (giveL (newS l)) A' c' ∧ Below w.heap.size w w'
theorem new_n (l : List Int) (A : Option Addr) (n c B : Nat) (w : World) (hr : Rd w B .u8 A l) (hB : B ≤ w.heap.size) (hl : l.length ≤ 100000000) (hA : A = none → c = 0) (ht : KTab w) (hby0 : Bys l) (hn : l.length = n) :
    Calls Tryd.prog 27 #[.slice A n c] w (NewPost w l) := by
  subst hn
  refine (new_any l A c B w hr hB hl hA ht hby0).mono ?_
  rintro e w1 ⟨g, A1, c1, rfl, hg, h2, hO, hb⟩
  obtain ⟨rb, hR, hrb⟩ := rdr_of_new h2 hO
  exact ⟨g, rb, A1, c1, rfl, hg, hrb, hR, hb⟩
theorem sum_n (l : List Int) (A : Option Addr) (m c B n : Nat) (w : World) (hr : Rd w B .u8 A l) (hB : B ≤ w.heap.size) (hl : l.length ≤ 100000000) (hA : A = none → c = 0) (ht : KTab w) (hby0 : Bys l) (hn : n ≤ 65536) (hm : l.length = m) (N : Int) (hN : N = n) :
    Calls Tryd.prog 25 #[.slice A m c, .int .i64 N] w (SumPost w l n) := by
  subst hm hN
  exact sum_any l A c B n w hr hB hl hA ht hby0 hn
/-- Read, its number told apart. -/
theorem read_n (N : Int) (n g rb0 p : Nat) (S s rest : List Int) (A : Option Addr) (c : Nat) (w : World) (hS : S.length = 25) (hSw : Ws S) (hn : n ≤ 65536) (hat : At S p s rest) (hr : Rdr w 61 g rb0 s rest A c) (ht : KTab w) (hg1 : g ≠ 1) (hg2 : g ≠ 0) (hN : N = n) :
    Calls Tryd.prog 28 #[.pointer (some ⟨g, 0, none⟩), .int .i64 N] w (ReadPost w g rb0 S p n) := by
  subst hN
  exact read_any n g rb0 p S s rest A c w hS hSw hn hat hr ht hg1 hg2

theorem Rd.marked (w : World) (T : Nat) (k : IntKind) (l : List Int) (fr : Nat × Nat) : Rd (w.alloc (.cells (U k l) T fr)) (w.heap.size + 1) k (some ⟨w.heap.size, 0, none⟩) l := fun hn =>
  ⟨_, rfl, Nat.lt_succ_self _, fun i hi => by rw [plus_head, World.cell?_alloc_mark w (U k l) T fr i, U_get k l i hi]⟩
theorem first4 : seg (newS []) 0 4 = [70, 185, 221, 43] := by decide +kernel
theorem first1 : seg (newS []) 0 1 = [70] := by
  have h := seg_sub (newS []) 0 4 0 1 (by decide)
  rw [first4] at h; simpa using h.symm
theorem next2 : seg (newS []) 1 2 = [185, 221] := by
  have h := seg_sub (newS []) 0 4 1 2 (by decide)
  rw [first4] at h; simpa using h.symm
set_option maxRecDepth 100000 in
theorem awake5_any (w : World) (ht : KTab w) :
    Calls Tryd.prog 23 #[] w fun e w' => e = .returned (.bool true) ∧ Below w.heap.size w w' := by
  have hz := World.block_lt_of_cell? w _ (ht.2 0 (by decide))
  have hz0 := World.block_lt_of_cell? w _ (ht.1 0 (by decide))
  have hz2 : 1 < w.heap.size := hz
  have hz3 : 0 < w.heap.size := hz0
  have kc := fun (w : World) (C : Array Value) (n c : Nat) => Lib.run_convert_bytes_const (P := Tryd.prog) w 36 5 C n c Tryd.underlying36 Tryd.underlying5
  go_enter Tryd.func23, Tryd.ntmps23
  go_wp2_with fail
  (with_reducible refine (new_n [] none 0 0 0 w Rd.nil (Nat.zero_le _) (by decide) (fun _ => rfl) ht Bys.nil rfl).mono ?_)
  rintro e w1 ⟨g, rb, A1, c1, rfl, hg, hrb, hR, hb⟩
  have hT1 := ht.below hb hz3 hz2
  have hsz := hb.size
  have heq : ∀ (w : World) (a : Addr), (binOp .eql 41 (.pointer (some a)) (.pointer none)).run Tryd.prog w = .ok (.bool false) w := fun w a => by kernel_rfl
  go_wp2_with fail
  (with_reducible refine (sum_n [] none 0 0 0 4 w1 Rd.nil (Nat.zero_le _) (by decide) (fun _ => rfl) hT1 Bys.nil (by decide) rfl 4 rfl).mono ?_)
  rintro e w2 ⟨A2, c2, rfl, hO2, hb2⟩
  rw [first4] at hO2
  have hR2 := hR.below hb2
  have hT2 := hT1.below hb2 (by omega) (by omega)
  have hsz2 := hb2.size
  go_wp2_with fail
  have hN3 := Rd.of_arr (B := w2.heap.size + 1) (Arr.new w2 5 .u8 [70, 185, 221, 43]) (by omega)
  have hw3 : Below w2.heap.size w2 (w2.alloc (.cells (U .u8 [70, 185, 221, 43]) 5)) := ((Kept.refl w2.heap.size (fun _ => False) w2).alloc _ (Nat.le_refl _)).below
  have hs3 : (w2.alloc (.cells (U .u8 [70, 185, 221, 43]) 5)).heap.size = w2.heap.size + 1 := by simp
  have hO3 := hO2.rd.alloc (Nat.le_refl _) (.cells (U .u8 [70, 185, 221, 43]) 5)
  change Calls _ _ _ (w2.alloc (.cells (U .u8 [70, 185, 221, 43]) 5)) _
  generalize w2.alloc (.cells (U .u8 [70, 185, 221, 43]) 5) = w3 at hN3 hw3 hs3 hO3 ⊢
  (with_reducible refine (same_true w3 A2 (some ⟨w2.heap.size, 0, none⟩) [70, 185, 221, 43] 4 c2 4 w2.heap.size (w2.heap.size + 1) hO3 hN3 rfl (by decide)).mono ?_)
  rintro e w3' ⟨rfl, q, rfl⟩
  have hK4 : Below w1.heap.size w1 (w3.drewN q) := (((Kept.of_below (S := fun _ => False) hb2).trans (S' := fun _ => False) (Kept.of_below hw3) hsz2 (fun _ _ h => h)).drewN q).below
  have hR4 := hR.below hK4
  have hT4 := hT1.below hK4 (by omega) (by omega)
  have hs4 := hK4.size
  generalize w3.drewN q = w4 at hK4 hR4 hT4 hs4 ⊢
  clear hN3 hw3 hs3 hO3 hO2 hR2 hT2 hsz2 hb2
  go_wp2_with fail
  (with_reducible refine (read_n 1 1 g rb 0 (newS []) (newS []) (giveL (newS [])) A1 c1 w4 (newS_len _) (newS_W _) (by decide) (At.start _) hR4 hT4 (by omega) (by omega) rfl).mono ?_)
  rintro e w5 ⟨A5, c5, s5, rest5, Ar, cr, rb5, rfl, hO5, hat5, hR5, hrb5, hK5⟩
  rw [first1] at hO5
  have hT5 := hT4.keptS hK5 (by omega) (by omega) (by omega) (by omega)
  have hs5 := hK5.size
  go_wp2_with fail
  have hN6 := Rd.of_arr (B := w5.heap.size + 1) (Arr.new w5 5 .u8 [70]) (by omega)
  have hK6 : Below w5.heap.size w5 (w5.alloc (.cells (U .u8 [70]) 5)) := ((Kept.refl w5.heap.size (fun _ => False) w5).alloc _ (Nat.le_refl _)).below
  have hO6 := hO5.rd.alloc (Nat.le_refl _) (.cells (U .u8 [70]) 5)
  change Calls _ _ _ (w5.alloc (.cells (U .u8 [70]) 5)) _
  generalize w5.alloc (.cells (U .u8 [70]) 5) = w6 at hN6 hK6 hO6 ⊢
  (with_reducible refine (same_true w6 A5 (some ⟨w5.heap.size, 0, none⟩) [70] 1 c5 1 w5.heap.size (w5.heap.size + 1) hO6 hN6 rfl (by decide)).mono ?_)
  rintro e w6' ⟨rfl, q6, rfl⟩
  have hK7 : Below w5.heap.size w5 (w6.drewN q6) := ((Kept.of_below (S := fun _ => False) hK6).drewN q6).below
  have hR7 := hR5.below hK7
  have hT7 := hT5.below hK7 (by omega) (by omega)
  have hs7 := hK7.size
  generalize w6.drewN q6 = w7 at hK7 hR7 hT7 hs7 ⊢
  clear hN6 hK6 hO6 hO5
  go_wp2_with fail
  (with_reducible refine (read_n 2 2 g rb5 1 (newS []) s5 rest5 Ar cr w7 (newS_len _) (newS_W _) (by decide) hat5 hR7 hT7 (by omega) (by omega) rfl).mono ?_)
  rintro e w8 ⟨A8, c8, s8, rest8, Ar8, cr8, rb8, rfl, hO8, hat8, hR8, hrb8, hK8⟩
  rw [next2] at hO8
  have hT8 := hT7.keptS hK8 (by omega) (by omega) (by omega) (by omega)
  have hs8 := hK8.size
  go_wp2_with fail
  have hN9 := Rd.of_arr (B := w8.heap.size + 1) (Arr.new w8 5 .u8 [185, 221]) (by omega)
  have hK9 : Below w8.heap.size w8 (w8.alloc (.cells (U .u8 [185, 221]) 5)) := ((Kept.refl w8.heap.size (fun _ => False) w8).alloc _ (Nat.le_refl _)).below
  have hO9 := hO8.rd.alloc (Nat.le_refl _) (.cells (U .u8 [185, 221]) 5)
  change Calls _ _ _ (w8.alloc (.cells (U .u8 [185, 221]) 5)) _
  generalize w8.alloc (.cells (U .u8 [185, 221]) 5) = w9 at hN9 hK9 hO9 ⊢
  (with_reducible refine (same_true w9 A8 (some ⟨w8.heap.size, 0, none⟩) [185, 221] 2 c8 2 w8.heap.size (w8.heap.size + 1) hO9 hN9 rfl (by decide)).mono ?_)
  rintro e w9' ⟨rfl, q9, rfl⟩
  have hKa : Below w8.heap.size w8 (w9.drewN q9) := ((Kept.of_below (S := fun _ => False) hK9).drewN q9).below
  have hTa := hT8.below hKa (by omega) (by omega)
  have hsa := hKa.size
  generalize w9.drewN q9 = wa at hKa hTa hsa ⊢
  clear hN9 hK9 hO9 hO8
  go_wp2_with fail
  have hNb := Rd.marked wa 5 .u8 [97, 98, 99] (3, 4)
  have hKb : Below wa.heap.size wa (wa.alloc (.cells (U .u8 [97, 98, 99]) 5 (3, 4))) := ((Kept.refl wa.heap.size (fun _ => False) wa).alloc _ (Nat.le_refl _)).below
  have hsb : (wa.alloc (.cells (U .u8 [97, 98, 99]) 5 (3, 4))).heap.size = wa.heap.size + 1 := by simp
  have hTb := hTa.below hKb (by omega) (by omega)
  change Calls _ _ _ (wa.alloc (.cells (U .u8 [97, 98, 99]) 5 (3, 4))) _
  generalize wa.alloc (.cells (U .u8 [97, 98, 99]) 5 (3, 4)) = wb at hNb hKb hsb hTb ⊢
  (with_reducible refine (sum_n [97, 98, 99] (some ⟨wa.heap.size, 0, none⟩) 3 3 (wa.heap.size + 1) 300 wb hNb (by omega) (by decide) (fun h => by cases h) hTb (by unfold Bys B8; decide) (by decide) rfl 300 rfl).mono ?_)
  rintro e wc ⟨Ac, cc, rfl, hOc, hbc⟩
  have hX : Below w.heap.size w wc := by
    have k1 := Kept.of_below (S := fun _ => False) hb
    have k4 := k1.trans (S' := fun _ => False) (Kept.of_below hK4) hsz (fun _ _ h => h)
    have k5 := k4.trans (S := fun _ => False) hK5 (by omega) (fun k hk e => by omega)
    have k7 := k5.trans (S' := fun _ => False) (Kept.of_below hK7) (by omega) (fun _ _ h => h)
    have k8 := k7.trans (S := fun _ => False) hK8 (by omega) (fun k hk e => by omega)
    have ka := k8.trans (S' := fun _ => False) (Kept.of_below hKa) (by omega) (fun _ _ h => h)
    have kb := ka.trans (S' := fun _ => False) (Kept.of_below hKb) (by omega) (fun _ _ h => h)
    exact (kb.trans (S' := fun _ => False) (Kept.of_below hbc) (by omega) (fun _ _ h => h)).below
  go_wp2_with fail
  go_ret
  exact ⟨rfl, hX⟩

end Go.Proofs.YtabpbnkipdjnlaaDoor
