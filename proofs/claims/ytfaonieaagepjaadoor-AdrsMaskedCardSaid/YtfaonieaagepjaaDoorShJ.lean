/- shake.Sum, and what is asked of it before a statement. Conditions: a text of at most 100000000 bytes; the tables. -/
import Derived.Test.YtfaonieaagepjaaDoorShI
import Derived.Lib.SlBytesConst
import Derived.Lib.SmallJoins
namespace Go.Proofs.YtfaonieaagepjaaDoor
open Go.RowKit
set_option maxRecDepth 100000
set_option linter.unusedVariables false
set_option linter.unusedSimpArgs false

theorem newS_len (l : List Int) : (newS l).length = 25 := absS_len _ _
theorem newS_W (l : List Int) : Ws (newS l) := absS_W _ _
theorem rdr_of_new {w : World} {g c : Nat} {A : Option Addr} {s : List Int} (h2 : Two w g 107 .u64 s (.slice A 136 c)) (hO : Own w (g + 1) 5 .u8 (.slice A 136 c) (giveL s)) :
    ∃ rb, Rdr w 107 g rb s (giveL s) A c ∧ g < rb := by
  obtain ⟨rb, rfl, hn, h3, h4, h5⟩ := hO.where_ (by rw [giveL_len]; decide)
  refine ⟨rb, ⟨?_, h5, hO.rp, by omega, h4⟩, by omega⟩
  rw [giveL_len]; exact h2

theorem read_none (n : Int) (A : Option Addr) (w : World) (hn : n < 0 ∨ 65536 < n) :
    Calls Tryd.prog 71 #[.pointer A, .int .i64 n] w fun e w' => e = .returned (.slice none 0 0) ∧ w = w' := by
  go_enter Tryd.func71, Tryd.ntmps71
  rcases hn with h | h
  · go_wp2_with fail
    go_ret
    exact ⟨rfl, rfl⟩
  · have h' : ¬ n < 0 := by omega
    go_wp2_with fail
    go_ret
    exact ⟨rfl, rfl⟩
theorem refsum_none (n : Int) (v : Value) (w : World) (hn : n < 0 ∨ 65536 < n) :
    Calls Tryd.prog 66 #[v, .int .i64 n] w fun e w' => e = .returned (.slice none 0 0) ∧ w = w' := by
  go_enter Tryd.func66, Tryd.ntmps66
  rcases hn with h | h
  · go_wp2_with fail
    go_ret
    exact ⟨rfl, rfl⟩
  · have h' : ¬ n < 0 := by omega
    go_wp2_with fail
    go_ret
    exact ⟨rfl, rfl⟩

def SumPost (w : World) (l : List Int) (n : Nat) (e : Ending) (w' : World) : Prop :=
  ∃ A c, e = .returned (.slice A n c) ∧ Own w' w.heap.size 5 .u8 (.slice A n c) (seg (newS l) 0 n) ∧ Below w.heap.size w w'
theorem sum_any (l : List Int) (A : Option Addr) (c B n : Nat) (w : World) (hr : Rd w B .u8 A l) (hB : B ≤ w.heap.size) (hl : l.length ≤ 100000000) (hA : A = none → c = 0) (ht : KTab w) (hby0 : Bys l) (hn : n ≤ 65536) :
    Calls Tryd.prog 45 #[.slice A l.length c, .int .i64 n] w (SumPost w l n) := by
  have hz := World.block_lt_of_cell? w _ (ht.2 0 (by decide))
  have hz0 := World.block_lt_of_cell? w _ (ht.1 0 (by decide))
  have hz2 : 3 < w.heap.size := hz
  have hz3 : 4 < w.heap.size := hz0
  go_enter Tryd.func45, Tryd.ntmps45
  go_wp2_with fail
  (with_reducible refine (new_any l A c B w hr hB hl hA ht hby0).mono ?_)
  rintro e w1 ⟨g, A1, c1, rfl, hg, h2, hO, hb⟩
  obtain ⟨rb, hR, hrb⟩ := rdr_of_new h2 hO
  have hT1 := ht.below hb hz3 hz2
  have hsz := hb.size
  clear h2 hO
  go_wp2_with fail
  (with_reducible refine (read_any n g rb 0 (newS l) (newS l) (giveL (newS l)) A1 c1 w1 (newS_len l) (newS_W l) hn (At.start _) hR hT1 (by omega) (by omega)).mono ?_)
  rintro e w2 ⟨Ao, co, s', rest', A', c', rb', rfl, hO, _, _, _, hK⟩
  go_wp2_with fail
  go_ret
  refine ⟨Ao, co, rfl, hO.low hsz, ?_⟩
  exact ((Kept.of_below (S := fun _ => False) hb).trans (S := fun _ => False) hK hsz (fun k hk e => by subst e; omega)).below
theorem sum_none (l : List Int) (A : Option Addr) (c B : Nat) (n : Int) (w : World) (hr : Rd w B .u8 A l) (hB : B ≤ w.heap.size) (hl : l.length ≤ 100000000) (hA : A = none → c = 0) (ht : KTab w) (hby0 : Bys l) (hn : n < 0 ∨ 65536 < n) :
    Calls Tryd.prog 45 #[.slice A l.length c, .int .i64 n] w fun e w' => e = .returned (.slice none 0 0) ∧ Below w.heap.size w w' := by
  go_enter Tryd.func45, Tryd.ntmps45
  go_wp2_with fail
  (with_reducible refine (new_any l A c B w hr hB hl hA ht hby0).mono ?_)
  rintro e w1 ⟨g, A1, c1, rfl, hg, h2, hO, hb⟩
  clear h2 hO
  go_wp2_with fail
  (with_reducible refine (read_none n _ w1 hn).mono ?_)
  rintro e w2 ⟨rfl, rfl⟩
  go_wp2_with fail
  go_ret
  exact ⟨rfl, hb⟩

theorem same_true (w : World) (A A' : Option Addr) (l : List Int) (n c c' B B' : Nat) (hA : Rd w B .u8 A l) (hB : Rd w B' .u8 A' l) (hn : l.length = n) (hm : n ≤ 9223372036854775807) :
    Calls Tryd.prog 13 #[.slice A n c, .slice A' n c'] w fun e w' => e = .returned (.bool true) ∧ ∃ q, w' = w.drewN q := by
  subst hn
  have h := same_any w A A' l l c c' B B' hA hB hm
  rwa [decide_eq_true rfl] at h

def NewPost (w : World) (l : List Int) (e : Ending) (w' : World) : Prop :=
  ∃ (g rb : Nat) (A' : Option Addr) (c' : Nat), e = .returned (.pointer (some ⟨g, 0, none⟩)) ∧ w.heap.size ≤ g ∧ g < rb ∧ Rdr w' 107 g rb (newS l) (giveL (newS l)) A' c' ∧ Below w.heap.size w w'
theorem new_n (l : List Int) (A : Option Addr) (n c B : Nat) (w : World) (hr : Rd w B .u8 A l) (hB : B ≤ w.heap.size) (hl : l.length ≤ 100000000) (hA : A = none → c = 0) (ht : KTab w) (hby0 : Bys l) (hn : l.length = n) :
    Calls Tryd.prog 70 #[.slice A n c] w (NewPost w l) := by
  subst hn
  refine (new_any l A c B w hr hB hl hA ht hby0).mono ?_
  rintro e w1 ⟨g, A1, c1, rfl, hg, h2, hO, hb⟩
  obtain ⟨rb, hR, hrb⟩ := rdr_of_new h2 hO
  exact ⟨g, rb, A1, c1, rfl, hg, hrb, hR, hb⟩
theorem sum_n (l : List Int) (A : Option Addr) (m c B n : Nat) (w : World) (hr : Rd w B .u8 A l) (hB : B ≤ w.heap.size) (hl : l.length ≤ 100000000) (hA : A = none → c = 0) (ht : KTab w) (hby0 : Bys l) (hn : n ≤ 65536) (hm : l.length = m) (N : Int) (hN : N = n) :
    Calls Tryd.prog 45 #[.slice A m c, .int .i64 N] w (SumPost w l n) := by
  subst hm hN
  exact sum_any l A c B n w hr hB hl hA ht hby0 hn
/-- Read, its number told apart. -/
theorem read_n (N : Int) (n g rb0 p : Nat) (S s rest : List Int) (A : Option Addr) (c : Nat) (w : World) (hS : S.length = 25) (hSw : Ws S) (hn : n ≤ 65536) (hat : At S p s rest) (hr : Rdr w 107 g rb0 s rest A c) (ht : KTab w) (hg1 : g ≠ 3) (hg2 : g ≠ 4) (hN : N = n) :
    Calls Tryd.prog 71 #[.pointer (some ⟨g, 0, none⟩), .int .i64 N] w (ReadPost w g rb0 S p n) := by
  subst hN
  exact read_any n g rb0 p S s rest A c w hS hSw hn hat hr ht hg1 hg2

theorem Rd.marked (w : World) (T : Nat) (k : IntKind) (l : List Int) (fr : Nat × Nat) : Rd (w.alloc (.cells (U k l) T fr)) (w.heap.size + 1) k (some ⟨w.heap.size, 0, none⟩) l := fun hn =>
  ⟨_, rfl, Nat.lt_succ_self _, fun i hi => by rw [plus_head, World.cell?_alloc_mark w (U k l) T fr i, U_get k l i hi]⟩
theorem first4 : seg (newS []) 0 4 = [70, 185, 221, 43] := by decide +kernel
theorem first1 : seg (newS []) 0 1 = [70] := by
  have h := seg_sub (newS []) 0 4 0 1 (by decide)
  rw [first4] at h; simpa using h.symm
theorem next2 : seg (newS []) 1 2 = [185, 221] := by
  have h := seg_sub (newS []) 0 4 1 2 (by decide)
  rw [first4] at h; simpa using h.symm
end Go.Proofs.YtfaonieaagepjaaDoor
