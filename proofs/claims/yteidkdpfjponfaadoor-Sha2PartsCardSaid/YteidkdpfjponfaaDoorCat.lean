/- bytes.Join without a separator: all parts, one behind the other. Conditions: the parts read as bytes; all together at most 2^47 of them. -/
import Derived.Test.YteidkdpfjponfaaDoorRp
import Derived.Test.YteidkdpfjponfaaDoorSl
import Derived.Test.YteidkdpfjponfaaDoorShD
import Derived.Lib.SlBuf
import Derived.Lib.MakeNoZero
import Derived.Laws.Externs
import Derived.Deep.LoopGhost
namespace Go.Proofs.YteidkdpfjponfaaDoor
open Go.RowKit
set_option linter.unusedVariables false
set_option linter.unusedSimpArgs false

/-! ### A slice of slices of bytes -/
def gl (ls : List (List Int)) (i : Nat) : List Int := ls.getD i []
/-- What one part is. -/
def IsPart (w : World) (B : Nat) (v : Value) (l : List Int) : Prop := ∃ A c, v = .slice A l.length c ∧ Rd w B .u8 A l ∧ l.length ≤ c
def Parts (w : World) (B : Nat) (A : Option Addr) (ls : List (List Int)) : Prop :=
  0 < ls.length → ∃ ad, A = some ad ∧ ad.block < B ∧ ∀ i, i < ls.length → ∃ v, w.cell? (ad.add i) = some v ∧ IsPart w B v (gl ls i)
theorem IsPart.keep {w w' : World} {B : Nat} {v : Value} {l : List Int} (h : IsPart w B v l) (hk : ∀ p : Addr, p.block < B → w'.cell? p = w.cell? p) : IsPart w' B v l := by
  obtain ⟨A, c, h1, h2, h3⟩ := h
  exact ⟨A, c, h1, h2.keep hk, h3⟩
theorem Parts.keep {w w' : World} {B : Nat} {A : Option Addr} {ls : List (List Int)} (h : Parts w B A ls) (hk : ∀ p : Addr, p.block < B → w'.cell? p = w.cell? p) : Parts w' B A ls := fun hn => by
  obtain ⟨ad, e, hb, hc⟩ := h hn
  refine ⟨ad, e, hb, fun i hi => ?_⟩
  obtain ⟨v, h1, h2⟩ := hc i hi
  exact ⟨v, (hk _ (by rw [block_plus]; exact hb)).trans h1, h2.keep hk⟩
theorem Parts.below {w w' : World} {B : Nat} {A : Option Addr} {ls : List (List Int)} (h : Parts w B A ls) (hk : Below B w w') : Parts w' B A ls :=
  h.keep fun p hp => World.cell?_of_block (hk.block p.block hp)
theorem Parts.kept {w w' : World} {B B' : Nat} {S : Nat → Prop} {A : Option Addr} {ls : List (List Int)} (h : Parts w B A ls) (hk : Kept B' S w w') (hB : B ≤ B') (hs : ∀ g, g < B → ¬ S g) : Parts w' B A ls :=
  h.keep fun p hp => World.cell?_of_block (hk.block p.block (by omega) (hs _ hp))
theorem IsPart.more {w : World} {B B' : Nat} {v : Value} {l : List Int} (h : IsPart w B v l) (hB : B ≤ B') : IsPart w B' v l := by
  obtain ⟨A, c, h1, h2, h3⟩ := h
  exact ⟨A, c, h1, h2.more hB, h3⟩
/-- Parts that a literal lays. -/
theorem Parts.lit {w : World} {B T : Nat} (vs : List Value) (ls : List (List Int)) (hB : B ≤ w.heap.size) (hl : vs.length = ls.length) (h : ∀ i, i < ls.length → IsPart w B (vs.getD i undef) (gl ls i)) :
    Parts (w.alloc (.cells vs.toArray T)) (w.heap.size + 1) (some ⟨w.heap.size, 0, none⟩) ls := fun hn => by
  refine ⟨_, rfl, Nat.lt_succ_self _, fun i hi => ⟨vs.getD i undef, ?_, ?_⟩⟩
  · rw [plus_head, cell_of_row _ _ i vs.toArray T (0, 0) (heap_alloc_new w _)]
    simp [List.getD_eq_getElem?_getD, List.getElem?_eq_getElem (show i < vs.length by omega)]
  · exact ((h i hi).keep fun p hp => World.cell?_of_block (Below.heap_alloc w _ p.block (by omega))).more (by omega)

/-! ### A buffer that is filled from the front -/
def BufI (w : World) (h e N : Nat) (acc : List Int) : Prop :=
  ∃ rest : List Value, w.heap[h]? = some (.cells (nums .u8 acc ++ rest).toArray e (0, 0)) ∧ N ≤ acc.length + rest.length ∧ acc.length ≤ N
theorem BufI.lt {w : World} {h e N : Nat} {acc : List Int} (hb : BufI w h e N acc) : h < w.heap.size := by
  obtain ⟨rest, h1, _⟩ := hb
  exact (Array.getElem?_eq_some_iff.1 h1).1
/-! ### What a call has made, to be read and written, whatever lies behind it -/
structure Frs (w : World) (b : Nat) (A : Option Addr) (c : Nat) (l : List Int) : Prop where
  cap : l.length ≤ c
  max : c ≤ maxLen
  nil : A = none → c = 0
  at_ : 0 < l.length → ∃ g, A = some ⟨g, 0, none⟩ ∧ b ≤ g ∧ g < w.heap.size ∧ ∀ i, i < l.length → w.cell? ⟨g, i, none⟩ = some (.int .u8 (gt l i)) ∧ w.frozen? ⟨g, i, none⟩ = false
theorem frozen_of_block {w w' : World} {g i : Nat} (h : w'.heap[g]? = w.heap[g]?) : w'.frozen? ⟨g, i, none⟩ = w.frozen? ⟨g, i, none⟩ := by
  simp [World.frozen?, h]
section
variable {w w' : World} {b b' B c e n : Nat} {A : Option Addr} {l : List Int} {S : Nat → Prop}
theorem Frs.rd (h : Frs w b A c l) : Rd w w.heap.size .u8 A l := fun hn => by
  obtain ⟨g, rfl, _, h2, h3⟩ := h.at_ hn
  exact ⟨_, rfl, h2, fun i hi => by rw [plus_head]; exact (h3 i hi).1⟩
theorem Frs.keep (h : Frs w b A c l) (hs : w.heap.size ≤ w'.heap.size) (hk : ∀ g, b ≤ g → g < w.heap.size → A = some ⟨g, 0, none⟩ → w'.heap[g]? = w.heap[g]?) : Frs w' b A c l :=
  ⟨h.cap, h.max, h.nil, fun hn => by
    obtain ⟨g, rfl, h1, h2, h3⟩ := h.at_ hn
    have hg := hk g h1 h2 rfl
    exact ⟨g, rfl, h1, by omega, fun i hi => ⟨(World.cell?_of_block (a := ⟨g, i, none⟩) hg).trans (h3 i hi).1, (frozen_of_block hg).trans (h3 i hi).2⟩⟩⟩
theorem Frs.kept (h : Frs w b A c l) (hk : Kept B S w w') (hB : w.heap.size ≤ B) (hs : ∀ g, A = some ⟨g, 0, none⟩ → ¬ S g) : Frs w' b A c l :=
  h.keep hk.size fun g _ h2 e => hk.block g (by omega) (hs g e)
theorem Frs.below (h : Frs w b A c l) (hk : Below B w w') (hB : w.heap.size ≤ B) : Frs w' b A c l :=
  h.keep hk.size fun g _ h2 _ => hk.block g (by omega)
theorem Frs.low (h : Frs w b A c l) (hb : b' ≤ b) : Frs w b' A c l :=
  ⟨h.cap, h.max, h.nil, fun hn => by
    obtain ⟨g, h1, h2, h3⟩ := h.at_ hn
    exact ⟨g, h1, by omega, h3⟩⟩
theorem Own.frs (h : Own w b e .u8 (.slice A n c) l) : Frs w b A c l := by
  have hl := h.len
  have hm : c ≤ maxLen := by
    obtain ⟨A', c', hv, _, hm, _⟩ := h.form
    injection hv with h1 h2 h3
    rw [h3]; exact hm
  refine ⟨hl.2, hm, h.nilcap, fun hn => ?_⟩
  obtain ⟨g, rfl, h2, h3, h4, h5⟩ := h.where_ hn
  exact ⟨g, rfl, h3, h4, fun i hi => ⟨h.cell i hi, h.free i⟩⟩
theorem Frs.part (h : Frs w b A c l) : IsPart w w.heap.size (.slice A l.length c) l := ⟨A, c, rfl, h.rd, h.cap⟩
end
theorem BufI.frs {w : World} {h e N b : Nat} {acc : List Int} (hb : BufI w h e N acc) (hN : acc.length = N) (hbh : b ≤ h) (hm : N ≤ maxLen) : Frs w b (some ⟨h, 0, none⟩) N acc := by
  have hlt := hb.lt
  obtain ⟨rest, h1, h2, h3⟩ := hb
  subst hN
  refine ⟨Nat.le_refl _, hm, (fun h => by cases h), fun hn => ⟨h, rfl, hbh, hlt, fun i hi => ⟨?_, frozen_of_row w h _ _ e h1⟩⟩⟩
  rw [cell_of_row w h _ _ e (0, 0) h1]
  simp only [List.getElem?_toArray]
  rw [List.getElem?_append_left (by rw [nums_len]; exact hi), nums_get _ _ _ hi]
section
variable {P : Program}
theorem copy_nums (w : World) (h e N B c : Nat) (acc part : List Int) (A : Option Addr) (t ty : TypeId) (hu : P.underlying t = some (.slice e)) (hs : (P.info? e).map (·.size) = some 1)
    (hb : BufI w h e N acc) (hr : Rd w B .u8 A part) (hBh : B ≤ h) (hfit : acc.length + part.length ≤ N) :
    ∃ w', (Builtin.copy_ #[t, t] ty #[Lib.tailV h N acc.length, .slice A part.length c]).run P w = .ok (.int .i64 (part.length : Int)) w' ∧ BufI w' h e N (acc ++ part) ∧ Kept h (fun _ => False) w w' := by
  obtain ⟨rest, h1, h2, h3⟩ := hb
  rcases Nat.eq_zero_or_pos part.length with h0 | h0
  · have hp : part = [] := List.eq_nil_of_length_eq_zero h0
    subst hp
    refine ⟨w, run_copy_none (P := P) w t t ty e _ A _ _ 0 c hu hs (by simp), ⟨rest, by simpa using h1, by simpa using h2, by simpa using h3⟩, Kept.refl _ _ _⟩
  · obtain ⟨ad, rfl, hab, hc⟩ := hr h0
    have hne : ¬ N = acc.length := by omega
    have hdl : part.length ≤ rest.length := by omega
    have hcell : ∀ j, j < part.length → w.cell? ⟨h, acc.length + j, none⟩ = rest[j]? := fun j hj => by
      rw [cell_of_row w h _ _ e (0, 0) h1]
      simp [nums_len, List.getElem?_append_right]
    have hrun := run_copy_cells (P := P) w t t ty e h acc.length (N - acc.length) (N - acc.length) ad part.length c (nums .u8 part) hu hs (by rw [nums_len]; exact (Nat.min_eq_left (by omega)).symm)
      (fun j u hj => by
        have hjl : j < part.length := by have := (List.getElem?_eq_some_iff.1 hj).1; rwa [nums_len] at this
        rw [nums_get .u8 part j hjl] at hj
        injection hj with hj
        rw [hc j hjl, hj])
      (fun j hj => by
        rw [nums_len] at hj
        rw [hcell j hj, List.getElem?_eq_getElem (by omega)]; rfl)
      (fun j hj => frozen_of_row w h _ _ e h1) (nums_one _ _)
    rw [nums_len] at hrun
    refine ⟨_, by unfold Lib.tailV; rw [if_neg hne]; exact hrun, ⟨rest.drop part.length, ?_, by simp; omega, by simp; omega⟩, (Kept.refl h (fun _ => False) w).setCells h _ _ (.inl (Nat.le_refl _))⟩
    have hsplit : rest = rest.take part.length ++ rest.drop part.length := (List.take_append_drop _ _).symm
    rw [hsplit] at h1
    have := setCells_row (g := h) (e := e) (nums .u8 part) acc.length w (nums .u8 acc) (rest.take part.length) (rest.drop part.length) (by simp [nums_len]; omega) (nums_len _ _) h1
    simpa [nums, List.map_append] using this
end

def lens (ls : List (List Int)) (i : Nat) : Nat := (ls.take i).flatten.length
theorem gl_flat (ls : List (List Int)) (i : Nat) (h : i < ls.length) : (ls.take (i + 1)).flatten = (ls.take i).flatten ++ gl ls i := by
  rw [List.take_succ_eq_append_getElem h, List.flatten_append]
  simp [gl, h]
theorem flat_le (ls : List (List Int)) (i : Nat) : (ls.take i).flatten.length ≤ ls.flatten.length := by
  have h : ls.flatten = (ls.take i).flatten ++ (ls.drop i).flatten := by rw [← List.flatten_append, List.take_append_drop]
  rw [h, List.length_append]; omega
def CatPost (w : World) (l : List Int) (e : Ending) (w' : World) : Prop :=
  ∃ A c, e = .returned (.slice A l.length c) ∧ Frs w' w.heap.size A c l ∧ Below w.heap.size w w'

theorem join_none (w : World) (A : Option Addr) (c : Nat) :
    Calls Tryd.prog 49 #[.slice A 0 c, .slice none 0 0] w (CatPost w []) := by
  go_enter Tryd.func49, Tryd.ntmps49
  go_wp2_with fail
  go_ret
  exact ⟨some ⟨w.heap.size, 0, none⟩, 0, rfl, (Own.lit (e := 5) w [] (Nat.le_refl _) (Nat.zero_le _)).frs, ((Kept.refl w.heap.size (fun _ => False) w).alloc _ (Nat.le_refl _)).below⟩
theorem join_one (w : World) (A : Option Addr) (c B : Nat) (l : List Int) (hp : Parts w B A [l]) (hB : B ≤ w.heap.size) (hl : l.length ≤ 140737488355328) :
    Calls Tryd.prog 49 #[.slice A 1 c, .slice none 0 0] w (CatPost w l) := by
  obtain ⟨ad, rfl, hb, hc⟩ := hp (by simp)
  obtain ⟨v, hc0, A', c', rfl, hR, hlc⟩ := hc 0 (by simp)
  have e0 : ad.add 0 = ad := by unfold Addr.add; simp
  rw [e0] at hc0
  have eg : gl [l] 0 = l := rfl
  rw [eg] at hc0 hR hlc
  have hm : l.length ≤ maxLen := Nat.le_trans hl (by decide)
  have hO := Own.nil w w.heap.size 5 .u8
  go_enter Tryd.func49, Tryd.ntmps49
  go_wp2_with (at_builtin; refine wpList_app rfl _ _ 22 5 .u8 1 rfl Tryd.underlying22 inf_u8 hO hR rfl rfl rfl l rfl l.length rfl (by omega) hm (Nat.le_refl _) ?_; intro Ab cb wb hOb hgb hfb)
  go_ret
  exact ⟨Ab, cb, rfl, hOb.frs, ((Kept.refl w.heap.size (fun _ => False) w).grown hgb (Nat.le_refl _) (fun g hg => by cases hg)).below⟩

set_option maxRecDepth 100000 in
set_option maxHeartbeats 2000000 in
theorem join_many (w : World) (A : Option Addr) (c B n : Nat) (ls : List (List Int)) (L : List Int) (hL : ls.flatten = L) (hp : Parts w B A ls) (hn : ls.length = n) (h2 : 2 ≤ n) (hB : B ≤ w.heap.size) (hc : n ≤ c) (hn47 : n ≤ 140737488355328) (hl : L.length ≤ 140737488355328) :
    Calls Tryd.prog 49 #[.slice A n c, .slice none 0 0] w (CatPost w L) := by
  have hfl : ∀ i, (ls.take i).flatten.length ≤ L.length := fun i => by rw [← hL]; exact flat_le ls i
  have HFL := Lib.hid hfl
  have HL := Lib.hid hL
  clear hfl hL
  obtain ⟨ad, rfl, hab, hcell⟩ := hp (by omega)
  have f0 : ((n : Int) == 0) = false := beq_eq_false_iff_ne.2 (by omega)
  have f1 : ((n : Int) == 1) = false := beq_eq_false_iff_ne.2 (by omega)
  have HC := Lib.hid hcell
  clear hcell
  go_enter Tryd.func49, Tryd.ntmps49
  go_wp2_with fail
  have hml : (140737488355328 : Nat) ≤ maxLen := by decide
  have hsz : (Tryd.prog.info? 5).map (·.size) = some 1 := by kernel_rfl
  have hsl : ∀ wx, (Instr.slice 71 (.slice (some ad) n c) (some (.int .i64 1)) none none).run Tryd.prog wx = .ok (.slice (some (ad.add 1)) (n - 1) (c - 1)) wx := fun wx => by
    have h := run_slice_a (P := Tryd.prog) 71 22 Tryd.underlying71 (by kernel_rfl) (some ad) n c 1 (by omega) .i64 wx
    rw [if_neg (by omega)] at h
    exact h
  have HSL := Lib.hid hsl
  clear hsl
  go_loopg [5, 44] n (fun g s5 s44 wr => w = wr ∧ ∃ i : Nat, i ≤ n ∧ g = n - i ∧ s44 = .int .i64 i ∧ s5 = .int .i64 ((ls.take i).flatten.length : Int))
  case atStart => exact ⟨rfl, 0, Nat.zero_le _, rfl, rfl, by simp⟩
  case round =>
    obtain ⟨rfl, i, hi, hg, rfl, rfl⟩ := hrel
    have HG := Lib.hid hg
    clear hg
    obtain ⟨acc, hacc⟩ : ∃ acc, (ls.take i).flatten.length = acc := ⟨_, rfl⟩
    have hal : acc ≤ L.length := by rw [← hacc]; exact HFL.out i
    have hal2 : acc ≤ 140737488355328 := by omega
    rw [hacc]
    by_cases hlt : i < n
    · have hltI : (i : Int) < (n : Int) := by omega
      obtain ⟨v, hc1, Ai, ci, rfl, hRi, hci⟩ := HC.out i (by omega)
      obtain ⟨k, hk⟩ : ∃ k, (gl ls i).length = k := ⟨_, rfl⟩
      have hnx : (ls.take (i + 1)).flatten.length = acc + k := by rw [gl_flat ls i (by omega), List.length_append, hacc, hk]
      have hk2 : acc + k ≤ 140737488355328 := by have := HFL.out (i + 1); omega
      rw [hk] at hc1
      have HNX := Lib.hid hnx
      have hb : ¬ (9223372036854775807 - (acc : Int) < (k : Int)) := by omega
      clear hacc hk hnx hRi hci hal
      go_wp2_with fail
      go_roundg (n - (i + 1))
      case measure => have := HG.out; omega
      case rel => exact ⟨rfl, i + 1, by omega, rfl, by go_num, by rw [HNX.out]; push_cast; rfl⟩
    · have hltI : ¬ (i : Int) < (n : Int) := by omega
      have hin : i = n := by omega
      have hT : acc = L.length := by rw [← hacc, hin, ← hn, List.take_length, HL.out]
      have HT := Lib.hid hT
      clear hacc hT hal
      obtain ⟨cs, hrunM, hle, _⟩ := Lib.run_makeNoZero (P := Tryd.prog) w #[3] 22 5 Tryd.underlying22 acc (by omega)
      have hcall : (callFunc 54 #[.int .i64 (acc : Int)]).run Tryd.prog w = .ok (.value (.slice (some ⟨w.heap.size, 0, none⟩) acc cs.size)) ((w.alloc (.cells cs 5)).drewN 2) := by
        rw [run_callFunc_extern Tryd.func54 (by kernel_rfl) (by kernel_rfl) (by kernel_rfl) (e := Extern.BytealgMakeNoZero.makeNoZero #[3] #[22]) (by kernel_rfl), hrunM]
        rfl
      clear hrunM
      have i1 : (acc : Int) ≤ (cs.size : Int) := by omega
      have B0 : BufI ((w.alloc (.cells cs 5)).drewN 2) w.heap.size 5 acc [] := ⟨cs.toList, by
        have h := heap_alloc_new w (.cells cs 5)
        simpa [nums] using h, by simpa using hle, Nat.zero_le _⟩
      have K0 : Kept w.heap.size (fun _ => False) w ((w.alloc (.cells cs 5)).drewN 2) := ((Kept.refl _ _ w).alloc _ (Nat.le_refl _)).drewN 2
      obtain ⟨v0, hc0, A0, c0, rfl, hR0, hcc0⟩ := HC.out 0 (by omega)
      have hf0 : (ls.take 1).flatten = gl ls 0 := by rw [gl_flat ls 0 (by omega)]; simp
      have hl0 : (gl ls 0).length ≤ acc := by have h := HFL.out 1; rw [hf0] at h; have := HT.out; omega
      have hR0' := hR0.kept K0 hB (fun _ _ h => h)
      have hc0' : ((w.alloc (.cells cs 5)).drewN 2).cell? ad = some (.slice A0 (gl ls 0).length c0) := by
        have e0 : ad.add 0 = ad := by unfold Addr.add; simp
        rw [e0] at hc0
        exact (World.cell?_of_block (K0.block ad.block (by omega) (fun h => h))).trans hc0
      obtain ⟨w1, hr1, B1, K1⟩ := copy_nums (P := Tryd.prog) _ w.heap.size 5 acc B c0 [] (gl ls 0) A0 22 3 Tryd.underlying22 hsz B0 hR0' hB (by simpa using hl0)
      rw [List.length_nil, Lib.tailV_zero] at hr1
      rw [List.nil_append, ← hf0] at B1
      have K01 := K0.trans (S' := fun _ => False) K1 (Nat.le_refl _) (fun _ _ h => h)
      obtain ⟨k0, hk0⟩ : ∃ k0, (gl ls 0).length = k0 := ⟨_, rfl⟩
      rw [hk0] at hc0' hr1 hl0
      have HK0 := Lib.hid hk0
      have HF0 := Lib.hid hf0
      clear hf0 hk0 B0 K0 hc0 hR0 hR0' K1 hin
      have hsl := HSL.out
      go_wp2_with (at_builtin; refine Lib.wpList_copy_run _ rfl _ _ 22 22 rfl _ _ rfl rfl hr1 ?_)
      have hz1 : ∀ w, (sizeOf 5).run Tryd.prog w = .ok 1 w := fun w => by kernel_rfl
      have HZ1 := Lib.hid hz1
      have HSZ := Lib.hid hsz
      have HHC : Hid (w.heap.size = w.heap.size) := rfl
      obtain ⟨h, hh⟩ : ∃ h, w.heap.size = h := ⟨_, rfl⟩
      rw [hh] at B1 K01 hB ⊢
      have HH := Lib.hid hh
      clear hsl hcall hr1 hz1 hsz hc0' hh
      go_loopg [9, 72] (n - 1) (fun g s9 s72 wr => ∃ j : Nat, j ≤ n - 1 ∧ g = n - 1 - j ∧ s72 = .int .i64 j ∧ s9 = .int .i64 ((ls.take (j + 1)).flatten.length : Int) ∧ BufI wr h 5 acc (ls.take (j + 1)).flatten ∧ Kept h (fun _ => False) w wr)
      case atStart => exact ⟨0, Nat.zero_le _, rfl, rfl, by rw [HF0.out, HK0.out], B1, K01⟩
      case round =>
        clear B1 K01
        obtain ⟨j, hj, hg2, rfl, rfl, hBf, hK⟩ := hrel
        have HG2 := Lib.hid hg2
        obtain ⟨bp, hbp⟩ : ∃ bp, (ls.take (j + 1)).flatten.length = bp := ⟨_, rfl⟩
        obtain ⟨M, hM⟩ : ∃ M, n - 1 = M := ⟨_, rfl⟩
        have hbpa : bp ≤ acc := by have := HFL.out (j + 1); have := HT.out; omega
        rw [hbp]
        clear hg2
        by_cases hlt2 : j < M
        · have hlt2I : (j : Int) < ((n - 1 : Nat) : Int) := by omega
          obtain ⟨v, hc1, Aj, cj, rfl, hRj, hcj⟩ := HC.out (1 + j) (by omega)
          have ea : ad.add (1 + j) = ⟨ad.block, ad.off + 1 + j, none⟩ := by unfold Addr.add; rw [if_neg (by omega)]; congr 1; omega
          rw [ea] at hc1
          have hc1' := (World.cell?_of_block (a := ⟨ad.block, ad.off + 1 + j, none⟩) (hK.block ad.block (by omega) (fun h => h))).trans hc1
          have hRj' := hRj.kept hK hB (fun _ _ h => h)
          have hnx : (ls.take (j + 1 + 1)).flatten = (ls.take (j + 1)).flatten ++ gl ls (1 + j) := by rw [gl_flat ls (j + 1) (by omega), Nat.add_comm j 1]
          have hfit : bp + (gl ls (1 + j)).length ≤ acc := by
            have h := HFL.out (j + 1 + 1)
            rw [hnx, List.length_append, hbp] at h
            have := HT.out; omega
          have hst : ∀ W, (Instr.slice 22 (.slice (some ⟨h, 0, none⟩) acc acc) (some (.int .i64 (bp : Int))) none none).run Tryd.prog W = .ok (Lib.tailV h acc bp) W := fun W => Lib.run_slice_tailV W 22 5 Tryd.underlying22 HZ1.out _ acc bp hbpa
          have hr2 : (Builtin.copy_ #[22, 22] 3 #[Lib.tailV h acc bp, .slice none 0 0]).run Tryd.prog wr = .ok (.int .i64 0) wr := by
            have := run_copy_none (P := Tryd.prog) wr 22 22 3 5 (some (if acc = bp then ⟨h, 0, none⟩ else ⟨h, bp, none⟩)) none (acc - bp) (acc - bp) 0 0 Tryd.underlying22 HSZ.out (by simp)
            exact this
          obtain ⟨w3, hr3, B3, K3⟩ := copy_nums (P := Tryd.prog) wr h 5 acc B cj (ls.take (j + 1)).flatten (gl ls (1 + j)) Aj 22 3 Tryd.underlying22 HSZ.out hBf hRj' hB (by rw [hbp]; exact hfit)
          rw [hbp] at hr3
          rw [← hnx] at B3
          obtain ⟨k, hk⟩ : ∃ k, (gl ls (1 + j)).length = k := ⟨_, rfl⟩
          have hnl : (ls.take (j + 1 + 1)).flatten.length = bp + k := by rw [hnx, List.length_append, hbp, hk]
          rw [hk] at hc1' hr3 hfit
          have K13 := hK.trans (S' := fun _ => False) K3 (Nat.le_refl _) (fun _ _ h => h)
          have HNL := Lib.hid hnl
          have HM := Lib.hid hM
          clear hnx hnl hk hbp hBf hK hRj hRj' hc1 ea K3 hcj hM
          go_wp2_with (at_builtin; first | refine Lib.wpList_copy_run _ rfl _ _ 22 22 rfl _ _ rfl rfl hr2 ?_ | refine Lib.wpList_copy_run _ rfl _ _ 22 22 rfl _ _ rfl rfl hr3 ?_)
          go_roundg (n - 1 - (j + 1))
          case measure => have := HG2.out; have := HM.out; omega
          case rel => exact ⟨j + 1, by have := HM.out; omega, rfl, by go_num, by rw [HNL.out]; push_cast; rfl, B3, K13⟩
        · have hlt2I : ¬ (j : Int) < ((n - 1 : Nat) : Int) := by omega
          have hall : (ls.take (j + 1)).flatten = L := by rw [show j + 1 = n by omega, ← hn, List.take_length, HL.out]
          rw [hall] at hBf
          clear hall hbp hM
          go_wp2_with fail
          go_ret
          refine ⟨some ⟨h, 0, none⟩, acc, by rw [← HT.out]; rfl, ?_, ?_⟩
          · rw [HH.out]; exact hBf.frs HT.out.symm (Nat.le_refl _) (by omega)
          · rw [HH.out]; exact hK.below

theorem cat_any (w : World) (A : Option Addr) (c B n : Nat) (ls : List (List Int)) (L : List Int) (hL : ls.flatten = L) (hp : Parts w B A ls) (hn : ls.length = n) (hB : B ≤ w.heap.size) (hc : n ≤ c) (hn47 : n ≤ 140737488355328) (hl : L.length ≤ 140737488355328) :
    Calls Tryd.prog 39 #[.slice A n c] w (CatPost w L) := by
  have hj : Calls Tryd.prog 49 #[.slice A n c, .slice none 0 0] w (CatPost w L) := by
    rcases Nat.lt_or_ge n 2 with h | h
    · match ls, hn with
      | [], hn =>
        simp at hn
        subst hn
        obtain rfl : L = [] := by rw [← hL]; rfl
        exact join_none w A c
      | [l], hn =>
        simp at hn
        subst hn
        have e : [l].flatten = l := by simp
        obtain rfl : l = L := by rw [← hL, e]
        exact join_one w A c B l hp hB hl
      | _ :: _ :: _, hn => simp at hn; omega
    · exact join_many w A c B n ls L hL hp hn h hB hc hn47 hl
  clear hL
  go_enter Tryd.func39, Tryd.ntmps39
  go_wp2_with fail
  (with_reducible refine hj.mono ?_)
  rintro e w1 ⟨A1, c1, rfl, hF, hb⟩
  go_wp2_with fail
  go_ret
  exact ⟨A1, c1, rfl, hF, hb⟩

end Go.Proofs.YteidkdpfjponfaaDoor
