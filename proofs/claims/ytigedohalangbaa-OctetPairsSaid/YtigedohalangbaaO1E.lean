/- octet.Cut: cut in parts; refused as too short. Conditions: the slice reads as bytes, the sizes as numbers. -/
import Derived.Test.YtigedohalangbaaO1D
import Derived.Test.YtigedohalangbaaCat
import Derived.Test.YtigedohalangbaaRp
import Derived.Maps.AppendAt
import Derived.RangeFuncBox
import Derived.Deep.LoopGhost
namespace Go.Proofs.Ytigedohalangbaa
open Go.RowKit
set_option linter.unusedVariables false
set_option linter.unusedSimpArgs false

def CutNo (w : World) (x : Int) (e : Ending) (w' : World) : Prop := e = .returned (.tuple #[.slice none 0 0, .int .i64 x]) ∧ Below w.heap.size w w'
set_option maxRecDepth 100000 in
set_option maxHeartbeats 1000000 in
theorem cut_short (A S : Option Addr) (L c cs B : Nat) (n : Int) (w : World) (hs : Rd w B .i64 S [n]) (hn : (L : Int) < n) (hB : B ≤ w.heap.size) :
    Calls Try.prog 31 #[.slice A L c, .slice S 1 cs] w (CutNo w 2) := by
  obtain ⟨ad, rfl, hadB, hcx⟩ := hs (by simp)
  have hc0 : w.cell? ad = some (.int .i64 n) := by
    have := hcx 0 (by simp)
    rwa [show ad.add 0 = ad by unfold Addr.add; simp] at this
  have hlt := World.block_lt_of_cell? w _ hc0
  have hmf : ∀ (fn : Fn) (first cap : Array Value) (w : World), (Instr.makeFunc fn first cap).run Try.prog w = .ok (.func fn first cap) w := fun _ _ _ _ => rfl
  obtain ⟨w2, hw2⟩ : ∃ w2, (w.alloc (.cells #[.slice none 0 0] 44)).alloc (.cells #[.int .i64 0] 45) = w2 := ⟨_, rfl⟩
  have hc2 : w2.cell? ad = some (.int .i64 n) := by rw [← hw2]; exact cell_later _ (cell_later _ hc0)
  have hPP := part_short A L c n w2 hn
  go_enter_defers Try.func31, Try.ntmps31
  go_wp2
  go_loopg [0, 7, 8, 12] 0 (fun g s0 s7 s8 s12 wr => wr = w2 ∧ s0 = .slice A L c ∧ s12 = .int .i64 0)
  case atStart => exact ⟨rfl, rfl, rfl⟩
  case round =>
    obtain ⟨rfl, rfl, rfl⟩ := hrel
    go_wp2_with (with_reducible refine hPP.mono ?_; rintro e w' ⟨rfl, rfl⟩)
    have b0 : wr.cell? ⟨w.heap.size, 0, none⟩ = some (.slice none 0 0) := by rw [← hw2]; exact cell_later _ (Boxed.new w _ _).cell
    have b1 : wr.cell? ⟨w.heap.size + 1, 0, none⟩ = some (.int .i64 0) := by
      rw [← hw2]
      have := (Boxed.new (w.alloc (.cells #[.slice none 0 0] 44)) 45 (.int .i64 0)).cell
      rwa [World.size_alloc] at this
    have f0 : wr.frozen? ⟨w.heap.size, 0, none⟩ = false := by rw [← hw2]; exact ((Boxed.new w _ _).alloc _).frozen
    have f1 : wr.frozen? ⟨w.heap.size + 1, 0, none⟩ = false := by
      rw [← hw2]
      have := (Boxed.new (w.alloc (.cells #[.slice none 0 0] 44)) 45 (.int .i64 0)).frozen
      rwa [World.size_alloc] at this
    have hk2 : Kept w.heap.size (fun _ => False) w wr := by rw [← hw2]; exact ((Kept.refl _ _ w).alloc _ (Nat.le_refl _)).alloc _ (by simp)
    have hsz : wr.heap.size = w.heap.size + 2 := by rw [← hw2]; simp
    clear hPP hmf hw2
    refine leaves_cons (f := 41) (args := #[.pointer (some ⟨w.heap.size, 0, none⟩), .pointer (some ⟨w.heap.size + 1, 0, none⟩)]) (by simp) (by simp [go_sem]) ?_
    refine (cutD_panics w.heap.size (w.heap.size + 1) 2 [] wr _ _ b0 f0 b1 f1 (by omega)).mono ?_
    rintro e u' w'' ⟨rfl, rfl, h1, h2, h3⟩
    have hbel : Below w.heap.size w w'' := (hk2.trans h3 (by omega) (fun k hk h => by omega)).below
    simp [Leaves, settle, results, Try.results31, go_sem, h1, h2]
    exact ⟨rfl, hbel⟩

/-! ### Cut in parts -/
def cutL (l : List Int) : List Nat → List (List Int)
  | [] => []
  | n :: ns => l.take n :: cutL (l.drop n) ns
theorem cutL_len (l : List Int) (ns : List Nat) : (cutL l ns).length = ns.length := by
  induction ns generalizing l with
  | nil => rfl
  | cons n ns ih => simp [cutL, ih]
theorem gl_cutL : ∀ (l : List Int) (ns : List Nat) (i : Nat), i < ns.length → gl (cutL l ns) i = (l.drop (ns.take i).sum).take (ns.getD i 0)
  | l, [], i, h => by simp at h
  | l, n :: ns, 0, _ => by simp [cutL, gl]
  | l, n :: ns, i + 1, h => by
    have := gl_cutL (l.drop n) ns i (by simpa using h)
    simp only [gl, cutL, List.getD_cons_succ, List.take_succ_cons, List.sum_cons] at this ⊢
    rw [this, List.drop_drop]
theorem sum_take_succ (ns : List Nat) (i : Nat) (h : i < ns.length) : (ns.take (i + 1)).sum = (ns.take i).sum + ns.getD i 0 := by
  rw [List.take_succ_eq_append_getElem h, List.sum_append]
  simp [List.getD_eq_getElem?_getD, h]
theorem sum_take_le (ns : List Nat) (i : Nat) : (ns.take i).sum ≤ ns.sum := by
  have : (ns.take i).sum + (ns.drop i).sum = ns.sum := by rw [← List.sum_append, List.take_append_drop]
  omega
theorem cutL_flat (l : List Int) (ns : List Nat) (h : ns.sum = l.length) : (cutL l ns).flatten = l := by
  induction ns generalizing l with
  | nil => simp at h; simp [cutL, List.eq_nil_of_length_eq_zero h.symm]
  | cons n ns ih =>
    simp only [List.sum_cons] at h
    rw [cutL, List.flatten_cons, ih (l.drop n) (by simp; omega), List.take_append_drop]
theorem row_app {W w1 : World} {R B : Nat} {t e : TypeId} {size : Nat} {v v' : Value} {k m : Nat} {xs ys : List Value} {tmp : Obj}
    (hv : Boxed W B t v) (hB : B < R) (hrow : W.ownsRow R e size v k xs) (hR : R ≤ W.heap.size) (hown' : w1.ownsRow R e size v' m ys) (hgrow : (W.alloc tmp).grownBy w1 v.ownBlock) :
    Boxed w1 B t v ∧ Boxed (w1.setCell ⟨B, 0, none⟩ v') B t v' ∧ (w1.setCell ⟨B, 0, none⟩ v').ownsRow R e size v' m ys ∧ Kept R (fun g => g = B) W (w1.setCell ⟨B, 0, none⟩ v') ∧
      ∀ (g : Nat) (cs : Array Value) (te : Nat) (fl : Nat × Nat), te ≠ t → te ≠ e → W.heap[g]? = some (Obj.cells cs te fl) → (w1.setCell ⟨B, 0, none⟩ v').heap[g]? = W.heap[g]? := by
  have hne : ∀ {u : Value} {X : World} {q : Nat} {zs : List Value}, X.ownsRow R e size u q zs → some B ≠ u.ownBlock := fun {u X q zs} hr => by
    rcases hr.2 with ⟨rfl, _⟩ | ⟨g, cap, cur, rfl, hb, hgb, _⟩
    · simp [Value.ownBlock]
    · intro e'
      obtain rfl : B = g := by simpa [Value.ownBlock] using e'
      omega
  have hv1 : Boxed w1 B t v := (hv.alloc tmp).kept hgrow (hne hrow)
  refine ⟨hv1, hv1.set v', hown'.kept (grownBy_setCell' w1 B v') (.inr (hne hown').symm), ?_, ?_⟩
  · refine (((Kept.refl R (fun g => g = B) W).alloc tmp hR).grown hgrow (by simp; omega) fun j ej => ?_).set B 0 v' (.inr rfl)
    rcases hrow.2 with ⟨rfl, _⟩ | ⟨g, cap, cur, rfl, hb, _, _⟩
    · simp [Value.ownBlock] at ej
    · obtain rfl : g = j := by simpa [Value.ownBlock] using ej
      exact .inl hb
  · intro g cs te fl h1 h2 hg
    have hlt := (Array.getElem?_eq_some_iff.1 hg).1
    have n1 : g ≠ B := fun he => by
      subst he
      have := (show W.heap[g]? = _ from hv).symm.trans hg
      simp at this
      exact h1 this.2.1.symm
    have n2 : some g ≠ v.ownBlock := fun he => by
      rcases hrow.2 with ⟨rfl, _⟩ | ⟨g', cap, cur, rfl, hb, hgb, _⟩
      · simp [Value.ownBlock] at he
      · obtain rfl : g = g' := by simpa [Value.ownBlock] using he
        have := hgb.symm.trans hg
        simp at this
        exact h2 this.2.1.symm
    rw [heap_setCell_other w1 _ g v' n1, hgrow.block g (by simp; omega) n2]
    exact Below.heap_alloc W tmp g hlt

theorem row_keep {w w' : World} {b e size n : Nat} {v : Value} {xs : List Value} (h : w.ownsRow b e size v n xs) (hg : ∀ g, v.ownBlock = some g → w'.heap[g]? = w.heap[g]?) : w'.ownsRow b e size v n xs := by
  refine ⟨h.1, ?_⟩
  rcases h.2 with hn | ⟨g, cap, cur, rfl, hb, hgg, rest⟩
  · exact .inl hn
  · exact .inr ⟨g, cap, cur, rfl, hb, by rw [hg g rfl]; exact hgg, rest⟩
theorem Own.over {W W' : World} {e e' : Nat} {b t : Nat} {k : IntKind} {u : Value} {l : List Int} (hO : Own W b e' k u l) (h1 : e' ≠ t) (h2 : e' ≠ e)
    (hk : ∀ (g : Nat) (cs : Array Value) (te : Nat) (fl : Nat × Nat), te ≠ t → te ≠ e → W.heap[g]? = some (Obj.cells cs te fl) → W'.heap[g]? = W.heap[g]?) : Own W' b e' k u l :=
  hO.keep fun g hg => by
    rcases hO.2 with ⟨rfl, _⟩ | ⟨g', cap, cur, rfl, hb, hgb, _⟩
    · simp [Value.ownBlock] at hg
    · obtain rfl : g' = g := by simpa [Value.ownBlock] using hg
      exact hk _ _ _ _ h1 h2 hgb
theorem inf_sl : (Try.prog.info? 22).map (fun i => (i.zero, i.size, i.bytes)) = some (some (.slice none 0 0), 1, 24) := by kernel_rfl
/-- What one part is, in memory of its own. -/
def OwnPart (w : World) (b : Nat) (v : Value) (l : List Int) : Prop := ∃ A c, v = .slice A l.length c ∧ Own w b 5 .u8 (.slice A l.length c) l
def CutOk (w : World) (ls : List (List Int)) (e : Ending) (w' : World) : Prop :=
  ∃ A c, e = .returned (.tuple #[.slice A ls.length c, .int .i64 0]) ∧ Parts w' w'.heap.size A ls ∧ ls.length ≤ c ∧ Below w.heap.size w w'
theorem parts_of_row {w : World} {R n : Nat} {v : Value} {vs : List Value} {ls : List (List Int)} (hrow : w.ownsRow R 22 1 v n vs) (hn : ls.length = n) (hp : ∀ k, k < n → OwnPart w R (vs.getD k undef) (gl ls k)) :
    ∃ A c, v = .slice A n c ∧ n ≤ c ∧ Parts w w.heap.size A ls := by
  rcases hrow.2 with ⟨rfl, h0⟩ | ⟨g, cap, cur, rfl, hb, hg, hnc, hcm, hcs, htake⟩
  · exact ⟨none, 0, by rw [h0], by omega, fun h => absurd h (by omega)⟩
  · have hlt := (Array.getElem?_eq_some_iff.1 hg).1
    refine ⟨some ⟨g, 0, none⟩, cap, rfl, hnc, fun _ => ⟨_, rfl, hlt, fun i hi => ⟨vs.getD i undef, ?_, ?_⟩⟩⟩
    · have hvl : vs.length = n := by have := hrow.1; omega
      have := World.ownsRow.cells hrow (g := g) rfl i (vs.getD i undef) (by simp [List.getD_eq_getElem?_getD, List.getElem?_eq_getElem (show i < vs.length by omega)])
      exact this
    · obtain ⟨A, c, h1, h2⟩ := hp i (by omega)
      exact ⟨A, c, h1, h2.rd, h2.len.2⟩

set_option maxRecDepth 100000 in
set_option maxHeartbeats 1000000 in
theorem cut_any (l : List Int) (ns : List Nat) (A S : Option Addr) (L c m cs B : Nat) (w : World) (hr : Rd w w.heap.size .u8 A l) (hs : Rd w w.heap.size .i64 S (ns.map fun n : Nat => (n : Int))) (hL : l.length = L) (hm : ns.length = m) (hsum : ns.sum = L) (hc : L ≤ c) (hA : A = none → c = 0) (hL2 : L ≤ 1000000) (hm2 : m ≤ 1000000) :
    Calls Try.prog 31 #[.slice A L c, .slice S m cs] w (CutOk w (cutL l ns)) := by
  have hmf : ∀ (fn : Fn) (first cap : Array Value) (w : World), (Instr.makeFunc fn first cap).run Try.prog w = .ok (.func fn first cap) w := fun _ _ _ _ => rfl
  obtain ⟨i0, hi, hz0, hz1, hz2⟩ := info_parts inf_sl
  have hmx : (2000000 : Nat) ≤ maxLen := by decide
  obtain ⟨w2, hw2⟩ : ∃ w2, (w.alloc (.cells #[.slice none 0 0] 44)).alloc (.cells #[.int .i64 0] 45) = w2 := ⟨_, rfl⟩
  obtain ⟨q, hq⟩ : ∃ q, w.heap.size = q := ⟨_, rfl⟩
  have bO : Boxed w2 q 44 (.slice none 0 0) := by rw [← hw2, ← hq]; exact (Boxed.new w _ _).alloc _
  have bE : Boxed w2 (q + 1) 45 (.int .i64 0) := by
    rw [← hw2, ← hq]
    have := Boxed.new (w.alloc (.cells #[.slice none 0 0] 44)) 45 (.int .i64 0)
    rwa [World.size_alloc] at this
  have hk2 : Kept q (fun _ => False) w w2 := by rw [← hw2, ← hq]; exact ((Kept.refl _ _ w).alloc _ (Nat.le_refl _)).alloc _ (by simp)
  have hsz : w2.heap.size = q + 2 := by rw [← hw2, ← hq]; simp
  rw [hq] at hr hs
  have hr2 := hr.kept hk2 (Nat.le_refl _) (fun _ _ h => h)
  have hs2 := hs.kept hk2 (Nat.le_refl _) (fun _ _ h => h)
  have HQ := Lib.hid hq
  go_enter_defers Try.func31, Try.ntmps31
  go_wp2
  have HW := Lib.hid hw2
  clear hw2 hq hr hs
  go_loopg [0, 7, 8, 12] m (fun g s0 s7 s8 s12 wr => ∃ (i : Nat) (Ai : Option Addr) (o : Nat) (v : Value) (vs : List Value), s12 = .int .i64 i ∧ g = m - i ∧ i ≤ m ∧ (ns.take i).sum = o ∧ s0 = .slice Ai (L - o) (c - o) ∧ (Ai = none → c - o = 0) ∧ Rd wr q .u8 Ai (l.drop o) ∧
    Boxed wr q 44 v ∧ wr.ownsRow (q + 2) 22 1 v i vs ∧ (∀ k, k < i → OwnPart wr (q + 2) (vs.getD k undef) (gl (cutL l ns) k)) ∧ Kept (q + 2) (fun g => g = q) w2 wr)
  case atStart => exact ⟨0, A, 0, _, [], rfl, rfl, Nat.zero_le _, rfl, rfl, hA, by simpa using hr2, bO, World.ownsRow_nil _ _ _ _, fun k hk => absurd hk (by omega), Kept.refl _ _ _⟩
  case round =>
    clear bO hr2
    obtain ⟨i, Ai, o, v, vs, rfl, hg, him, ho, rfl, hnil, hR, hbx, hrow, hps, hK⟩ := hrel
    have HG := Lib.hid hg
    have HO := Lib.hid ho
    have HPS := Lib.hid hps
    have HNIL := Lib.hid hnil
    have hoL : o ≤ L := by rw [← ho, ← hsum]; exact sum_take_le ns i
    clear hg ho hps hnil
    by_cases hlt : i < m
    · have hltI : (i : Int) < (m : Int) := by omega
      obtain ⟨n, hn⟩ : ∃ n, ns.getD i 0 = n := ⟨_, rfl⟩
      have hon : o + n ≤ L := by have h := sum_take_succ ns i (by omega); rw [HO.out, hn] at h; rw [← h, ← hsum]; exact sum_take_le ns (i + 1)
      obtain ⟨sa, rfl, hsB, hsc⟩ := hs2.at_ (i := i) (by simp; omega)
      have hgn : gt (ns.map fun n : Nat => (n : Int)) i = (n : Int) := by
        rw [← hn]
        simp [gt, List.getD_eq_getElem?_getD, List.getElem?_eq_getElem (show i < ns.length by omega)]
      rw [hgn] at hsc
      have hsc1 : wr.cell? (sa.add i) = some (.int .i64 (n : Int)) := hK.cell hsc (by rw [block_plus]; omega) (by rw [block_plus]; omega)
      have hWs := hK.size
      have hP := part_any (l.drop o) Ai (L - o) (c - o) n wr (hR.more (by omega)) (by rw [List.length_drop, hL]) (by omega) (by omega) (by omega) HNIL.out
      have hgp : gl (cutL l ns) i = (l.drop o).take n := by rw [gl_cutL l ns i (by omega), HO.out, hn]
      have hpl : ((l.drop o).take n).length = n := by rw [List.length_take, List.length_drop]; omega
      have HGP := Lib.hid hgp
      have HPL := Lib.hid hpl
      have HN := Lib.hid hn
      have HGN := Lib.hid hgn
      clear hgp hpl hn hgn hsc
      go_wp2_with fail
      refine hP.mono ?_
      rintro e w3 ⟨A1, c1, rfl, hO1, hb1⟩
      clear hP hsc1
      have hK3 : Kept (q + 2) (fun g => g = q) w2 w3 := hK.trans (S' := fun _ => False) (Kept.of_below hb1) (by omega) (fun k _ h => h.elim)
      have bx3 : Boxed w3 q 44 v := (hb1.block q (by omega)).trans hbx
      have row3 : w3.ownsRow (q + 2) 22 1 v i vs := row_keep hrow fun g hg => hb1.block g (World.ownsRow.lt hrow g hg).2
      have hs3 := hK3.size
      have hR3 := hR.below (hb1.mono (by omega))
      have hO3 := hO1.low (b' := q + 2) (by omega)
      have hPS3 : ∀ k, k < i → OwnPart w3 (q + 2) (vs.getD k undef) (gl (cutL l ns) k) := fun k hk => by
        obtain ⟨A0, c0, h1, h2⟩ := HPS.out k hk
        exact ⟨A0, c0, h1, h2.below hb1 (Nat.le_refl _)⟩
      have hcb := bx3.cell
      have HPS3 := Lib.hid hPS3
      clear hb1 hO1 hPS3 HPS hK hR hbx hrow
      go_wp2_with (at_builtin; refine wpList_append_own _ rfl _ _ 44 rfl (q + 2) 22 i0 (.slice none 0 0) 1 24 Try.underlying44 hi hz0 hz1 hz2 rfl (by decide) _ _ _ rfl (row3.alloc _) ⟨w3.heap.size, 0, none⟩ 1 1 [.slice A1 n c1] rfl rfl (cell_one_new _ _ _) (by simp [Value.oneCell']) (by omega) (by omega) (by simp; omega) ?_; intro v' w5 hown' hgrow _; obtain ⟨g', cap', rfl⟩ := ownsRow_succ hown'; obtain ⟨hv1, hv2, hr2', hk5, hov⟩ := row_app bx3 (by omega) row3 (by omega) hown' hgrow; have hc1 := hv1.cell; have hf1 := hv1.frozen)
      have hvl : vs.length = i := by have := row3.1; omega
      have hK5 : Kept (q + 2) (fun g => g = q) w2 (w5.setCell ⟨q, 0, none⟩ (.slice (some ⟨g', 0, none⟩) (i + 1) cap')) := hK3.trans hk5 (Nat.le_refl _) (fun _ _ h => h)
      go_roundg (m - (i + 1))
      case measure => have := HG.out; omega
      case rel =>
        refine ⟨i + 1, tailA Ai (c - o) n, o + n, _, vs ++ [.slice A1 n c1], by go_num, rfl, by omega, by rw [sum_take_succ ns i (by omega), HO.out, HN.out], by simp [Nat.sub_sub], fun hnone => ?_, ?_, hv2, hr2', fun k hk => ?_, hK5⟩
        · unfold tailA at hnone
          split at hnone
          · omega
          · have h0 : Ai = none := by cases Ai with
              | none => rfl
              | some a => simp at hnone
            have := HNIL.out h0; omega
        · have h1 : Rd (w5.setCell ⟨q, 0, none⟩ (.slice (some ⟨g', 0, none⟩) (i + 1) cap')) q .u8 Ai (l.drop o) := hR3.kept hk5 (by omega) (fun g hg h => by omega)
          have h2 := h1.cut n (l.drop o).length (c - o) (Nat.le_refl _) (by rw [List.length_drop, hL]; omega)
          rw [List.take_length, List.drop_drop] at h2
          exact h2
        · rcases Nat.lt_or_ge k i with hki | hki
          · obtain ⟨A0, c0, h1, h2⟩ := HPS3.out k hki
            refine ⟨A0, c0, ?_, h2.over (t := 44) (e := 22) (by decide) (by decide) hov⟩
            rw [← h1]
            simp only [List.getD_eq_getElem?_getD]
            rw [List.getElem?_append_left (by omega)]
          · obtain rfl : k = i := by omega
            refine ⟨A1, c1, ?_, ?_⟩
            · rw [HGP.out, HPL.out]
              simp only [List.getD_eq_getElem?_getD]
              rw [List.getElem?_append_right (by omega), hvl, Nat.sub_self]
              rfl
            · rw [HGP.out, HPL.out]
              exact hO3.over (t := 44) (e := 22) (by decide) (by decide) hov
    · have hltI : ¬ (i : Int) < (m : Int) := by omega
      obtain rfl : i = m := by omega
      have hoo : o = L := by rw [← HO.out, ← hm, List.take_length, hsum]
      subst hoo
      have hcb := hbx.cell
      have hfb := hbx.frozen
      have hce : wr.cell? ⟨q + 1, 0, none⟩ = some (.int .i64 0) := hK.cell bE.cell (by show q + 1 < q + 2; omega) (fun h => by have : q + 1 = q := h; omega)
      have hfe : wr.frozen? ⟨q + 1, 0, none⟩ = false := by
        have : wr.heap[q + 1]? = w2.heap[q + 1]? := hK.block (q + 1) (by omega) (by omega)
        rw [frozen_of_block this]; exact bE.frozen
      rw [Nat.sub_self]
      have hcl : (cutL l ns).length = i := by rw [cutL_len, hm]
      have hPS := HPS.out
      obtain ⟨A', c', rfl, hnc, hparts⟩ := parts_of_row hrow hcl hPS
      have hWs := hK.size
      have hKf : Kept (q + 2) (fun g => g = q ∨ g = q + 1) wr ((wr.setCell ⟨q, 0, none⟩ (.slice A' i c')).setCell ⟨q + 1, 0, none⟩ (.int .i64 0)) := ((Kept.refl _ _ wr).set q 0 _ (.inr (.inl rfl))).set (q + 1) 0 _ (.inr (.inr rfl))
      have hpf := parts_of_row (w := (wr.setCell ⟨q, 0, none⟩ (.slice A' i c')).setCell ⟨q + 1, 0, none⟩ (.int .i64 0)) (R := q + 2) (row_keep hrow fun g hg => by
          have := (World.ownsRow.lt hrow g hg).1
          rw [heap_setCell_other _ _ g _ (by show g ≠ q + 1; omega), heap_setCell_other _ _ g _ (by show g ≠ q; omega)]) hcl (fun k hk => by
          obtain ⟨A0, c0, h1, h2⟩ := hPS k hk
          exact ⟨A0, c0, h1, (h2.other q 0 _ (fun g hg => by have := (h2.lt g hg).1; omega)).other (q + 1) 0 _ (fun g hg => by have := (h2.lt g hg).1; omega)⟩)
      have b0 : ((wr.setCell ⟨q, 0, none⟩ (.slice A' i c')).setCell ⟨q + 1, 0, none⟩ (.int .i64 0)).cell? ⟨q, 0, none⟩ = some (.slice A' i c') := by
        rw [World.cell?_setCell_other _ _ _ _ (by first | (simp; done) | (simp; omega))]
        exact World.cell?_setCell_same' _ _ _ (by rw [hcb]; rfl)
      have b1 : ((wr.setCell ⟨q, 0, none⟩ (.slice A' i c')).setCell ⟨q + 1, 0, none⟩ (.int .i64 0)).cell? ⟨q + 1, 0, none⟩ = some (.int .i64 0) := by
        refine World.cell?_setCell_same' _ _ _ ?_
        rw [World.cell?_setCell_other _ _ _ _ (by first | (simp; done) | (simp; omega)), hce]; rfl
      have hbel : Below q w ((wr.setCell ⟨q, 0, none⟩ (.slice A' i c')).setCell ⟨q + 1, 0, none⟩ (.int .i64 0)) := ((hk2.trans hK (by omega) (fun k hk h => by omega)).trans hKf (by omega) (fun k hk h => by omega)).below
      obtain ⟨A2, c2, hv2, hnc2, hparts2⟩ := hpf
      injection hv2 with hv2 _ hv3
      subst hv2 hv3
      clear hrow hparts hKf hK HPS hPS
      go_wp2_with fail
      refine leaves_cons (f := 41) (args := #[.pointer (some ⟨q, 0, none⟩), .pointer (some ⟨q + 1, 0, none⟩)]) (by simp) (by simp [go_sem]) ?_
      refine (cutD_idle ⟨q, 0, none⟩ ⟨q + 1, 0, none⟩ _).mono ?_
      rintro e u' w'' ⟨rfl, rfl, rfl⟩
      simp [Leaves, settle, results, Try.results31, go_sem, b0, b1]
      unfold CutOk
      rw [hcl, HQ.out]
      exact ⟨A', c', rfl, hparts2, hnc, hbel⟩

end Go.Proofs.Ytigedohalangbaa
