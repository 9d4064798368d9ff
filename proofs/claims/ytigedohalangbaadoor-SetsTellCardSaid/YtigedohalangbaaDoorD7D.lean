/- digits.Of: the digits of bytes, in memory of its own. Conditions: the text reads as bytes. -/
import Derived.Test.YtigedohalangbaaDoorD7A
import Derived.Test.YtigedohalangbaaDoorD7B
import Derived.Maps.AppendAt
namespace Go.Proofs.YtigedohalangbaaDoor
open Go.RowKit Go.Shelf
set_option linter.unusedVariables false
set_option linter.unusedSimpArgs false
attribute [local go_sem] Oper.semAt_some

theorem each_stops (F : Fence) (n : Nat) (h6 : F.fn 42) (hro : F.round = none) (hn : 1 ≤ n) (B1 B2 n₀ : Nat) (b : List Int) (A : Option Addr) (c L wd : Nat) (hw : IsW wd) (hL : b.length = L) (hL2 : L ≤ 9223372036854775807) (hb : Bys b) (w : World)
    (hB1 : B1 < w.heap.size) (hB2 : B2 < w.heap.size) (hn₀ : n₀ ≤ w.heap.size) (h1 : w.cell? ⟨B1, 0, none⟩ = some (.slice A L c)) (h2 : w.cell? ⟨B2, 0, none⟩ = some (.int .i64 (wd : Int))) (hr : Rd w n₀ .u8 A b) :
    SeqStopsK F n Tryd.prog 42 #[.pointer (some ⟨B1, 0, none⟩), .pointer (some ⟨B2, 0, none⟩)] (fun x : Int => #[Value.int .i64 x]) (KpD n₀ B2) (fun ys => ys = digL b wd) (fun pre => pre <+: digL b wd) (digL b wd).length w := fun l J Jx W hW hJ hJx hY h0 => by
  have c1 := (hW.cell (p := ⟨B1, 0, none⟩) hB1).trans h1
  have c2 := (hW.cell (p := ⟨B2, 0, none⟩) hB2).trans h2
  have r := hr.below (hW.mono hn₀)
  rcases hw with rfl | rfl | rfl | rfl
  · exact each1_1 F n h6 hro hn l B1 B2 n₀ b A c L hL hL2 hb J Jx W hJ hY c1 c2 r h0
  · exact each1_2 F n h6 hro hn l B1 B2 n₀ b A c L hL hL2 hb J Jx W hJ hY c1 c2 r h0
  · exact each1_4 F n h6 hro hn l B1 B2 n₀ b A c L hL hL2 hb J Jx W hJ hY c1 c2 r h0
  · exact each1_8 F n h6 hro hn l B1 B2 n₀ b A c L hL hL2 hb J Jx W hJ hY c1 c2 r h0

/-- 'out = append(out, x)' in a round, where the box of 'out' lies below the rows' base. -/
theorem boxed_app {W w1 : World} {R B : Nat} {t e : TypeId} {size : Nat} {v v' : Value} {k m : Nat} {xs ys : List Value} {tmp : Obj}
    (hv : Boxed W B t v) (hB : B < R) (hrow : W.ownsRow R e size v k xs) (hR : R ≤ W.heap.size) (hown' : w1.ownsRow R e size v' m ys) (hgrow : (W.alloc tmp).grownBy w1 v.ownBlock) :
    Boxed w1 B t v ∧ Boxed (w1.setCell ⟨B, 0, none⟩ v') B t v' ∧ (w1.setCell ⟨B, 0, none⟩ v').ownsRow R e size v' m ys ∧ KeepsOthers W (w1.setCell ⟨B, 0, none⟩ v') ∧ Kept R (fun g => g = B) W (w1.setCell ⟨B, 0, none⟩ v') := by
  have hne : ∀ {u : Value} {X : World} {q : Nat} {zs : List Value}, X.ownsRow R e size u q zs → some B ≠ u.ownBlock := fun {u X q zs} hr => by
    rcases hr.2 with ⟨rfl, _⟩ | ⟨g, cap, cur, rfl, hb, hgb, _⟩
    · simp [Value.ownBlock]
    · intro e'
      obtain rfl : B = g := by simpa [Value.ownBlock] using e'
      omega
  have hv1 : Boxed w1 B t v := (hv.alloc tmp).kept hgrow (hne hrow)
  refine ⟨hv1, hv1.set v', hown'.kept (grownBy_setCell' w1 B v') (.inr (hne hown').symm), ?_, ?_⟩
  · refine ((KeepsOthers.alloc W tmp).trans (KeepsOthers.of_grownBy hgrow fun j o ej hj => ?_)).trans (KeepsOthers.setCell _ _ _)
    rcases (hrow.alloc tmp).2 with ⟨rfl, _⟩ | ⟨g, cap, cur, rfl, _, hgb, _⟩
    · simp [Value.ownBlock] at ej
    · obtain rfl : g = j := by simpa [Value.ownBlock] using ej
      rw [hgb] at hj; cases hj; rfl
  · refine (((Kept.refl R (fun g => g = B) W).alloc tmp hR).grown hgrow (by simp; omega) fun j ej => ?_).set B 0 v' (.inr rfl)
    rcases hrow.2 with ⟨rfl, _⟩ | ⟨g, cap, cur, rfl, hb, _, _⟩
    · simp [Value.ownBlock] at ej
    · obtain rfl : g = j := by simpa [Value.ownBlock] using ej
      exact .inl hb

theorem ownFrom_kept {β : Type} {S : Nat → Prop} {W0 : World} : OwnFrom W0.heap.size (fun (_ : β) W => Kept W0.heap.size S W0 W) := fun s X Y row h hg hr =>
  h.grown hg h.size (fun g e => .inl (hr g e).1)
theorem KpD.of_kept {R B n₀ B2 : Nat} {X Y : World} (h : Kept R (fun g => g = B) X Y) (hn : n₀ ≤ B) (hB : B < R) (h2 : B2 < R) (hne : B2 ≠ B) : KpD n₀ B2 X Y :=
  ⟨(h.mono (S' := fun _ => False) (by omega) (fun k hk e => by omega)).below, h.block B2 h2 hne⟩

theorem inf_int : (Tryd.prog.info? 3).map (fun i => (i.zero, i.size, i.bytes)) = some (some (.int .i64 0), 1, 8) := by kernel_rfl
def OfPost (w : World) (l : List Int) (e : Ending) (w' : World) : Prop := ∃ A c, e = .returned (.slice A l.length c) ∧ Proofs.YtigedohalangbaaDoor.Own w' w.heap.size 3 .i64 (.slice A l.length c) l ∧ Below w.heap.size w w'

theorem of_none (A : Option Addr) (L c : Nat) (wd : Int) (w : World) (hw : mayB wd = false) :
    Calls Tryd.prog 30 #[.slice A L c, .int .i64 wd] w (OfPost w []) := by
  have hM := may_any false wd w hw
  go_enter Tryd.func30, Tryd.ntmps30
  go_wp2_with (with_reducible refine hM.mono ?_; rintro e w' ⟨rfl, hb⟩)
  go_ret
  exact ⟨none, 0, rfl, Proofs.YtigedohalangbaaDoor.Own.nil _ _ _ _, hb⟩

set_option maxRecDepth 100000 in
set_option maxHeartbeats 1000000 in
theorem of_any (b : List Int) (A : Option Addr) (L c wd : Nat) (w : World) (hw : IsW wd) (hL : b.length = L) (hL2 : L ≤ 1000000) (hb : Bys b) (hr : Rd w w.heap.size .u8 A b) :
    Calls Tryd.prog 30 #[.slice A L c, .int .i64 (wd : Int)] w (OfPost w (digL b wd)) := by
  have hlen : (digL b wd).length ≤ 8000000 := by rw [digL_len, hL]; rcases hw with rfl | rfl | rfl | rfl <;> omega
  have hmay : mayB (wd : Int) = true := by rcases hw with rfl | rfl | rfl | rfl <;> rfl
  have hM := may_any true (wd : Int) w hmay
  obtain ⟨i0, hi, hz0, hz1, hz2⟩ := info_parts inf_int
  have h8m : (8000001 : Nat) ≤ maxLen := by decide
  refine (callsIn_wide (n := 6)).1 ?_
  have hfn : ∀ f, Fence.wide.fn f := fun _ => trivial
  refine callsIn_of_wp_marks Tryd.func30 rfl trivial ?_ rfl
  simp only [Tryd.ntmps30, List.size_toArray, List.length_cons, List.length_nil, Nat.reduceAdd, Nat.reduceSub, Array.replicate_succ, Array.replicate_zero, List.push_toArray, List.append_toArray, List.nil_append, List.cons_append]
  gi_wp2_with (first | ((with_reducible refine (callsIn_wide.2 hM).mono ?_); rintro e w1 ⟨rfl, hb1⟩) | (gi_at_call 40; refine (each_in Fence.wide _ trivial rfl _ _ _ _ _).mono ?_; rintro e w' ⟨rfl, rfl⟩))
  obtain ⟨q, hq⟩ : ∃ q, w1.heap.size = q := ⟨_, rfl⟩
  have hqs : w.heap.size ≤ q := by rw [← hq]; exact hb1.size
  rw [hq]
  have bO := Boxed.new w1 45 (.slice none 0 0)
  rw [hq] at bO
  have bB := Boxed.new (w1.alloc (.cells #[.slice none 0 0] 45)) 47 (.slice A L c)
  rw [World.size_alloc, hq] at bB
  have bW := Boxed.new ((w1.alloc (.cells #[.slice none 0 0] 45)).alloc (.cells #[.slice A L c] 47)) 3 (.int .i64 (wd : Int))
  rw [World.size_alloc, World.size_alloc, hq] at bW
  have hB0 : Below w.heap.size w (((w1.alloc (.cells #[.slice none 0 0] 45)).alloc (.cells #[.slice A L c] 47)).alloc (.cells #[.int .i64 (wd : Int)] 3)) := ((hb1.alloc (by omega) _).alloc (by simp; omega) _).alloc (by simp; omega) _
  have bO := (bO.alloc (.cells #[.slice A L c] 47)).alloc (.cells #[.int .i64 (wd : Int)] 3)
  have bB := bB.alloc (.cells #[.int .i64 (wd : Int)] 3)
  have hsz : (((w1.alloc (.cells #[.slice none 0 0] 45)).alloc (.cells #[.slice A L c] 47)).alloc (.cells #[.int .i64 (wd : Int)] 3)).heap.size = q + 3 := by simp [hq]
  generalize ((w1.alloc (.cells #[.slice none 0 0] 45)).alloc (.cells #[.slice A L c] 47)).alloc (.cells #[.int .i64 (wd : Int)] 3) = W0 at *
  have hr0 := hr.below hB0
  have HQ := Lib.hid hq
  clear hq hM
  refine wpIn_rangeFunc_ownG rfl (by decide) (gf := 42) (lb := #[.pointer (some ⟨q + 1, 0, none⟩), .pointer (some ⟨q + 1 + 1, 0, none⟩)]) rfl trivial (enters_of Tryd.func42 (by kernel_rfl) rfl)
    (each_stops Fence.wide _ trivial rfl (by decide) (q + 1) (q + 1 + 1) w.heap.size b A c L wd hw hL (by omega) hb W0 (by omega) (by omega) hB0.size bB.cell bW.cell hr0) (fun h k => h.trans k) (fun W l o o' hl h h1 h2 => KpD.putObj (m := W0.heap.size) hB0.size (by omega) W l o o' hl h h1 h2) (Below.refl _ _) (fun _ => rfl)
    (fun pre W => (∃ v, Boxed W q 45 v ∧ W.ownsRow (q + 3) 3 1 v pre.length (pre.map (Value.int .i64)) ∧ True) ∧ Kept W0.heap.size (fun g => g = q) W0 W)
    (fun _ _ _ => False)
    (OwnFrom.and (Go.Own.from (holdsRow_own (q + 3) q 45 3 1 (fun pre : List Int => pre.length) (fun pre : List Int => pre.map (Value.int .i64)) (fun pre v => True)) _) ownFrom_kept)
    (fun _ _ _ _ _ hs _ _ => hs)
    ⟨⟨_, bO, World.ownsRow_nil _ _ _ _, trivial⟩, Kept.refl _ _ _⟩
    (fun x => { tmps := #[.slice A L c, .int .i64 (wd : Int), undef, undef, .slice none 0 0, .pointer (some ⟨q, 0, none⟩), .int .i64 x, .int .i64 (wd : Int), .bool true, .bool false, .slice A L c, .int .i64 (wd : Int), .func (.func 42) #[] #[.pointer (some ⟨q + 1, 0, none⟩), .pointer (some ⟨q + 1 + 1, 0, none⟩)], .int .i64 x, undef, undef, undef, undef, undef], defers := [] }) ?assign ?body ?done ?stop
  case assign =>
    intro l x W K hK
    gi_wp2
    exact hK
  case body =>
    rintro l pre x W ⟨⟨v, hv, hrow, _⟩, hB⟩ hlt
    have hc := hv.cell
    have hWs := hB.size
    gi_wp2_with (gi_at_builtin; refine wpListIn_append_own _ rfl _ _ 45 rfl (q + 3) 3 i0 (.int .i64 0) 1 8 Tryd.underlying45 hi hz0 hz1 hz2 rfl (by decide) _ _ _ rfl (hrow.alloc _) ⟨W.heap.size, 0, none⟩ 1 1 [.int .i64 x] rfl rfl (cell_one_new _ _ _) (by simp [Value.oneCell']) (by omega) (by omega) (by simp; omega) ?_; intro v' w2 hown' hgrow _; obtain ⟨g', cap', rfl⟩ := ownsRow_succ hown'; obtain ⟨hv1, hv2, hr2, hk2, hb2⟩ := boxed_app hv (by omega) hrow (by omega) hown' hgrow; have hc1 := hv1.cell; have hf1 := hv1.frozen)
    exact ⟨hk2.from _, KpD.of_kept hb2 hqs (by omega) (by omega) (by omega), ⟨_, hv2, by simpa using hr2, trivial⟩, by rw [hsz] at hB ⊢; exact hB.trans (S' := fun g => g = q) hb2 (Nat.le_refl _) (fun _ _ h => h)⟩
  case done =>
    rintro D ys W hD rfl ⟨⟨v, hv, hrow, _⟩, hB⟩ hK
    have hc := hv.cell
    gi_wp2
    refine ⟨by simp, .inl ⟨_, _, rfl, run_takeDeferred hK, ?_⟩⟩
    have hO : Proofs.YtigedohalangbaaDoor.Own W (q + 3) 3 .i64 v (digL b wd) := hrow
    obtain ⟨A', c', rfl, _⟩ := hO.form
    have hbb : Below w.heap.size w W := hB0.trans ((hB.mono (S' := fun _ => False) (by omega) (fun k hk e => by omega)).below)
    exact ⟨_, results_tmp rfl _ _ _, A', c', rfl, (show Proofs.YtigedohalangbaaDoor.Own _ (q + 3) 3 .i64 _ _ from ownsRow_putObj hrow _ hK rfl).low (by omega), hbb.trans (belowK_b (w := w) (Nat.le_refl _) W D _ _ (by omega) hK rfl rfl)⟩
  case stop =>
    rintro D c pre W _ _ h _
    exact h.elim

end Go.Proofs.YtigedohalangbaaDoor
