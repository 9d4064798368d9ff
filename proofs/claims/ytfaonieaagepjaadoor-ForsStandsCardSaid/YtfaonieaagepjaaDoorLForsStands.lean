/- The law ForsStands: for every input that its row lets in the call returns true and leaves what it was given as it was. -/
import Derived.Test.YtfaonieaagepjaaDoorCards
import Derived.Test.YtfaonieaagepjaaDoorTie
import Derived.Test.YtfaonieaagepjaaDoorF7X
import Derived.Test.YtfaonieaagepjaaDoorOpenK
import Derived.Test.YtfaonieaagepjaaDoorOpenA
import Derived.Test.YtfaonieaagepjaaDoorZA
import Derived.ProofKit
import Derived.OpenShut
import Derived.Deep.DeepHandedRow
import Derived.Lib.LaidTab
import Derived.ShutString
import Derived.Deep.Slices
import Derived.Stop.LaidErr
namespace Go.Proofs.YtfaonieaagepjaaDoor.forsStands
open Go.ChangeShapes Go.WideShapes Go.ChangeAt Go.RowKit
set_option linter.unusedVariables false
set_option linter.unusedSimpArgs false

theorem own : ownKnob Tryd.prog.godebug = none := by kernel_rfl
theorem laidOut : laidOutB Tryd.prog = true := by kernel_rfl
theorem g_rc : Tryd.prog.globalNamed "tearoff/keccak.rc" = some 4 := by kernel_rfl
theorem gt_rc : (Tryd.prog.globals[4]?).map (·.type) = some 98 := by kernel_rfl
theorem gc_rc : Tryd.prog.cellsOf 98 = 24 := by kernel_rfl
theorem ge_rc : Tryd.prog.cellsOf 25 = 1 := by kernel_rfl
theorem g_turns : Tryd.prog.globalNamed "tearoff/keccak.turns" = some 3 := by kernel_rfl
theorem gt_turns : (Tryd.prog.globals[3]?).map (·.type) = some 124 := by kernel_rfl
theorem gc_turns : Tryd.prog.cellsOf 124 = 25 := by kernel_rfl
theorem ge_turns : Tryd.prog.cellsOf 3 = 1 := by kernel_rfl
/-- What the row's list gives. -/
theorem tabs {W : World} (h : laidMet Tryd.prog Rows.forsStandsRow.laid W) : Tab W 4 .u64 rcL ∧ Tab W 3 .i64 turnsL := by
  have t_rc : Lib.TabIs Tryd.prog W "tearoff/keccak.rc" .u64 rcL := Lib.tabIs_of_head g_rc gt_rc Tryd.underlying98 Tryd.underlying25 ge_rc gc_rc h
  have t_turns : Lib.TabIs Tryd.prog W "tearoff/keccak.turns" .i64 turnsL := Lib.tabIs_of_head g_turns gt_turns Tryd.underlying124 Tryd.underlying3 ge_turns gc_turns (laidMet.tail h)
  exact ⟨fun i hi => t_rc.cell g_rc i hi, fun i hi => t_turns.cell g_turns i hi⟩

set_option maxRecDepth 100000 in
set_option maxHeartbeats 1000000 in
theorem contract (H : Type) (enc : TypeId × Value → H) (W : World) (base : Nat) (args : Array Value) (ds gs : List (DataW H)) (before : List MemPlace)
    (hval : ∀ (j : Nat) t v, Tryd.f3.params[j]? = some t → args[j]? = some v → Value.okWide Tryd.prog W .any base t v)
    (hW : DataW.Whole enc Tryd.prog Tryd.f3.params.toList Rows.forsStandsSpec.vars false W args.toList ds gs before) (hL : laidMet Tryd.prog Rows.forsStandsRow.laid W) :
    Calls Tryd.prog 3 args W fun e W' => ∃ v, e = .returned v ∧ Rows.forsStandsSpec.post enc Tryd.prog Tryd.f3 false true false false W args v W' := by
  have hW' := hW
  obtain ⟨p, q, hA0, hV, rfl, hfz, hnd⟩ := hW
  have hA : DataW.TrodAll enc Tryd.prog W 0 (fun _ => true) true Tryd.f3.params.toList args.toList ds p := hA0
  rw [Tryd.params3] at hA hval
  obtain ⟨v0, vs0, d0, ds0, p0, q0, hargs, rfl, rfl, h0, r0⟩ := trodAll_cons hA
  obtain ⟨v1, vs1, d1, ds1, p1, q1, rfl, rfl, rfl, h1, r1⟩ := trodAll_cons r0
  obtain ⟨v2, vs2, d2, ds2, p2, q2, rfl, rfl, rfl, h2, r2⟩ := trodAll_cons r1
  obtain ⟨rfl, rfl, rfl⟩ := trodAll_nil r2
  obtain rfl : args = #[v0, v1, v2] := by cases args; simp_all
  obtain ⟨rfl, rfl⟩ := trodVars_none hV
  have k0 := h0
  have lt0 : ∀ x ∈ p0, x.block < W.heap.size := by obtain ⟨m, hm⟩ := k0; exact DataW.trod_lt m _ _ _ hm
  have k1 := h1
  have lt1 : ∀ x ∈ p1, x.block < W.heap.size := by obtain ⟨m, hm⟩ := k1; exact DataW.trod_lt m _ _ _ hm
  have k2 := h2
  have lt2 : ∀ x ∈ p2, x.block < W.heap.size := by obtain ⟨m, hm⟩ := k2; exact DataW.trod_lt m _ _ _ hm
  obtain ⟨f0, rfl, w0⟩ := open_few Tryd.underlying23 Tryd.underlying3 Tryd.underlying3 Tryd.underlying3 Tryd.underlying3 Tryd.underlying3 (by kernel_rfl) (by kernel_rfl) (hval 0 23 v0 rfl rfl) h0
  obtain ⟨a1, c1, z1, rfl, r1_, lc1, cm1, nc1, w1⟩ := open_nums Tryd.underlying24 Tryd.underlying5 (by kernel_rfl) (hval 1 24 v1 rfl rfl) h1
  obtain ⟨tr, qq, Ab, At, cb, ct, lb, lt_, rfl, wu, wq, ⟨rb_, pb, qb, ub⟩, ⟨rt_, pt, qt, ut⟩⟩ := open_place Tryd.underlying28 Tryd.underlying25 Tryd.underlying26 Tryd.underlying24 Tryd.underlying24 Tryd.underlying5 (by kernel_rfl) (by kernel_rfl) (by kernel_rfl) (hval 2 28 v2 rfl rfl) h2
  clear hA0 hA
  have tb := tabs hL
  have tK : KTab W := ⟨tb.1, tb.2⟩
  refine (forsStands_walk f0 tr qq z1 lb lt_ a1 Ab At c1 cb ct W w0 wu wq r1_ lc1 cm1 (Bys_of_wf w1) rb_ pb qb (Bys_of_wf ub) rt_ pt qt (Bys_of_wf ut) tK).mono fun e W' ⟨he, bel⟩ => ?_
  subst he
  exact ⟨_, rfl, _, _, _, [], _, [], hW', trodAll_mk1 (shut_bool Tryd.underlying4 _), (trodAll_cons_mk (Below.trod laidOut (by kernel_rfl) (of_decide_eq_true (by kernel_rfl)) k0 bel lt0) (trodAll_cons_mk (Below.trod laidOut (by kernel_rfl) (of_decide_eq_true (by kernel_rfl)) k1 bel lt1) (trodAll_cons_mk (Below.trod laidOut (by kernel_rfl) (of_decide_eq_true (by kernel_rfl)) k2 bel lt2) trodAll_mk0))), rfl, bel.frame _, fun h => by cases h⟩

/-- A world for the witness: the settled one, the listed variables as their initialisers lay them. -/
noncomputable def laidWorld (os : Os) : World :=
  { World.holding Tryd.prog os ⟨#[], #[], []⟩ with heap := (((World.holding Tryd.prog os ⟨#[], #[], []⟩).heap.modify 4 fun
      | .cells _ t frozen => .cells (U .u64 rcL) t frozen
      | o => o).modify 3 fun
      | .cells _ t frozen => .cells (U .i64 turnsL) t frozen
      | o => o) }
theorem laid_met (os : Os) : laidMet Tryd.prog Rows.forsStandsRow.laid ((laidWorld os).forCall (fun _ _ => 0) ⟨#[], #[.agg #[.int .i64 0, .int .i64 0, .int .i64 0, .int .i64 0, .int .i64 0], .slice none 0 0, .agg #[.int .u64 0, .int .u32 0, .slice none 0 0, .slice none 0 0]], []⟩).memory :=
  laidMet_of_run' 8 (by kernel_rfl) (by kernel_rfl)
theorem reads (os : Os) {H : Type} (enc : TypeId × Value → H) : ∃ places, DataW.whole enc Tryd.prog ((laidWorld os).forCall (fun _ _ => 0) ⟨#[], #[.agg #[.int .i64 0, .int .i64 0, .int .i64 0, .int .i64 0, .int .i64 0], .slice none 0 0, .agg #[.int .u64 0, .int .u32 0, .slice none 0 0, .slice none 0 0]], []⟩).memory Tryd.f3.params.toList Rows.forsStandsSpec.vars false (#[.agg #[.int .i64 0, .int .i64 0, .int .i64 0, .int .i64 0, .int .i64 0], .slice none 0 0, .agg #[.int .u64 0, .int .u32 0, .slice none 0 0, .slice none 0 0]] : Array Value).toList 8 = some ([.agg [.lit (.int .i64 0), .lit (.int .i64 0), .lit (.int .i64 0), .lit (.int .i64 0), .lit (.int .i64 0)], .nil, .agg [.lit (.int .u64 0), .lit (.int .u32 0), .nil, .nil]], [], places) :=
  ⟨[], by kernel_rfl⟩

set_option maxRecDepth 100000 in
theorem lifted (os : Os) (started : os.Started) (H : Type) (enc : TypeId × Value → H) (F : Stop.Interp) :
    ReturnsInHanded {} Tryd.checked os 3 .any ((OpenSpec.ofChange Rows.forsStandsSpec).preRow enc Tryd.prog Tryd.f3 Rows.forsStandsRow.domain false Rows.forsStandsRow.laid) (((OpenSpec.ofChange Rows.forsStandsSpec).at F).post enc Tryd.prog Tryd.f3 false true false false) := by
  obtain ⟨places, hx⟩ := reads os enc
  refine returnsInHanded_of_row (C := Tryd.checked) (s := (OpenSpec.ofChange Rows.forsStandsSpec)) own started (by kernel_rfl) Tryd.func3
    (witness_row_at (enc := enc) (C := Tryd.checked) false (laidWorld os) #[.agg #[.int .i64 0, .int .i64 0, .int .i64 0, .int .i64 0, .int .i64 0], .slice none 0 0, .agg #[.int .u64 0, .int .u32 0, .slice none 0 0, .slice none 0 0]] rfl (by kernel_rfl) (by kernel_rfl) (by kernel_rfl)
      (OpenSpec.preRow_of_cond 8 hx (by kernel_rfl) (fun k hk => by cases hk) (by kernel_rfl) (laid_met os))) ?_
  intro W base args ds gs before hval hW _ hcond _ hL _ _
  exact contract H enc W base args ds gs before hval hW hL

theorem said : Rows.ForsStandsSaid :=
  OpenClaim.holds_of_cond 3 Tryd.f3 rfl rfl rfl rfl rfl rfl rfl ⟨rfl, rfl, rfl, rfl, rfl⟩ rfl rfl rfl rfl rfl (by kernel_rfl) Tryd.func3 (by kernel_rfl)
    (of_decide_eq_true (by kernel_rfl)) (by unfold Func.isWrapper; first | (rw [if_pos (by decide +kernel)]; kernel_rfl) | (rw [if_neg (by decide +kernel)]; exact ⟨rfl, rfl⟩))
    (fun os started H enc _ F => by rw [OpenClaim.pre_eq_preRow]; exact lifted os started H enc F)
theorem plain (f : FuncId) (fn : Func) (hf : Tryd.pinned.checked.prog.funcNamed "tearoff/tearofflaw17.ForsStands" = some f) (hfn : Tryd.pinned.checked.prog.funcs[f]? = some fn) :
    false = Tryd.pinned.checked.prog.looks [] ∧ ∀ (j : Nat) t, fn.params[j]? = some t → Tryd.pinned.checked.prog.wantsStandIn t = false := by
  obtain rfl : f = 3 := Option.some.inj ((show Tryd.prog.funcNamed "tearoff/tearofflaw17.ForsStands" = some 3 by kernel_rfl).symm.trans hf) |>.symm
  obtain rfl : fn = Tryd.f3 := (Option.some.inj (Tryd.func3.symm.trans hfn)).symm
  refine ⟨by kernel_rfl, fun j t ht => ?_⟩
  rw [Tryd.params3] at ht
  have hm := Array.mem_of_getElem? ht
  have hall : ([23, 24, 28].all fun u => !Tryd.prog.wantsStandIn u) = true := by kernel_rfl
  have hm2 : t ∈ [23, 24, 28] := by simp at hm; simp; first | exact hm | omega | (rcases hm with h | h | h <;> simp [h]) | (rcases hm with h | h | h | h <;> simp [h])
  exact (show Tryd.prog.wantsStandIn t = false by simpa using List.all_eq_true.1 hall t hm2)
/-- The card. -/
theorem card : Rows.ForsStandsCardSaid :=
  Claim7.holds_tied_plain_at .later [] _ _ _ _ said (fun _ h => by cases h) (by kernel_rfl) (fun _ h => by cases h) forsStands_row_tie rfl ⟨rfl, rfl⟩ (by kernel_rfl) rfl plain (by kernel_rfl)
#print axioms card
end Go.Proofs.YtfaonieaagepjaaDoor.forsStands
