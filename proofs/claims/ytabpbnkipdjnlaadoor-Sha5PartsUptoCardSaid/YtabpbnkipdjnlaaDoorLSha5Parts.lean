/- The law Sha5Parts: for every input that its row lets in the call returns true and leaves what it was given as it was. What is read is of bulk at most 1048576. -/
import Derived.Test.YtabpbnkipdjnlaaDoorCards
import Derived.Test.YtabpbnkipdjnlaaDoorTie
import Derived.Test.YtabpbnkipdjnlaaDoorS5L
import Derived.Test.YtabpbnkipdjnlaaDoorOpenP
import Derived.ProofKit
import Derived.OpenShut
import Derived.Deep.DeepHandedRow
import Derived.Lib.LaidTab
import Derived.ShutString
import Derived.Deep.Slices
import Derived.Stop.LaidErr
namespace Go.Proofs.YtabpbnkipdjnlaaDoor.sha5Parts
open Go.ChangeShapes Go.WideShapes Go.ChangeAt Go.RowKit
set_option linter.unusedVariables false
set_option linter.unusedSimpArgs false

theorem own : ownKnob Tryd.prog.godebug = none := by kernel_rfl
theorem laidOut : laidOutB Tryd.prog = true := by kernel_rfl
theorem g_k : Tryd.prog.globalNamed "tearoff/sha5.k" = some 2 := by kernel_rfl
theorem gt_k : (Tryd.prog.globals[2]?).map (·.type) = some 66 := by kernel_rfl
theorem gc_k : Tryd.prog.cellsOf 66 = 80 := by kernel_rfl
theorem ge_k : Tryd.prog.cellsOf 22 = 1 := by kernel_rfl
theorem g_first : Tryd.prog.globalNamed "tearoff/sha5.first" = some 3 := by kernel_rfl
theorem gt_first : (Tryd.prog.globals[3]?).map (·.type) = some 64 := by kernel_rfl
theorem gc_first : Tryd.prog.cellsOf 64 = 8 := by kernel_rfl
theorem ge_first : Tryd.prog.cellsOf 22 = 1 := by kernel_rfl
/-- What the row's list gives. -/
theorem tabs {W : World} (h : laidMet Tryd.prog Rows.sha5PartsUptoRow.laid W) : Tab W 2 .u64 k5L ∧ Tab W 3 .u64 f5L := by
  have t_k : Lib.TabIs Tryd.prog W "tearoff/sha5.k" .u64 k5L := Lib.tabIs_of_head g_k gt_k Tryd.underlying66 Tryd.underlying22 ge_k gc_k h
  have t_first : Lib.TabIs Tryd.prog W "tearoff/sha5.first" .u64 f5L := Lib.tabIs_of_head g_first gt_first Tryd.underlying64 Tryd.underlying22 ge_first gc_first (laidMet.tail h)
  exact ⟨fun i hi => t_k.cell g_k i hi, fun i hi => t_first.cell g_first i hi⟩

set_option maxRecDepth 100000 in
set_option maxHeartbeats 1000000 in
theorem contract (H : Type) (enc : TypeId × Value → H) (W : World) (base : Nat) (args : Array Value) (ds gs : List (DataW H)) (before : List MemPlace)
    (hval : ∀ (j : Nat) t v, Tryd.f12.params[j]? = some t → args[j]? = some v → Value.okWide Tryd.prog W .any base t v)
    (hW : DataW.Whole enc Tryd.prog Tryd.f12.params.toList Rows.sha5PartsSpec.vars false W args.toList ds gs before) (hL : laidMet Tryd.prog Rows.sha5PartsUptoRow.laid W) (hk : Rows.uptoSmall H (ds ++ gs) = true) :
    Calls Tryd.prog 12 args W fun e W' => ∃ v, e = .returned v ∧ Rows.sha5PartsSpec.post enc Tryd.prog Tryd.f12 false true false false W args v W' := by
  have hW' := hW
  obtain ⟨p, q, hA0, hV, rfl, hfz, hnd⟩ := hW
  have hA : DataW.TrodAll enc Tryd.prog W 0 (fun _ => true) true Tryd.f12.params.toList args.toList ds p := hA0
  rw [Tryd.params12] at hA hval
  obtain ⟨v0, vs0, d0, ds0, p0, q0, hargs, rfl, rfl, h0, r0⟩ := trodAll_cons hA
  obtain ⟨rfl, rfl, rfl⟩ := trodAll_nil r0
  obtain rfl : args = #[v0] := by cases args; simp_all
  obtain ⟨rfl, rfl⟩ := trodVars_none hV
  have k0 := h0
  have lt0 : ∀ x ∈ p0, x.block < W.heap.size := by obtain ⟨m, hm⟩ := k0; exact DataW.trod_lt m _ _ _ hm
  obtain ⟨a0, c0, ls0, rfl, hp0, lc0, hw0, hb0⟩ := open_parts Tryd.underlying50 Tryd.underlying36 Tryd.underlying5 (by kernel_rfl) (by kernel_rfl) (hval 0 50 v0 rfl rfl) h0
  clear hA0 hA
  have tb := tabs hL
  have hsm : ls0.flatten.length ≤ 100000000 := by
    have h := hk
    simp only [Rows.uptoSmall, decide_eq_true_eq, List.cons_append, List.nil_append, List.append_nil, Rows.uptoBulkAll] at h
    omega
  refine (parts5_walk ls0 a0 c0 W.heap.size ls0.length W hp0 rfl (Nat.le_refl _) lc0 hsm (Bys_of_wf hw0) tb).mono fun e W' ⟨he, bel⟩ => ?_
  subst he
  exact ⟨_, rfl, _, _, _, [], _, [], hW', trodAll_mk1 (shut_bool Tryd.underlying4 _), (trodAll_cons_mk (Below.trod laidOut (by kernel_rfl) (of_decide_eq_true (by kernel_rfl)) k0 bel lt0) trodAll_mk0), rfl, bel.frame _, fun h => by cases h⟩

/-- A world for the witness: the settled one, the listed variables as their initialisers lay them. -/
noncomputable def laidWorld (os : Os) : World :=
  { World.holding Tryd.prog os ⟨#[], #[], []⟩ with heap := (((World.holding Tryd.prog os ⟨#[], #[], []⟩).heap.modify 2 fun
      | .cells _ t frozen => .cells (U .u64 k5L) t frozen
      | o => o).modify 3 fun
      | .cells _ t frozen => .cells (U .u64 f5L) t frozen
      | o => o) }
theorem laid_met (os : Os) : laidMet Tryd.prog Rows.sha5PartsUptoRow.laid ((laidWorld os).forCall (fun _ _ => 0) ⟨#[], #[.slice none 0 0], []⟩).memory :=
  laidMet_of_run' 8 (by kernel_rfl) (by kernel_rfl)
theorem reads (os : Os) {H : Type} (enc : TypeId × Value → H) : ∃ places, DataW.whole enc Tryd.prog ((laidWorld os).forCall (fun _ _ => 0) ⟨#[], #[.slice none 0 0], []⟩).memory Tryd.f12.params.toList Rows.sha5PartsSpec.vars false (#[.slice none 0 0] : Array Value).toList 8 = some ([.nil], [], places) :=
  ⟨[], by kernel_rfl⟩

set_option maxRecDepth 100000 in
theorem lifted (os : Os) (started : os.Started) (H : Type) (enc : TypeId × Value → H) (F : Stop.Interp) :
    ReturnsInHanded {} Tryd.checked os 12 .any ((Rows.OpenSpec.upto Rows.sha5PartsSpec).preRow enc Tryd.prog Tryd.f12 Rows.sha5PartsUptoRow.domain false Rows.sha5PartsUptoRow.laid) (((Rows.OpenSpec.upto Rows.sha5PartsSpec).at F).post enc Tryd.prog Tryd.f12 false true false false) := by
  obtain ⟨places, hx⟩ := reads os enc
  refine returnsInHanded_of_row (C := Tryd.checked) (s := (Rows.OpenSpec.upto Rows.sha5PartsSpec)) own started (by kernel_rfl) Tryd.func12
    (witness_row_at (enc := enc) (C := Tryd.checked) false (laidWorld os) #[.slice none 0 0] rfl (by kernel_rfl) (by kernel_rfl) (by kernel_rfl)
      (OpenSpec.preRow_of_cond 8 hx (by kernel_rfl) (fun k hk => by cases hk; kernel_rfl) (by kernel_rfl) (laid_met os))) ?_
  intro W base args ds gs before hval hW _ hcond _ hL _ _
  exact contract H enc W base args ds gs before hval hW hL (hcond _ rfl)

theorem said : Rows.Sha5PartsUptoSaid :=
  OpenClaim.holds_of_cond 12 Tryd.f12 rfl rfl rfl rfl rfl rfl rfl ⟨rfl, rfl, rfl, rfl, rfl⟩ rfl rfl rfl rfl rfl (by kernel_rfl) Tryd.func12 (by kernel_rfl)
    (of_decide_eq_true (by kernel_rfl)) (by unfold Func.isWrapper; first | (rw [if_pos (by decide +kernel)]; kernel_rfl) | (rw [if_neg (by decide +kernel)]; exact ⟨rfl, rfl⟩))
    (fun os started H enc _ F => by rw [OpenClaim.pre_eq_preRow]; exact lifted os started H enc F)
theorem plain (f : FuncId) (fn : Func) (hf : Tryd.pinned.checked.prog.funcNamed "tearoff/tearofflaw03.Sha5Parts" = some f) (hfn : Tryd.pinned.checked.prog.funcs[f]? = some fn) :
    false = Tryd.pinned.checked.prog.looks [] ∧ ∀ (j : Nat) t, fn.params[j]? = some t → Tryd.pinned.checked.prog.wantsStandIn t = false := by
  obtain rfl : f = 12 := Option.some.inj ((show Tryd.prog.funcNamed "tearoff/tearofflaw03.Sha5Parts" = some 12 by kernel_rfl).symm.trans hf) |>.symm
  obtain rfl : fn = Tryd.f12 := (Option.some.inj (Tryd.func12.symm.trans hfn)).symm
  refine ⟨by kernel_rfl, fun j t ht => ?_⟩
  rw [Tryd.params12] at ht
  have hm := Array.mem_of_getElem? ht
  have hall : ([50].all fun u => !Tryd.prog.wantsStandIn u) = true := by kernel_rfl
  have hm2 : t ∈ [50] := by simp at hm; simp; first | exact hm | omega
  exact (show Tryd.prog.wantsStandIn t = false by simpa using List.all_eq_true.1 hall t hm2)
/-- The card. -/
theorem card : Rows.Sha5PartsUptoCardSaid :=
  Claim7.holds_tied_plain_at .later [] _ _ _ _ said (fun _ h => by cases h) (by kernel_rfl) (fun _ h => by cases h) sha5PartsUpto_row_tie rfl ⟨rfl, rfl⟩ (by kernel_rfl) rfl plain (by kernel_rfl)
#print axioms card
end Go.Proofs.YtabpbnkipdjnlaaDoor.sha5Parts
