/- A range over a function whose elements come in a known order: the body is walked for the one that comes next alone. Conditions: none. -/
import Derived.RangeFuncNested
import Derived.RangeFuncBound
import Derived.RangeFuncCalls
import Derived.RangeFuncLeaves
import Derived.RangeFuncBox
import Derived.Shelf.Abstract
import Derived.Shelf.RegionOpen
import Derived.WalkKit
import Derived.OwnWalkIn
import Derived.TacticsInMore
import Derived.LoopNIn
import Derived.LoopIn
import Derived.Outline
namespace Go.Proofs.YtfaonieaagepjaaDoor
open Go Go.RowKit Go.Shelf
set_option linter.unusedVariables false
set_option linter.unusedSimpArgs false
/-- An iterator that gives its N elements in this order, and stops where a round says so. -/
def SeqAt (F : Fence) (n : Nat) (P : Program) (g : Nat) (lb : Array Value) (encs : Nat → Array Value) (Kp : World → World → Prop) (N : Nat) (w : World) : Prop :=
  ∀ (l : Nat) (J Jx : Nat → World → Prop) (W : World), Below w.heap.size w W → AbidesFrom W.heap.size J → AbidesFrom W.heap.size Jx →
    (∀ i W1, i < N → J i W1 → YieldAt F (n - 1) P l (encs i) W1 fun e W' => (e = .returned (.bool true) ∧ J (i + 1) W' ∧ Kp W1 W') ∨ (e = .returned (.bool false) ∧ Jx i W')) →
    J 0 W → CallsIn F n P g (#[.func (.yield l) #[] #[]] ++ lb) W fun e W' => (∃ v, e = .returned v) ∧ (J N W' ∨ ∃ i, i < N ∧ Jx i W')
/-- How a round may be left: it goes on, or it jumps. -/
def RoundAt (B : Nat) (Kp : World → World → Prop) (I : Nat → World → Prop) (Ix : Code → Nat → World → Prop) (i : Nat) (W : World) : Exit → Act → World → Prop
  | .normal, _, W' => KeepsFrom B W W' ∧ Kp W W' ∧ I (i + 1) W'
  | .ret, _, W' => KeepsFrom B W W' ∧ Ix .ret i W'
  | .exit id, _, W' => KeepsFrom B W W' ∧ Ix (.exit id) i W'
  | .goto t, _, W' => KeepsFrom B W W' ∧ Ix (.goto t) i W'
  | .panic _, _, _ => False
  | .outgrown, _, _ => False
theorem wpIn_rangeFunc_at {F : Fence} {n : Nat} {P : Program} {g : Operand} {ps : Array Tmp} {assign body : Code} {Q : Exit → Act → World → Prop} {a : Act} {w : World}
    (hro : F.round = none) (h1 : 1 ≤ n) {gf : Nat} {lb : Array Value} (hg : a.eval g = .func (.func gf) #[] lb) (hFg : F.fn gf) (eg : ∀ args w, (callFunc gf args).run P w = .ok (.enter gf args) w)
    {encs : Nat → Array Value} {Kp : World → World → Prop} {N : Nat} {w0 : World} (hseq : SeqAt F (n - 1) P gf lb encs Kp N w0)
    (hKt : ∀ {A B C : World}, Kp A B → Kp B C → Kp A C) (hKb : ∀ (W : World) (l : Nat) (o o' : Obj), w.heap.size ≤ l → W.heap[l]? = some o → o.isCells = false → o.isWalk = false → Kp W (W.putObj l o')) (hb0 : Below w0.heap.size w0 w) (hps : ∀ i, (encs i).size = ps.size)
    (I : Nat → World → Prop) (Ix : Code → Nat → World → Prop) (hI : OwnFrom w.heap.size I) (hIx : ∀ c, OwnFrom w.heap.size (Ix c)) (h0 : I 0 w) (a₁ : Nat → Act)
    (hassign : ∀ (l i : Nat) (W : World) (K : Act → World → Prop), K (a₁ i) W →
      assign.wpIn (F.inRound l) (n - 1 - 1) P (Exit.then K (fun _ _ _ => False)) { tmps := (ps.zip (encs i)).foldl (fun t (p, v) => t.setIfInBounds p v) a.tmps, defers := [] } W)
    (hbody : ∀ (l i : Nat) (W : World), i < N → I i W → body.wpIn (F.inRound l) (n - 1 - 1) P (RoundAt w.heap.size Kp I Ix i W) (a₁ i) W)
    (hdone : ∀ (D : Nat) (W : World), w.heap.size ≤ D → I N W → W.heap[D]? = some (.deferred (some [])) → Q .normal { a with defers := { target := .collected D, args := #[] } :: a.defers } W)
    (hstop : ∀ (D : Nat) (c : Code) (i : Nat) (W : World), w.heap.size ≤ D → i < N → Ix c i W → W.heap[D]? = some (.deferred (some [])) → c.wpIn F n P Q { a with defers := { target := .collected D, args := #[] } :: a.defers } W) :
    (Code.rangeFunc g ps assign body).wpIn F n P Q a w := by
  refine wpIn_rangeFunc fun fn hfn => ?_
  rw [hro]
  obtain ⟨R, hR⟩ : ∃ R : LoopState → Option Code → Loop, R = fun st pe => { state := st, pending := pe, fn, tmps := a.tmps, params := ps, assign, body, defers := w.heap.size } := ⟨_, rfl⟩
  obtain ⟨b, hb⟩ : ∃ b, w.heap.size = b := ⟨_, rfl⟩
  obtain ⟨V, hV⟩ : ∃ V, (w.alloc (.deferred (some []))).alloc (.loop (R .ready none)) = V := ⟨_, rfl⟩
  have hVs : V.heap.size = b + 2 := by rw [← hV, World.size_alloc, World.size_alloc, hb]
  have hVl : V.heap[b + 1]? = some (.loop (R .ready none)) := by
    have h := World.alloc_heap_new (w.alloc (.deferred (some []))) (.loop (R .ready none))
    rwa [World.size_alloc, hb, hV] at h
  have hVd : V.heap[b]? = some (.deferred (some [])) := by
    have h := World.alloc_heap_new w (.deferred (some []))
    rw [hb] at h
    rw [← hV, Below.heap_alloc _ _ _ (by rw [World.size_alloc, hb]; omega), h]
  have hVI : I 0 V := by rw [← hV]; exact hI.alloc _ (hI.alloc _ h0)
  have hVb : Below w0.heap.size w0 V := by
    rw [← hV]; exact hb0.trans ((((Below.refl _ w).alloc (Nat.le_refl _) _).alloc (by simp) _).mono hb0.size)
  refine ⟨b + 1, [{ target := .collected b, args := #[] }], V, { target := .fn (.func gf) lb, args := #[.func (.yield (b + 1)) #[] #[]] }, V, gf,
    #[.func (.yield (b + 1)) #[] #[]] ++ lb, V, ?_, ?_, ?_, ?_, fun _ => h1, ?_⟩
  · rw [← hV, ← hb, hR]; exact run_enterLoop_outer _ _ _ _ _
  · simp only [resolve, hg]; simp [go_sem]
  · intro f' hf'; simp [Target.leads] at hf'; subst hf'; exact hFg
  · simp [invoke, go_sem, eg]
  have hrow : ∀ {A B : World} {row : Option Nat}, (∀ r, row = some r → V.heap.size ≤ r ∧ ∃ o : Obj, A.heap[r]? = some o ∧ o.isWalk = true) → (∀ r, row = some r → w.heap.size ≤ r ∧ ∃ o : Obj, A.heap[r]? = some o ∧ o.isCells = false) :=
    fun hr r e => by obtain ⟨h, o, ho, hw⟩ := hr r e; exact ⟨by omega, o, ho, Obj.not_cells_of_walk hw⟩
  have still : ∀ {A B : World} {row : Option Nat} {k : Nat} {o : Obj}, A.grownBy B row → (∀ r, row = some r → V.heap.size ≤ r ∧ ∃ o : Obj, A.heap[r]? = some o ∧ o.isWalk = true) → A.heap[k]? = some o → o.isWalk = false → B.heap[k]? = some o :=
    fun hg' hr h e => (grownBy_keeps hg' (fun r e' => (hr r e').2) h e).trans h
  refine (hseq (b + 1) (fun i W => I i W ∧ W.heap[b + 1]? = some (.loop (R .ready none)) ∧ W.heap[b]? = some (.deferred (some [])))
    (fun i W => ∃ c, Ix c i W ∧ W.heap[b + 1]? = some (.loop (R .done (some c))) ∧ W.heap[b]? = some (.deferred (some []))) V hVb
    (fun s A B row hs hg' hr => ⟨hI s A B row hs.1 hg' (hrow (B := B) hr), still hg' hr hs.2.1 rfl, still hg' hr hs.2.2 rfl⟩)
    (fun s A B row hs hg' hr => by
      obtain ⟨c, hc, hl, hk⟩ := hs
      exact ⟨c, hIx c s A B row hc hg' (hrow (B := B) hr), still hg' hr hl rfl, still hg' hr hk rfl⟩)
    ?_ ⟨hVI, hVl, hVd⟩).mono ?_
  · rintro i W hi ⟨hJ, hl, hk⟩
    have hy := run_yield (P := P) (args := encs i) hl (by rw [hR]; exact hps i)
    rw [hR] at hy
    refine ⟨fn, _, assign, body, hy, roundIn_of_wpIn hfn (hassign _ i W _ ⟨_, run_beginRound hl (by rw [hR]), ?_⟩)⟩
    have hlt : b + 1 < W.heap.size := (Array.getElem?_eq_some_iff.1 hl).1
    have hl2 : (W.putObj (b + 1) (.loop { R .ready none with state := .busy })).heap[b + 1]? = some (.loop { R .ready none with state := .busy }) := World.putObj_heap_same hlt
    have hk2 : (W.putObj (b + 1) (.loop { R .ready none with state := .busy })).heap[b]? = some (.deferred (some [])) := (World.putObj_heap_other (by omega)).trans hk
    have hK2 : Kp W (W.putObj (b + 1) (.loop { R .ready none with state := .busy })) := hKb _ _ _ _ (by omega) hl rfl rfl
    refine wpIn_mono (hbody _ i _ hi (hI.putObj _ hJ (by omega) hl rfl)) ?_
    have ends : ∀ (j : Option Code) (Z : World), KeepsFrom w.heap.size (W.putObj (b + 1) (.loop { R .ready none with state := .busy })) Z →
        (Instr.endRound (b + 1) j).run P Z = .ok (.bool j.isNone) (Z.putObj (b + 1) (.loop (R (if j.isNone then .ready else .done) j))) ∧ Z.heap[b + 1]? = some (.loop { R .ready none with state := .busy }) ∧
        (Z.putObj (b + 1) (.loop (R (if j.isNone then .ready else .done) j))).heap[b + 1]? = some (.loop (R (if j.isNone then .ready else .done) j)) ∧
        (Z.putObj (b + 1) (.loop (R (if j.isNone then .ready else .done) j))).heap[b]? = some (.deferred (some [])) := fun j Z hkf => by
      have hl3 := hkf.same _ _ (by omega) hl2 rfl
      have he := run_endRound (P := P) j hl3
      rw [hR] at he ⊢
      exact ⟨he, by rw [hR] at hl3; exact hl3, World.putObj_heap_same (Array.getElem?_eq_some_iff.1 hl3).1, (World.putObj_heap_other (by omega)).trans (hkf.same _ _ (by omega) hk2 rfl)⟩
    have jumps : ∀ (c : Code) (Z : World), KeepsFrom w.heap.size (W.putObj (b + 1) (.loop { R .ready none with state := .busy })) Z → Ix c i Z → ∃ (v : Value) (Y : World), (Instr.endRound (b + 1) (some c)).run P Z = .ok v Y ∧
        ((Ending.returned v = .returned (.bool true) ∧ (I (i + 1) Y ∧ Y.heap[b + 1]? = some (.loop (R .ready none)) ∧ Y.heap[b]? = some (.deferred (some []))) ∧ Kp W Y) ∨
          (Ending.returned v = .returned (.bool false) ∧ ∃ c, Ix c i Y ∧ Y.heap[b + 1]? = some (.loop (R .done (some c))) ∧ Y.heap[b]? = some (.deferred (some [])))) := fun c Z hkf hix => by
      obtain ⟨he, hl3, hl4, hk4⟩ := ends (some c) Z hkf
      exact ⟨_, _, he, .inr ⟨rfl, c, (hIx _).putObj _ hix (by omega) hl3 rfl, hl4, hk4⟩⟩
    rintro e a3 Z hp
    cases e with
    | normal =>
      obtain ⟨hkf, hkp, hi3⟩ := hp
      obtain ⟨he, hl3, hl4, hk4⟩ := ends none Z hkf
      exact ⟨_, _, he, .inl ⟨rfl, ⟨hI.putObj _ hi3 (by omega) hl3 rfl, hl4, hk4⟩, hKt (hKt hK2 hkp) (hKb _ _ _ _ (by omega) hl3 rfl rfl)⟩⟩
    | ret => exact jumps _ Z hp.1 hp.2
    | exit id => exact jumps _ Z hp.1 hp.2
    | goto t => exact jumps _ Z hp.1 hp.2
    | panic ch => exact hp.elim
    | outgrown => exact hp.elim
  · rintro e Z ⟨⟨v, rfl⟩, (⟨hJ, hl, hk⟩ | ⟨i, hi, c, hJ, hl, hk⟩)⟩
    · have h := run_endLoop (P := P) hl (by rw [hR]; simp)
      rw [hR] at h
      exact ⟨none, _, h, hdone b _ (by omega) (hI.putObj _ hJ (by omega) hl rfl) ((World.putObj_heap_other (by omega)).trans hk)⟩
    · have h := run_endLoop (P := P) hl (by rw [hR]; simp)
      rw [hR] at h
      exact ⟨some c, _, h, hstop b c i _ (by omega) hi ((hIx c).putObj _ hJ (by omega) hl rfl) ((World.putObj_heap_other (by omega)).trans hk)⟩
end Go.Proofs.YtfaonieaagepjaaDoor
