/- Copying into a row of zeros; a key mixed with a byte. Conditions: what is read reads as bytes. -/
import Derived.Test.YteidkdpfjponfaaDoorM6A
import Derived.Test.YteidkdpfjponfaaDoorS5H
import Derived.Test.YteidkdpfjponfaaDoorZA
namespace Go.Proofs.YteidkdpfjponfaaDoor
open Go.RowKit
set_option linter.unusedVariables false
set_option linter.unusedSimpArgs false
def padL (l : List Int) (n : Nat) : List Int := l ++ List.replicate (n - l.length) 0
theorem padL_len (l : List Int) (n : Nat) (h : l.length ≤ n) : (padL l n).length = n := by simp [padL]; omega
theorem padL_B {l : List Int} (h : Bys l) (n : Nat) : Bys (padL l n) := h.append (Bys.rep _ B8.zero)
section
variable {P : Program}
theorem copy_zero (w : World) (h e N B c : Nat) (part : List Int) (A : Option Addr) (t ty : TypeId) (hu : P.underlying t = some (.slice e)) (hs : (P.info? e).map (·.size) = some 1)
    (hb : Arr w h e .u8 (List.replicate N 0)) (hr : Rd w B .u8 A part) (hfit : part.length ≤ N) :
    ∃ w', (Builtin.copy_ #[t, t] ty #[.slice (some ⟨h, 0, none⟩) N N, .slice A part.length c]).run P w = .ok (.int .i64 (part.length : Int)) w' ∧ Arr w' h e .u8 (padL part N) ∧ Kept h (fun _ => False) w w' := by
  rcases Nat.eq_zero_or_pos part.length with h0 | h0
  · have hp : part = [] := List.eq_nil_of_length_eq_zero h0
    subst hp
    exact ⟨w, run_copy_none (P := P) w t t ty e _ A _ _ 0 c hu hs (by simp), hb, Kept.refl _ _ _⟩
  · obtain ⟨ad, rfl, hab, hc⟩ := hr h0
    have hcell : ∀ j, j < N → w.cell? ⟨h, 0 + j, none⟩ = some (.int .u8 0) := fun j hj => by
      have := hb.cell j (by simp; exact hj)
      rw [gt_rep _ _ _ hj] at this
      rw [Nat.zero_add]; exact this
    have hrun := run_copy_cells (P := P) w t t ty e h 0 N N ad part.length c (nums .u8 part) hu hs (by rw [nums_len]; exact (Nat.min_eq_left hfit).symm)
      (fun j u hj => by
        have hjl : j < part.length := by have := (List.getElem?_eq_some_iff.1 hj).1; rwa [nums_len] at this
        rw [nums_get .u8 part j hjl] at hj
        injection hj with hj
        rw [hc j hjl, hj])
      (fun j hj => by
        rw [nums_len] at hj
        rw [hcell j (by omega)]; rfl)
      (fun j hj => hb.free _) (nums_one _ _)
    rw [nums_len] at hrun
    refine ⟨_, hrun, ?_, (Kept.refl h (fun _ => False) w).setCells h _ _ (.inl (Nat.le_refl _))⟩
    have e1 : U .u8 (List.replicate N 0) = (([] : List Value) ++ List.replicate part.length (Value.int .u8 0) ++ List.replicate (N - part.length) (Value.int .u8 0)).toArray := by
      rw [List.nil_append, List.replicate_append_replicate, show part.length + (N - part.length) = N by omega]
      simp [U]
    unfold Arr at hb
    rw [e1, List.append_assoc] at hb
    have := setCells_row (g := h) (e := e) (nums .u8 part) 0 w [] (List.replicate part.length (Value.int .u8 0)) (List.replicate (N - part.length) (Value.int .u8 0)) (by simp [nums_len]) rfl hb
    unfold Arr
    simpa [nums, U, padL] using this
theorem wpList_copy_zero {w : World} {ops : Array Oper} {rest : List Oper} {o : Oper} {a : Act} {Q : Exit → Act → World → Prop} (hgd : o.guard = none) (s x : Operand) (t e : TypeId)
    (ho : o.op = .call { callee := .builtin .copy, args := #[s, x], argTypes := #[t, t] }) (hu : P.underlying t = some (.slice e)) (hs : (P.info? e).map (·.size) = some 1)
    {h N B c n : Nat} {part : List Int} {A : Option Addr} (hb : Arr w h e .u8 (List.replicate N 0)) (hr : Rd w B .u8 A part) (hfit : part.length ≤ N) (hn : part.length = n)
    (hx : a.eval s = .slice (some ⟨h, 0, none⟩) N N) (hy : a.eval x = .slice A n c)
    (hk : ∀ w', Arr w' h e .u8 (padL part N) → Kept h (fun _ => False) w w' → wpList P ops Q rest (a.put o.dst (.int .i64 (n : Int))) w') : wpList P ops Q (o :: rest) a w := by
  subst hn
  obtain ⟨w', hrun, h1, h2⟩ := copy_zero (P := P) w h e N B c part A t o.type hu hs hb hr hfit
  refine wpList_plain hgd fun K hK => ?_
  unfold Oper.wp execOp
  simp only [ho, resolve, invoke, builtin, Sem.run_bind, Sem.run_pure, Result.andThen_ok, List.map_toArray, List.map_cons, List.map_nil, hx, hy, hrun]
  exact hK _ _ (hk w' h1 h2)
end
/-! ### mixed -/
def xorB (l : List Int) (c : Int) : List Int := l.map fun x => bits .xor .u8 x c
theorem xorB_len (l : List Int) (c : Int) : (xorB l c).length = l.length := by simp [xorB]
theorem xorB_B (l : List Int) (c : Int) : Bys (xorB l c) := fun x hx => by
  obtain ⟨y, _, rfl⟩ := List.mem_map.1 hx
  exact B8.bits _ _ _
def xorN (l : List Int) (c : Int) (i : Nat) : List Int := xorB (l.take i) c ++ l.drop i
theorem xorN_len (l : List Int) (c : Int) (i : Nat) : (xorN l c i).length = l.length := by simp [xorN, xorB]; omega
theorem gt_xorN (l : List Int) (c : Int) (i : Nat) (h : i < l.length) : gt (xorN l c i) i = gt l i := by
  rw [xorN, gt_append_right _ _ _ (by simp [xorB]; omega), gt_drop]
  simp [xorB]; congr 1; omega
theorem xorN_succ (l : List Int) (c : Int) (i : Nat) (h : i < l.length) : st (xorN l c i) i (bits .xor .u8 (gt l i) c) = xorN l c (i + 1) := by
  rw [xorN, xorN, st, List.set_append_right _ _ (by simp [xorB]; omega)]
  have e : i - (xorB (l.take i) c).length = 0 := by simp [xorB]; omega
  have eg : gt l i = l[i] := by simp [gt, h]
  rw [e, List.drop_eq_getElem_cons h, List.set_cons_zero, List.take_succ_eq_append_getElem h, eg]
  simp only [xorB, List.map_append, List.map_cons, List.map_nil, List.append_assoc, List.cons_append, List.nil_append]
theorem xorN_zero (l : List Int) (c : Int) : xorN l c 0 = l := by simp [xorN, xorB]
theorem xorN_all (l : List Int) (c : Int) : xorN l c l.length = xorB l c := by simp [xorN]
def MX (w0 : World) (B n : Nat) (l : List Int) (c : Int) (A : Option Addr) (cc : Nat) (gk : Nat) (v : Value) (w : World) : Prop :=
  ∃ i : Nat, v = .int .i64 i ∧ i ≤ n ∧ gk = n - i ∧ Own w B 5 .u8 (.slice A n cc) (xorN l c i) ∧ Kept B (fun _ => False) w0 w
def OutP (w : World) (L : List Int) (n : Nat) (e : Ending) (w' : World) : Prop :=
  ∃ A c, e = .returned (.slice A n c) ∧ Frs w' w.heap.size A c L ∧ Below w.heap.size w w'
set_option maxRecDepth 100000 in
set_option maxHeartbeats 1000000 in
theorem mixed_any (l : List Int) (c : Int) (A : Option Addr) (n cc B : Nat) (w : World) (hr : Rd w B .u8 A l) (hB : B ≤ w.heap.size) (hn : l.length = n) (hl : n ≤ 1000000) (hA : A = none → cc = 0) :
    Calls Tryd.prog 43 #[.slice A n cc, .int .u8 c] w (OutP w (xorB l c) n) := by
  subst hn
  have HL := Lib.hid hl
  go_enter Tryd.func43, Tryd.ntmps43
  go_wp2_with fail
  (with_reducible refine (clone_any l A cc B w hr hB (by omega) hA).mono ?_)
  rintro e w1 ⟨A1, c1, rfl, hO1, hb1⟩
  have hK1 := Kept.of_below (S := fun _ => False) hb1
  have hlm := hO1.len.2
  rw [← xorN_zero l c] at hO1
  clear hl
  have hll := xorN_len l c
  go_wp2_with fail
  go_loopg [11] l.length (fun gk v wr => MX w w.heap.size l.length l c A1 c1 gk v wr)
  case atStart => exact ⟨0, rfl, Nat.zero_le _, rfl, hO1, hK1⟩
  case round =>
    clear hO1 hK1
    obtain ⟨i, rfl, hi, hgk, hO, hK⟩ := hrel
    have HGK := Lib.hid hgk
    clear hgk
    by_cases hlt : i < l.length
    · have hltI : (i : Int) < (l.length : Int) := by omega
      obtain ⟨g, rfl, -, hg1, hg2, -⟩ := hO.where_ (by rw [hll]; omega)
      have hc := hO.cell i (by rw [hll]; exact hlt)
      rw [gt_xorN l c i hlt] at hc
      have hf := hO.free i
      have hO2 := hO.stored i (bits .xor .u8 (gt l i) c)
      rw [xorN_succ l c i hlt] at hO2
      have hl := HL.out
      go_wp2_with fail
      go_roundg (l.length - (i + 1))
      case measure => have := HGK.out; omega
      case rel => exact ⟨i + 1, by go_num, by omega, rfl, hO2, hK.set g i _ (.inl hg1)⟩
    · have hltI : ¬ (i : Int) < (l.length : Int) := by omega
      obtain rfl : i = l.length := by omega
      rw [xorN_all] at hO
      go_wp2_with fail
      go_ret
      exact ⟨_, _, rfl, hO.frs, hK.below⟩
end Go.Proofs.YteidkdpfjponfaaDoor
