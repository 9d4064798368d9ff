/- Layer 14: are all as long; what tells keys and masks. Conditions: small lengths; the tables. -/
import Derived.Test.YtfaonieaagepjaaDoorA4E
namespace Go.Proofs.YtfaonieaagepjaaDoor
open Go.RowKit
set_option linter.unusedVariables false
set_option linter.unusedSimpArgs false
def allN (ls : List (List Int)) (N : Nat) : Bool := ls.all fun l => decide (l.length = N)
theorem allN_no {ls : List (List Int)} {N i : Nat} (hi : i < ls.length) (h : ¬ (gl ls i).length = N) : allN ls N = false := by
  unfold allN
  rw [List.all_eq_false]
  refine ⟨ls[i], List.getElem_mem hi, ?_⟩
  have : gl ls i = ls[i] := by simp [gl, hi]
  rw [this] at h
  simpa using h
theorem allN_yes {ls : List (List Int)} {N : Nat} (h : ∀ i, i < ls.length → (gl ls i).length = N) : allN ls N = true := by
  unfold allN
  rw [List.all_eq_true]
  intro l hl
  obtain ⟨i, hi, rfl⟩ := List.getElem_of_mem hl
  have := h i hi
  rw [show gl ls i = ls[i] by simp [gl, hi]] at this
  simpa using this
def RT (w0 : World) (ls : List (List Int)) (N n gk : Nat) (v : Value) (w : World) : Prop :=
  ∃ i : Nat, v = .int .i64 i ∧ i ≤ n ∧ gk = n - i ∧ (∀ j, j < i → (gl ls j).length = N) ∧ w = w0
set_option maxRecDepth 100000 in
set_option maxHeartbeats 1000000 in
theorem right_any (ls : List (List Int)) (A : Option Addr) (c BB n N : Nat) (M : Int) (w : World) (hM : M = N) (hp : Parts w BB A ls) (hn : ls.length = n) (hl : n ≤ 1000) :
    Calls Tryd.prog 62 #[.int .i64 M, .slice A n c] w fun e w' => e = .returned (.bool (allN ls N)) ∧ w' = w := by
  subst hM
  go_enter Tryd.func62, Tryd.ntmps62
  go_wp2_with fail
  go_loopg [9] n (fun gk v wr => RT w ls N n gk v wr)
  case atStart => exact ⟨0, rfl, Nat.zero_le _, rfl, fun j h => absurd h (by omega), rfl⟩
  case round =>
    obtain ⟨i, rfl, hi, hgk, hall, rfl⟩ := hrel
    have HGK := Lib.hid hgk
    clear hgk
    by_cases hlt : i < n
    · have hltI : (i : Int) < (n : Int) := by omega
      obtain ⟨ad, rfl, hab, hcell⟩ := hp (by omega)
      obtain ⟨v, hc1, Ai, ci, rfl, hRi, hci⟩ := hcell i (by omega)
      obtain ⟨m, hm⟩ : ∃ m, (gl ls i).length = m := ⟨_, rfl⟩
      rw [hm] at hc1
      have HM := Lib.hid hm
      clear hm hRi hci hcell
      by_cases he : m = N
      · subst he
        have hbI : ((m : Int) != (m : Int)) = false := by simp
        go_wp2_with fail
        go_roundg (n - (i + 1))
        case measure => have := HGK.out; omega
        case rel => exact ⟨i + 1, by go_num, by omega, rfl, fun j hj => by
          rcases Nat.lt_or_ge j i with h | h
          · exact hall j h
          · rw [show j = i by omega]; exact HM.out, rfl⟩
      · have hbI : ((m : Int) != (N : Int)) = true := by simp; omega
        have hno := allN_no (N := N) (i := i) (ls := ls) (by omega) (by rw [HM.out]; exact he)
        go_wp2_with fail
        go_ret
        exact ⟨by rw [hno]; rfl, rfl⟩
    · have hltI : ¬ (i : Int) < (n : Int) := by omega
      have hyes := allN_yes (N := N) (ls := ls) (fun j hj => hall j (by omega))
      go_wp2_with fail
      go_ret
      exact ⟨rfl, rfl⟩
set_option maxRecDepth 100000 in
theorem parts_fn (A : Option Addr) (n c : Nat) (d : Ad) (w : World) :
    Calls Tryd.prog 63 #[.slice A n c, .agg d.cs] w fun e w' => e = .returned (.func (.func 76) #[] #[.pointer (some ⟨w.heap.size, 0, none⟩), .pointer (some ⟨w.heap.size + 1, 0, none⟩)]) ∧ w' = (w.alloc (.cells #[.slice A n c] 24)).alloc (.cells d.cs 46) := by
  go_enter Tryd.func63, Tryd.ntmps63
  go_wp2_with fail
  go_ret
  exact ⟨rfl, rfl⟩
set_option maxRecDepth 100000 in
set_option maxHeartbeats 1000000 in
theorem part_any (k : Int) (seed : List Int) (d : Ad) (A : Option Addr) (c p q : Nat) (w : World) (hk : W32 k) (hd : d.ok) (hr : Rd w w.heap.size .u8 A seed) (hn : seed.length = 32) (hc : 32 ≤ c) (hb : Bys seed) (hT : S2Tb w)
    (hp : w.cell? ⟨p, 0, none⟩ = some (.slice A 32 c)) (hq : Blk w q 46 d.cs) (hpl : p < w.heap.size) :
    Calls Tryd.prog 76 #[.int .u32 k, .pointer (some ⟨p, 0, none⟩), .pointer (some ⟨q, 0, none⟩)] w (OutP w (prfL seed (adB d k)) 32) := by
  have hql := hq.lt
  have hK0 := Below.refl w.heap.size w
  go_enter Tryd.func76, Tryd.ntmps76
  go_upto_region 1 with fail
  refine Lx.enter (fun w' => w'.cell? ⟨p, 0, none⟩ = some (.slice A 32 c) ∧ Blk w' q 46 d.cs) 6 (by kernel_rfl) (by kernel_rfl) ⟨hp, hq.drew⟩ ?_
  (refine Lx.val 0 ?_ rfl (by kernel_rfl) (by kernel_rfl) (by kernel_rfl) (fun _ _ _ h => h) (by kernel_rfl) ?_ ?_; rotate_left 1; focus (intro w hw; have hcell := hw.1; go_simp; with_reducible rfl)); (try simp (config := {maxSteps := 2000000}) only [Act.put, List.getElem_toArray, List.getElem_cons_succ, List.getElem_cons_zero, List.setIfInBounds_toArray, List.set_cons_zero, List.set_cons_succ])
  refine Lx.val 1 (.agg d.cs) rfl (by kernel_rfl) (by kernel_rfl) (by kernel_rfl) (fun _ _ _ h => h) (by kernel_rfl) (fun w hw => exec_load_row w rfl (by kernel_rfl) Tryd.underlying46 rfl (by kernel_rfl) hw.2) ?_; (try simp (config := {maxSteps := 2000000}) only [Act.put, List.getElem_toArray, List.getElem_cons_succ, List.getElem_cons_zero, List.setIfInBounds_toArray, List.set_cons_zero, List.set_cons_succ])
  (refine Lx.val 2 ?_ rfl (by kernel_rfl) (by kernel_rfl) (by kernel_rfl) (fun _ _ _ h => h) (by kernel_rfl) ?_ ?_; rotate_left 1; focus (intro w hw; go_simp; with_reducible rfl)); (try simp (config := {maxSteps := 2000000}) only [Act.put, List.getElem_toArray, List.getElem_cons_succ, List.getElem_cons_zero, List.setIfInBounds_toArray, List.set_cons_zero, List.set_cons_succ])
  have hp1 := cdw hp
  have hq1 := hq.drew
  have hK1 := bdw hK0
  have hpl1 : p < w.drew.heap.size := hpl
  have hql1 : q < w.drew.heap.size := hql
  generalize w.drew = w1 at hp1 hq1 hK1 hpl1 hql1 ⊢
  refine Lx.call 3 rfl (by kernel_rfl) (by kernel_rfl) (by kernel_rfl) (fun _ => (bytes_any d k w1 hd hk).mono ?_)
  rintro e w2 ⟨A2, c2, rfl, hF2, hb2⟩
  refine ⟨_, rfl, ⟨cell_bel hp1 hb2 hpl1, hq1.below hb2 hql1⟩, ?_⟩
  (try simp only [Act.put, List.getElem_toArray, List.getElem_cons_succ, List.getElem_cons_zero, List.setIfInBounds_toArray, List.set_cons_zero, List.set_cons_succ])
  have hp2 := cell_bel hp1 hb2 hpl1
  have hq2 := hq1.below hb2 hql1
  have hK2 := bnx hK1 hb2 hK1.size
  have hs2 := hb2.size
  have hc2 : 32 ≤ c2 := by have := hF2.cap; rw [adB_len] at this; exact this
  refine Lx.call 4 rfl (by kernel_rfl) (by kernel_rfl) (by kernel_rfl) (fun _ => (prf_any seed (adB d k) A A2 32 c 32 c2 w2 (hr.bel hK2) hn hc (by decide) hb hF2.rd (adB_len _ _) hc2 (by decide) (adB_B _ _) (hT.below hK2 (Nat.le_refl _))).mono ?_)
  rintro e w3 ⟨A3, c3, rfl, hF3, hb3⟩
  refine ⟨_, rfl, ⟨cell_bel hp2 hb3 (by omega), hq2.below hb3 (by omega)⟩, ?_⟩
  (try simp only [Act.put, List.getElem_toArray, List.getElem_cons_succ, List.getElem_cons_zero, List.setIfInBounds_toArray, List.set_cons_zero, List.set_cons_succ])
  have hK3 := bnx hK2 hb3 hK2.size
  have hF4 := hF3.low (b' := w.heap.size) hK2.size
  (refine Lx.val 5 ?_ rfl (by kernel_rfl) (by kernel_rfl) (by kernel_rfl) (fun _ _ _ h => h) (by kernel_rfl) ?_ ?_; rotate_left 1; focus (intro w hw; go_simp; with_reducible rfl)); (try simp (config := {maxSteps := 2000000}) only [Act.put, List.getElem_toArray, List.getElem_cons_succ, List.getElem_cons_zero, List.setIfInBounds_toArray, List.set_cons_zero, List.set_cons_succ])
  refine Lx.done (by kernel_rfl) ?_
  intro _
  clear hp1 hq1 hp2 hq2 hF2 hF3 hb2 hb3 hp hq
  go_wp2_with fail
  go_ret
  exact ⟨_, _, rfl, hF4, hK3⟩
end Go.Proofs.YtfaonieaagepjaaDoor
