/- (*sha2.Hash).Write, walked. Conditions: the hash stands as it must; the bytes are bytes; small lengths; the tables. -/
import Derived.Test.YtfaonieaagepjaaDoorS2H
import Derived.Deep.LoopGhost
import Derived.Lib.SlBuf
import Derived.Test.YtfaonieaagepjaaDoorZA
import Derived.Deep.DeepCutAuto
import Derived.Deep.CutBlock
namespace Go.Proofs.YtfaonieaagepjaaDoor
open Go.RowKit
set_option linter.unusedVariables false
set_option linter.unusedSimpArgs false

def zb64 : List Int := List.replicate 64 0
theorem zb64_len : zb64.length = 64 := by decide
theorem zerob64 (w : World) : (zeroValue 104).run Tryd.prog w = .ok (.agg (U .u8 zb64)) w := by kernel_rfl
theorem Rd.off_frt {w : World} {p T B o : Nat} {s l : List Int} {post : List Value} {A : Option Addr} (h : Rd w B .u8 A l) (hF : Frt w p T .u32 s post) (hp : ∀ v ∈ post, ∀ x, v ≠ .int .u8 x) (u : Value) : Rd (w.setCell ⟨p, o, none⟩ u) B .u8 A l := fun hn => by
  obtain ⟨ad, e, hb, hc⟩ := h hn
  refine ⟨ad, e, hb, fun i hi => ?_⟩
  have hci := hc i hi
  have hne : (ad.add i).block ≠ p := fun he => by
    unfold World.cell? at hci
    rw [he, show w.heap[p]? = _ from hF] at hci
    simp only at hci
    split at hci
    · cases hci
    · rw [List.getElem?_toArray] at hci
      have hm := List.mem_of_getElem? hci
      rcases List.mem_append.1 hm with hm | hm
      · simp [nums] at hm
      · exact hp _ hm _ rfl
  exact (World.cell?_of_block (heap_setCell_other w _ _ u hne)).trans hci
theorem Lie.rdw {w : World} {b e n c : Nat} {k : IntKind} {A : Option Addr} {l : List Int} (h : Lie w b e k (.slice A n c) l) : Rd w w.heap.size k A l := by
  obtain ⟨A', c', hv, _, _, hr, _⟩ := h.form
  injection hv with h1
  exact h1 ▸ hr
theorem wp_store_one {P : Program} {op : Oper} {a : Act} {w : World} {K : Act → World → Prop} {Q : Exit → Act → World → Prop} (ty : TypeId) (x y : Operand) (ho : op.op = .store ty x y)
    (b o : Nat) (v u : Value) (hx : a.eval x = .pointer (some ⟨b, o, none⟩)) (hy : a.eval y = v) (hv : v.cells = #[v]) (hv1 : v.oneCell' = true) (hi : (P.info? ty).map (·.size) = some 1) (hc : w.cell? ⟨b, o, none⟩ = some u) (hf : w.frozen? ⟨b, o, none⟩ = false)
    (h : K (a.put op.dst undef) (w.setCell ⟨b, o, none⟩ v)) : op.wp P a w K Q := by
  have hst := run_storeCells_cells (P := P) b o [v] 0 w (fun j hj => by have : j = 0 := by simpa using hj
                                                                        subst this; simp [hc]) (fun j hj => by have : j = 0 := by simpa using hj
                                                                                                               subst this; simpa using hf) (fun z hz => by simp at hz; rw [hz]; exact hv1)
  simp only [Nat.add_zero, World.setCells] at hst
  have hrun : (storeVar ty ⟨b, o, none⟩ v).run P w = .ok () (w.setCell ⟨b, o, none⟩ v) := by
    cases hq : P.info? ty with
    | none => simp [hq] at hi
    | some i =>
      have hs : i.size = 1 := by simpa [hq] using hi
      simp [storeVar, sizeOf, typeInfo, hq, hv, hs, hst]
  unfold Oper.wp execOp
  simp only [ho, hx, hy, Instr.storeAt, Instr.sureAddr, Sem.run_bind, Sem.run_pure, Result.andThen_ok, hrun]
  exact h
theorem Ln.storeRow {P : Program} {ops : Array Oper} {md : Region.Mode} {Q : Exit → Act → World → Prop} {fuel : Nat} {listed : Array Bool} {a : Act} {w : World} (i : Nat) {oi : Oper} (ty : TypeId) (x y : Operand) (b o : Nat) (cells : Array Value) (hi : ops[i]? = some oi)
    (hr : Region.ready md ops listed = [i]) (hg : Region.wanted oi (yielded ops a.tmps) = true) (ho : oi.op = .store ty x y) (hx : a.eval x = .pointer (some ⟨b, o, none⟩)) (hy : a.eval y = .agg cells)
    (ht : w.there b o cells.size) (hf : (P.info? ty).map (·.size) = some cells.size) (h1 : cells.all (·.oneCell') = true)
    (h : Ln P md ops Q fuel (listed.setIfInBounds i true) (a.put oi.dst undef) (w.setCells b o cells.toList)) : Ln P md ops Q (fuel + 1) listed a w :=
  Ln.one i hi hr hg fun K hK => wp_store_mid ty x y ho b o cells hx hy ht hf h1 (hK _ _ h)
theorem Ln.storeOne {P : Program} {ops : Array Oper} {md : Region.Mode} {Q : Exit → Act → World → Prop} {fuel : Nat} {listed : Array Bool} {a : Act} {w : World} (i : Nat) {oi : Oper} (ty : TypeId) (x y : Operand) (b o : Nat) (v u : Value) (hi : ops[i]? = some oi)
    (hr : Region.ready md ops listed = [i]) (hg : Region.wanted oi (yielded ops a.tmps) = true) (ho : oi.op = .store ty x y) (hx : a.eval x = .pointer (some ⟨b, o, none⟩)) (hy : a.eval y = v)
    (hv : v.cells = #[v]) (hv1 : v.oneCell' = true) (hf : (P.info? ty).map (·.size) = some 1) (hc : w.cell? ⟨b, o, none⟩ = some u) (hz : w.frozen? ⟨b, o, none⟩ = false)
    (h : Ln P md ops Q fuel (listed.setIfInBounds i true) (a.put oi.dst undef) (w.setCell ⟨b, o, none⟩ v)) : Ln P md ops Q (fuel + 1) listed a w :=
  Ln.one i hi hr hg fun K hK => wp_store_one ty x y ho b o v u hx hy hv hv1 hf hc hz (hK _ _ h)
theorem Ln.doneAt {P : Program} {ops : Array Oper} {md : Region.Mode} {Q : Exit → Act → World → Prop} {listed : Array Bool} {a : Act} {w : World} {fuel : Nat} (A' : Act) (hr : Region.ready md ops listed = []) (hA : a = A') (h : Q .normal A' w) : Ln P md ops Q fuel listed a w :=
  Ln.done hr (hA ▸ h)
/-- Where a hash's rest may lie behind a write. -/
def OwnOr (n : Nat) (a a' : Option Nat) : Prop := a' = a ∨ ∃ g, a' = some g ∧ n ≤ g
def WrPost (w : World) (p : Nat) (a : Option Nat) (L : List Int) (C : Nat) (e : Ending) (w' : World) : Prop :=
  e = .returned (.tuple #[]) ∧ ∃ a', OwnOr w.heap.size a a' ∧ Hsh w' p a' (hst L) (hrs L) (C : Nat) ∧ Kept w.heap.size (fun q => q = p ∨ a = some q) w w'
/-- Between the blocks. -/
def Wl (w0 : World) (n p : Nat) (a : Option Nat) (L : List Int) (C : Nat) (gk : Nat) (w : World) : Prop :=
  ∃ k a', 64 * k ≤ L.length ∧ gk = L.length / 64 - k ∧ OwnOr n a a' ∧ Hsh w p a' (blocksN L k) (L.drop (64 * k)) (C : Nat) ∧ Kept n (fun q => q = p ∨ a = some q) w0 w
set_option maxRecDepth 100000 in
set_option maxHeartbeats 4000000 in
theorem write_any (l b : List Int) (A : Option Addr) (n c p BB N0 : Nat) (a : Option Nat) (w : World) (hH : Hsh w p a (hst l) (hrs l) (N0 : Nat)) (hC : N0 ≤ 100000000) (hr : Rd w BB .u8 A b) (hn : b.length = n) (hl : l.length + n ≤ 100000000) (hb : Bys (l ++ b)) (hT : S2Tb w) (hk1 : p ≠ 1 ∧ a ≠ some 1) (hk2 : p ≠ 0 ∧ a ≠ some 0) :
    Calls Tryd.prog 68 #[.pointer (some ⟨p, 0, none⟩), .slice A n c] w (WrPost w p a (l ++ b) (N0 + n)) := by
  have hmx : (200000000 : Nat) ≤ maxLen := by decide
  obtain ⟨L, hL⟩ : ∃ L, l ++ b = L := ⟨_, rfl⟩
  have hLl : L.length = l.length + n := by rw [← hL, List.length_append, hn]
  obtain ⟨v, hv, hne, hF, hO⟩ := hH
  have hre : (hrs l) ++ b = L.drop (64 * (l.length / 64)) := by rw [hrs_app, hL]
  have hst0 : hst l = blocksN L (l.length / 64) := by rw [hst, ← hL, blocksN_app l b _ (by omega)]
  rw [hL] at hb ⊢
  rw [hst0] at hF
  obtain ⟨k0, hk0⟩ : ∃ k0, l.length / 64 = k0 := ⟨_, rfl⟩
  rw [hk0] at hF hre
  have hk0l : 64 * k0 ≤ L.length := by omega
  obtain ⟨s, hs⟩ : ∃ s, blocksN L k0 = s := ⟨_, rfl⟩
  have hsl : s.length = 8 := by rw [← hs, blocksN_len]
  rw [hs] at hF
  obtain ⟨m, hm⟩ : ∃ m, hrs l = m := ⟨_, rfl⟩
  rw [hm] at hO hre
  have hlt := hF.lt
  have c9 := hF.at_ 1 9 (.int .u64 (N0 : Nat)) (by rw [hsl]) rfl
  have f9 := hF.free 9
  have c8 := hF.at_ 0 8 v (by rw [hsl]) rfl
  have f8 := hF.free 8
  obtain ⟨N1, hN1⟩ : ∃ N1, L.length = N1 := ⟨_, rfl⟩
  obtain ⟨C1, hC1⟩ : ∃ C1, N0 + n = C1 := ⟨_, rfl⟩
  have hN : (N0 : Int) + (n : Int) = (C1 : Int) := by omega
  have hCb : C1 ≤ 200000000 := by omega
  have hb1 : N1 ≤ 100000000 := by omega
  rw [hC1]
  have HL := Lib.hid (And.intro hL (And.intro hN1 (And.intro rfl hk0)) : l ++ b = L ∧ L.length = N1 ∧ N0 = N0 ∧ l.length / 64 = k0)
  have HS := Lib.hid hs
  have HRE := Lib.hid hre
  obtain ⟨A0, c0, rfl, hmc, hcm, hR0, hA0⟩ := hO.form
  have hmlen : m.length + n ≤ 100000000 := by rw [← hm, hrs_len]; omega
  have HN := Lib.hid hn
  obtain ⟨M, hM⟩ : ∃ M, L.drop (64 * k0) = M := ⟨_, rfl⟩
  rw [hM] at hre
  obtain ⟨nm0, hnm0⟩ : ∃ nm0, M.length = nm0 := ⟨_, rfl⟩
  have hnm02 : nm0 ≤ 100000000 := by rw [← hnm0, ← hre, List.length_append]; omega
  have HM := Lib.hid (And.intro hM (And.intro hre hnm0))
  clear hst0 hs hk0 hm hL hn hLl hre hM hnm0 hC1
  go_enter Tryd.func68, Tryd.ntmps68
  go_upto_region 1 with fail
  have hp3 : ∀ v ∈ [Value.slice A0 m.length c0, Value.int .u64 (N0 : Int)], ∀ x, v ≠ .int .u8 x := by simp
  have hr1 := hr.off_frt hF hp3 (o := 9) (.int .u64 (C1 : Int))
  have hF1 := hF.setPost 1 9 (.int .u64 (C1 : Int)) (by rw [hsl])
  have hne2 : ∀ g, (Value.slice A0 m.length c0).ownBlock = some g → g ≠ p := fun g hg he => hne (by rw [← hv, hg, he])
  have hO1 := hO.other p 9 (.int .u64 (C1 : Int)) hne2
  have hK1 : Kept w.heap.size (fun q => q = p ∨ a = some q) w (w.setCell ⟨p, 9, none⟩ (.int .u64 (C1 : Int))) := (Kept.refl _ _ w).set p 9 _ (.inr (.inl rfl))
  have hz1 : (w.setCell ⟨p, 9, none⟩ (.int .u64 (C1 : Int))).heap.size = w.heap.size := by simp [World.setCell]
  generalize w.setCell ⟨p, 9, none⟩ (.int .u64 (C1 : Int)) = w1 at hr1 hF1 hO1 hK1 hz1 ⊢
  simp only [List.set_cons_succ, List.set_cons_zero] at hF1
  clear c9 f9 c8 f8 hr hF hO hR0 hp3
  have c8 := hF1.at_ 0 8 _ (by rw [hsl]) rfl
  go_upto_block 0 with (at_builtin; refine wpList_append_lie rfl _ _ 24 5 .u8 1 rfl Tryd.underlying24 inf_u8 hO1 hr1 rfl rfl HN.out M HM.out.2.1 nm0 HM.out.2.2 (by omega) (by omega) (Nat.zero_le _) ?_; intro A2 c2 w2 hO2 hg2 hq2; have hF2 := hF1.grown hg2 (by rw [hv]; exact hne); have c8' := hF2.at_ 0 8 _ (by rw [hsl]) rfl; have f8' := hF2.free 8)
  rw [hv] at hg2 hq2
  have hn2 : (Value.slice A2 nm0 c2).ownBlock ≠ some p := by
    rcases hq2 with h | h
    · rw [h]; exact hne
    · rw [h, hz1]; intro e; injection e with e; omega
  have hF3 := hF2.setPost 0 8 (.slice A2 nm0 c2) (by rw [hsl])
  simp only [List.set_cons_zero] at hF3
  have hO3 := hO2.other p 8 (.slice A2 nm0 c2) (fun g hg he => hn2 (by rw [hg, he]))
  have hK3 : Kept w.heap.size (fun q => q = p ∨ a = some q) w (w2.setCell ⟨p, 8, none⟩ (.slice A2 nm0 c2)) :=
    (hK1.trans ((Kept.refl w.heap.size (fun q => a = some q) w1).grown hg2 (by omega) (fun g hg => .inr hg)) (Nat.le_refl _) (fun k _ h => .inr h)).set p 8 _ (.inr (.inl rfl))
  have hH3 : Hsh (w2.setCell ⟨p, 8, none⟩ (.slice A2 nm0 c2)) p (Value.slice A2 nm0 c2).ownBlock (blocksN L k0) (L.drop (64 * k0)) (C1 : Nat) := by
    rw [HS.out, HM.out.1]
    exact ⟨_, rfl, hn2, hF3, hO3⟩
  have hOO : OwnOr w.heap.size a (Value.slice A2 nm0 c2).ownBlock := by
    rcases hq2 with h | h
    · exact .inl h
    · exact .inr ⟨_, h, by omega⟩
  have h0 : Wl w w.heap.size p a L C1 (L.length / 64 - k0) (w2.setCell ⟨p, 8, none⟩ (.slice A2 nm0 c2)) := ⟨k0, _, by have := HL.out; omega, rfl, hOO, hH3, hK3⟩
  generalize w2.setCell ⟨p, 8, none⟩ (.slice A2 nm0 c2) = w3 at h0 ⊢
  obtain ⟨g0, hg0⟩ : ∃ g0, L.length / 64 - k0 = g0 := ⟨_, rfl⟩
  rw [hg0] at h0
  clear hO3 hF3 hK3 hH3 hOO hF2 hO2 hg2 hq2 hn2 c8' f8' hr1 hF1 hO1 hK1 hne2 hne hv hA0 HS HM HRE hsl hg0 c8
  have z64 := zerob64
  go_wp2_with fail
  go_loopg [4] g0 (fun gk v4 wr => Wl w w.heap.size p a L C1 gk wr)
  case atStart => exact h0
  case round =>
    clear h0
    obtain ⟨k, a', hkl, hgk, hOO, hH, hK⟩ := hrel
    obtain ⟨v, hv', hne', hF, hO⟩ := hH
    rw [hN1] at hkl hgk
    have HG := Lib.hid hgk
    clear hgk
    obtain ⟨M, hM⟩ : ∃ M, L.drop (64 * k) = M := ⟨_, rfl⟩
    have hMl : M.length = N1 - 64 * k := by rw [← hM, List.length_drop, hN1]
    obtain ⟨s, hs⟩ : ∃ s, blocksN L k = s := ⟨_, rfl⟩
    have hsl : s.length = 8 := by rw [← hs, blocksN_len]
    have hsw : Ww s := hs ▸ blocksN_W L k
    have hMb : Bys M := hM ▸ hb.drop _
    rw [hs] at hF
    rw [hM] at hO
    obtain ⟨A1, c1, rfl, hmc1, hcm1, hR1, hA1⟩ := hO.form
    obtain ⟨nm, hnm⟩ : ∃ nm, M.length = nm := ⟨_, rfl⟩
    rw [hnm] at hF hO hMl hmc1 hv'
    have c8 := hF.at_ 0 8 _ (by rw [hsl]) rfl
    have f8 := hF.free 8
    have hWs := hK.size
    by_cases hlt : 64 ≤ nm
    · have hltI : (nm : Int) ≥ 64 := by omega
      have HM := Lib.hid (And.intro hM (And.intro hnm (And.intro hMl hs)))
      clear hM hnm hMl hs
      obtain ⟨w4, hw4⟩ : ∃ w4, wr.alloc (.cells (U .u8 zb64) 104) = w4 := ⟨_, rfl⟩
      obtain ⟨q, hq⟩ : ∃ q, wr.heap.size = q := ⟨_, rfl⟩
      have hA4 : Arr w4 q 104 .u8 zb64 := by rw [← hw4, ← hq]; exact Arr.new wr _ _ _
      have hb4 : Below q wr w4 := by rw [← hw4, ← hq]; exact (Below.refl _ wr).alloc (Nat.le_refl _) _
      have hpq : p < q := by have := hF.lt; omega
      have haq : ∀ g, a' = some g → g < q := fun g hg => by have := (hO.lt g (hv'.trans hg)).2; omega
      have hF4 := hF.below hb4 hpq
      have hO4 := hO.below hb4 (by omega)
      have c84 := hF4.at_ 0 8 _ (by rw [hsl]) rfl
      have hK4 := hK.trans (Kept.of_below (S := fun _ => False) hb4) (by omega) (fun _ _ h => h.elim)
      have hT4 := hT.kept hK4 (Nat.le_refl _) (fun h => by rcases h with h | h; exact hk1.1 h.symm; exact hk1.2 h) (fun h => by rcases h with h | h; exact hk2.1 h.symm; exact hk2.2 h)
      clear hF hO hb4 hK hR1
      go_wp2_with fail
      clear c8 f8
      have HW4 := Lib.hid (And.intro hw4 hq)
      clear hw4
      refine wp_region_hold_tail 5 (fun w9 => w9 = w4.drew) (by kernel_rfl) (by kernel_rfl) rfl ?_
      simp only [List.take_succ_cons, List.take_zero, List.drop_succ_cons, List.drop_zero]
      refine Hd.val (.slice (some ⟨q, 0, none⟩) 64 64) (by kernel_rfl) (fun w => by kernel_rfl) ?_
      refine Hd.val (.pointer (some ⟨p, 0, none⟩)) (by kernel_rfl) (fun w => by kernel_rfl) ?_
      refine Hd.val (.pointer (some ⟨p, 0, none⟩)) (by kernel_rfl) (fun w => by kernel_rfl) ?_
      refine Hd.val (.pointer (some ⟨p, 8, none⟩)) (by kernel_rfl) (fun w => by kernel_rfl) ?_
      refine Hd.cell (.slice A1 nm c1) (⟨p, 8, none⟩) (by kernel_rfl) rfl (by kernel_rfl) Tryd.underlying24 rfl (fun w hw => by rw [hw]; exact c84) ?_
      refine wpHold_nil ?_
      simp only [Act.put, List.setIfInBounds_toArray, List.set_cons_zero, List.set_cons_succ]
      intro w9 hw9
      subst hw9
      obtain ⟨blk, hblk⟩ : ∃ blk, M.take 64 = blk := ⟨_, rfl⟩
      have hbl : blk.length = 64 := by rw [← hblk, List.length_take]; have := HM.out.2.1; omega
      have hbb : Bys blk := hblk ▸ hMb.take _
      have hRM := hO4.rdw
      obtain ⟨ad, rfl, hadl, hcM⟩ := hRM (by have := HM.out.2.1; omega)
      have hcell : ∀ j v, (nums .u8 blk)[j]? = some v → w4.drew.cell? (ad.add j) = some v := fun j v hjv => by
        have hj : j < blk.length := by have := (List.getElem?_eq_some_iff.1 hjv).1; rwa [nums_len] at this
        rw [nums_get .u8 blk j hj] at hjv
        injection hjv with hjv
        rw [← hjv, ← hblk, gt_take _ _ _ (by omega)]
        exact hcM j (by have := HM.out.2.1; omega)
      have hrun := run_copy_cells (P := Tryd.prog) w4.drew 24 24 3 5 q 0 64 64 ad nm c1 (nums .u8 blk) Tryd.underlying24 (by kernel_rfl) (by rw [nums_len, hbl]; exact (Nat.min_eq_right hlt).symm) hcell (fun j hj => by rw [nums_len, hbl] at hj; rw [Nat.zero_add]; have := hA4.drew.cell j (by rw [zb64_len]; exact hj); rw [this]; rfl) (fun j hj => by rw [Nat.zero_add]; exact hA4.drew.free j) (nums_one .u8 blk)
      rw [nums_len, hbl] at hrun
      have hA5 : Arr (w4.drew.setCells q 0 (nums .u8 blk)) q 104 .u8 blk := by
        have := setCells_row (g := q) (e := 104) (nums .u8 blk) 0 w4.drew [] (nums .u8 zb64) [] (by rw [nums_len, nums_len, hbl, zb64_len]) rfl (by rw [List.nil_append, List.append_nil]; exact hA4.drew)
        rw [List.nil_append, List.append_nil] at this
        exact this
      have hk5 : Kept q (fun _ => False) w4 (w4.drew.setCells q 0 (nums .u8 blk)) := ((Kept.refl _ _ w4).drew).setCells q 0 _ (.inl (Nat.le_refl _))
      have hF5 := hF4.kept hk5 hpq (fun h => h)
      have hO5 := hO4.keep (w' := w4.drew.setCells q 0 (nums .u8 blk)) (fun g hg => hk5.block g (haq g (hv'.symm.trans hg)) (fun h => h))
      have hK5 := hK4.trans hk5 (by have := hWs; omega) (fun _ _ h => h.elim)
      have hT5 := hT.kept hK5 (Nat.le_refl _) (fun h => by rcases h with h | h; exact hk1.1 h.symm; exact hk1.2 h) (fun h => by rcases h with h | h; exact hk2.1 h.symm; exact hk2.2 h)
      have hz5 : q < (w4.drew.setCells q 0 (nums .u8 blk)).heap.size := (Array.getElem?_eq_some_iff.1 hA5).1
      refine Lib.wpList_copy_run _ rfl _ _ 24 24 rfl _ _ rfl rfl hrun ?_
      generalize w4.drew.setCells q 0 (nums .u8 blk) = w5 at hA5 hk5 hF5 hO5 hK5 hT5 hz5 ⊢
      clear hrun hcell hcM hRM hA4 hF4 hO4 hK4 hT4 hk5 c84
      go_wp2_with fail
      simp only [Act.put, List.setIfInBounds_toArray, List.set_cons_zero, List.set_cons_succ]
      obtain ⟨F, hF_⟩ : ∃ F, turn2 s blk = F := ⟨_, rfl⟩
      have HFF := Lib.hid hF_
      have hFl : F.length = 8 := by rw [← hF_]; exact turn2_len blk hsl
      have hTurn := fun w9 (h9 : Below w5.heap.size w5 w9) => turn2_any s blk F w9 hF_ hsl hsw hbb hbl ((hT5.below h9 (Nat.le_refl _)).1) ((hT5.below h9 (Nat.le_refl _)).lt.1)
      have hsl64 : ∀ w9, (Instr.slice 24 (.slice (some ad) nm c1) (some (.int .i64 64)) none none).run Tryd.prog w9 = .ok (.slice (if c1 = 64 then some ad else (some ad).map (·.add 64)) (nm - 64) (c1 - 64)) w9 := fun w9 => run_slice_a 24 5 Tryd.underlying24 (by kernel_rfl) (some ad) nm c1 64 hlt .i64 w9
      obtain ⟨A9, hA9⟩ : ∃ A9, (if c1 = 64 then some ad else (some ad).map (·.add 64)) = A9 := ⟨_, rfl⟩
      have hO9 := hO5.cut 64 (by have := HM.out.2.1; omega)
      rw [HM.out.2.1] at hO9
      rw [hA9] at hsl64 hO9
      have ho9 : (Value.slice A9 (nm - 64) (c1 - 64)).ownBlock = a' := by
        rw [← hv', ← hA9]
        split
        · rfl
        · show some (ad.add 64).block = some ad.block
          rw [block_plus]
      have hn9 : (Value.slice A9 (nm - 64) (c1 - 64)).ownBlock ≠ some p := by rw [ho9]; exact hne'
      have next2 : ∀ {w8 : World}, Frt w8 p 103 .u32 F [.slice A9 (nm - 64) (c1 - 64), .int .u64 (C1 : Int)] → Lie w8 0 5 .u8 (.slice A9 (nm - 64) (c1 - 64)) (M.drop 64) → Kept w.heap.size (fun q => q = p ∨ a = some q) w w8 → Wl w w.heap.size p a L C1 (gk - 1) w8 := fun h1 h2 h3 => by
        have hm1 := HM.out.1
        have hm3 := HM.out.2.2.1
        refine ⟨k + 1, a', by rw [HL.out.2.1]; omega, by rw [HL.out.2.1]; have := HG.out; omega, hOO, ⟨_, ho9, hne', ?_, ?_⟩, h3⟩
        · rw [blocksN, HM.out.2.2.2, hm1, hblk, HFF.out]; exact h1
        · rw [← hm1, List.drop_drop] at h2
          rw [show 64 * (k + 1) = 64 * k + 64 by omega]; exact h2
      have hpl : p < w5.heap.size := by omega
      clear hA9
      obtain ⟨w5d, hw5d⟩ : ∃ u, w5.drew = u := ⟨_, rfl⟩
      have hb5 : Below w5.heap.size w5 w5d := by rw [← hw5d]; exact ⟨rfl, rfl, rfl, Nat.le_refl _, fun _ _ => rfl⟩
      have e0 := hF5.below hb5 hpl
      have e2 := hA5.below hb5 hz5
      have hTd := hTurn w5d hb5
      have hz5d : w5.heap.size ≤ w5d.heap.size := hb5.size
      refine Ln.enter 19 rfl (by kernel_rfl) ?_
      rw [hw5d]
      clear hw5d
      refine Ln.val 0 (.pointer (some ⟨p, 0, none⟩)) rfl (by kernel_rfl) (by kernel_rfl) (by kernel_rfl) (fun _ _ _ h => h) (by kernel_rfl) (fun w => by kernel_rfl) ?_
      refine Ln.val 1 (.pointer (some ⟨p, 0, none⟩)) rfl (by kernel_rfl) (by kernel_rfl) (by kernel_rfl) (fun _ _ _ h => h) (by kernel_rfl) (fun w => by kernel_rfl) ?_
      refine Ln.val 2 (.pointer (some ⟨p, 0, none⟩)) rfl (by kernel_rfl) (by kernel_rfl) (by kernel_rfl) (fun _ _ _ h => h) (by kernel_rfl) (fun w => by kernel_rfl) ?_
      refine Ln.val 3 (.pointer (some ⟨p, 0, none⟩)) rfl (by kernel_rfl) (by kernel_rfl) (by kernel_rfl) (fun _ _ _ h => h) (by kernel_rfl) (fun w => by kernel_rfl) ?_
      refine Ln.val 4 (.pointer (some ⟨p, 0, none⟩)) rfl (by kernel_rfl) (by kernel_rfl) (by kernel_rfl) (fun _ _ _ h => h) (by kernel_rfl) (fun w => by kernel_rfl) ?_
      refine Ln.val 8 (.pointer (some ⟨p, 0, none⟩)) rfl (by kernel_rfl) (by kernel_rfl) (by kernel_rfl) (fun _ _ _ h => h) (by kernel_rfl) (fun w => by kernel_rfl) ?_
      refine Ln.val 9 (.pointer (some ⟨p, 0, none⟩)) rfl (by kernel_rfl) (by kernel_rfl) (by kernel_rfl) (fun _ _ _ h => h) (by kernel_rfl) (fun w => by kernel_rfl) ?_
      refine Ln.val 10 (.pointer (some ⟨p, 8, none⟩)) rfl (by kernel_rfl) (by kernel_rfl) (by kernel_rfl) (fun _ _ _ h => h) (by kernel_rfl) (fun w => by kernel_rfl) ?_
      refine Lq.three 5 6 11 (by kernel_rfl) (LqOp.made 5 (.agg (U .u32 s)) rfl (by kernel_rfl) (exec_load_mid rfl (by kernel_rfl) e0.range Tryd.underlying96 rfl (by rw [List.length_map, hsl]; exact inf_w8)) ?_) (LqOp.made 6 (.agg (U .u8 blk)) rfl (by kernel_rfl) (exec_load_row _ rfl (by kernel_rfl) Tryd.underlying104 rfl (by rw [U_size, hbl]; exact inf_b64) e2) ?_) (LqOp.cell 11 (.slice (some ad) nm c1) ⟨p, 8, none⟩ rfl (by kernel_rfl) rfl (by kernel_rfl) Tryd.underlying24 rfl (e0.at_ 0 8 _ (by rw [hsl]) rfl) ?_)
      · refine Lq.two 6 11 (by kernel_rfl) (LqOp.made 6 (.agg (U .u8 blk)) rfl (by kernel_rfl) (exec_load_row _ rfl (by kernel_rfl) Tryd.underlying104 rfl (by rw [U_size, hbl]; exact inf_b64) e2) ?_) (LqOp.cell 11 (.slice (some ad) nm c1) ⟨p, 8, none⟩ rfl (by kernel_rfl) rfl (by kernel_rfl) Tryd.underlying24 rfl (e0.at_ 0 8 _ (by rw [hsl]) rfl) ?_)
        · refine Lq.two 7 11 (by kernel_rfl) (LqOp.call 7 (f := 80) (args := #[.agg (U .u32 s), .agg (U .u8 blk)]) rfl (by kernel_rfl) (by kernel_rfl) (hTd.mono ?_)) (LqOp.cell 11 (.slice (some ad) nm c1) ⟨p, 8, none⟩ rfl (by kernel_rfl) rfl (by kernel_rfl) Tryd.underlying24 rfl (e0.at_ 0 8 _ (by rw [hsl]) rfl) ?_)
          · rintro e w6 ⟨rfl, hb6⟩
            refine ⟨_, rfl, ?_⟩
            have hb56 := hb5.trans (hb6.mono hz5d)
            have y0 := hF5.below hb56 hpl
            have hO6 := hO5.below hb56 (Nat.le_refl _)
            have hO96 := hO9.below hb56 (Nat.le_refl _)
            have hK6 := hK5.trans (Kept.of_below (S := fun _ => False) hb56) (by omega) (fun _ _ h => h.elim)
            refine Lq.one 11 (by kernel_rfl) (LqOp.cell 11 (.slice (some ad) nm c1) ⟨p, 8, none⟩ rfl (by kernel_rfl) rfl (by kernel_rfl) Tryd.underlying24 rfl (y0.at_ 0 8 _ (by rw [hsl]) rfl) ?_)
            refine Ln.val 12 (.slice A9 (nm - 64) (c1 - 64)) rfl (by kernel_rfl) (by kernel_rfl) (by kernel_rfl) (fun _ _ _ h => h) (by kernel_rfl) (fun w => exec_slice rfl (by kernel_rfl) (.slice (some ad) nm c1) _ (some (.int .i64 64)) none none (by kernel_rfl) (by kernel_rfl) (by kernel_rfl) (by kernel_rfl) (hsl64 w)) ?_
            have hF6 := y0
            refine Ln.val 13 (.pointer (some ⟨p, 0, none⟩)) rfl (by kernel_rfl) (by kernel_rfl) (by kernel_rfl) (fun _ _ _ h => h) (by kernel_rfl) (fun w => by kernel_rfl) ?_
            refine Ln.val 14 (.pointer (some ⟨p, 0, none⟩)) rfl (by kernel_rfl) (by kernel_rfl) (by kernel_rfl) (fun _ _ _ h => h) (by kernel_rfl) (fun w => by kernel_rfl) ?_
            refine Ln.storeRow 15 96 _ _ p 0 (U .u32 F) rfl (by kernel_rfl) (by kernel_rfl) rfl (by kernel_rfl) (by kernel_rfl) (by rw [U_size, hFl, ← hsl]; exact hF6.there) (by rw [U_size, hFl]; exact inf_w8) (U_one .u32 F) ?_
            have hF7 := hF6.setNums (s' := F) (by rw [hFl, hsl])
            have hO7 := hO6.otherCells p 0 (nums .u32 F) (fun g hg he => hne' (by rw [← hv', hg, he]))
            have hO8 := hO96.otherCells p 0 (nums .u32 F) (fun g hg he => hn9 (by rw [hg, he]))
            have hK7 := hK6.setCells p 0 (nums .u32 F) (.inr (.inl rfl))
            rw [show (U .u32 F).toList = nums .u32 F by simp [U, nums]]
            generalize w6.setCells p 0 (nums .u32 F) = w7 at hF7 hO7 hO8 hK7 ⊢
            have c8 := hF7.at_ 0 8 _ (by rw [hFl]) rfl
            have f8 := hF7.free 8
            refine Ln.val 16 (.pointer (some ⟨p, 0, none⟩)) rfl (by kernel_rfl) (by kernel_rfl) (by kernel_rfl) (fun _ _ _ h => h) (by kernel_rfl) (fun w => by kernel_rfl) ?_
            refine Ln.val 17 (.pointer (some ⟨p, 8, none⟩)) rfl (by kernel_rfl) (by kernel_rfl) (by kernel_rfl) (fun _ _ _ h => h) (by kernel_rfl) (fun w => by kernel_rfl) ?_
            refine Ln.storeOne 18 24 _ _ p 8 (.slice A9 (nm - 64) (c1 - 64)) _ rfl (by kernel_rfl) (by kernel_rfl) rfl (by kernel_rfl) (by kernel_rfl) rfl rfl (by kernel_rfl) c8 f8 ?_
            have hF9 := hF7.setPost 0 8 (.slice A9 (nm - 64) (c1 - 64)) (by rw [hFl])
            simp only [List.set_cons_zero] at hF9
            have hO9' := hO8.other p 8 (.slice A9 (nm - 64) (c1 - 64)) (fun g hg he => hn9 (by rw [hg, he]))
            have hK9 := hK7.set p 8 (.slice A9 (nm - 64) (c1 - 64)) (.inr (.inl rfl))
            generalize w7.setCell ⟨p, 8, none⟩ (.slice A9 (nm - 64) (c1 - 64)) = w8 at hF9 hO9' hK9 ⊢
            refine Ln.doneAt ⟨#[.pointer (some ⟨p, 0, none⟩), .slice A n c, undef, undef, .pointer (some ⟨q, 0, none⟩), .pointer (some ⟨p, 0, none⟩), .pointer (some ⟨p, 0, none⟩), .pointer (some ⟨p, 9, none⟩), .int .u64 (N0 : Int), .slice A n c, .int .i64 (n : Int), .int .u64 (n : Int), .int .u64 (C1 : Int), .pointer (some ⟨p, 0, none⟩), .pointer (some ⟨p, 9, none⟩), .pointer (some ⟨p, 0, none⟩), .pointer (some ⟨p, 0, none⟩), .pointer (some ⟨p, 0, none⟩), .pointer (some ⟨p, 8, none⟩), .slice A0 m.length c0, .slice A n c, .slice A2 nm0 c2, .pointer (some ⟨p, 0, none⟩), .pointer (some ⟨p, 8, none⟩), .pointer (some ⟨p, 0, none⟩), .pointer (some ⟨p, 0, none⟩), .pointer (some ⟨p, 8, none⟩), .slice (some ad) nm c1, .int .i64 (nm : Int), .bool true, .slice (some ⟨q, 0, none⟩) 64 64, .pointer (some ⟨p, 0, none⟩), .pointer (some ⟨p, 0, none⟩), .pointer (some ⟨p, 8, none⟩), .slice (some ad) nm c1, .int .i64 64, .pointer (some ⟨p, 0, none⟩), .pointer (some ⟨p, 0, none⟩), .pointer (some ⟨p, 0, none⟩), .pointer (some ⟨p, 0, none⟩), .pointer (some ⟨p, 0, none⟩), .agg (U .u32 s), .agg (U .u8 blk), .agg (U .u32 F), .pointer (some ⟨p, 0, none⟩), .pointer (some ⟨p, 0, none⟩), .pointer (some ⟨p, 8, none⟩), .slice (some ad) nm c1, .slice A9 (nm - 64) (c1 - 64), .pointer (some ⟨p, 0, none⟩), .pointer (some ⟨p, 0, none⟩), .pointer (some ⟨p, 0, none⟩), .pointer (some ⟨p, 8, none⟩)], []⟩ (by kernel_rfl) (by kernel_rfl) ?_
            go_wp2_with fail
            go_roundg (gk - 1)
            case measure => have := HG.out; have := HM.out.2.2.1; omega
            case rel => exact next2 hF9 hO9' hK9
          · refine Ln.val 12 (.slice A9 (nm - 64) (c1 - 64)) rfl (by kernel_rfl) (by kernel_rfl) (by kernel_rfl) (fun _ _ _ h => h) (by kernel_rfl) (fun w => exec_slice rfl (by kernel_rfl) (.slice (some ad) nm c1) _ (some (.int .i64 64)) none none (by kernel_rfl) (by kernel_rfl) (by kernel_rfl) (by kernel_rfl) (hsl64 w)) ?_
            refine Lq.one 7 (by kernel_rfl) (LqOp.call 7 (f := 80) (args := #[.agg (U .u32 s), .agg (U .u8 blk)]) rfl (by kernel_rfl) (by kernel_rfl) (hTd.mono ?_))
            rintro e w6 ⟨rfl, hb6⟩
            refine ⟨_, rfl, ?_⟩
            have hb56 := hb5.trans (hb6.mono hz5d)
            have y0 := hF5.below hb56 hpl
            have hO6 := hO5.below hb56 (Nat.le_refl _)
            have hO96 := hO9.below hb56 (Nat.le_refl _)
            have hK6 := hK5.trans (Kept.of_below (S := fun _ => False) hb56) (by omega) (fun _ _ h => h.elim)
            have hF6 := y0
            refine Ln.val 13 (.pointer (some ⟨p, 0, none⟩)) rfl (by kernel_rfl) (by kernel_rfl) (by kernel_rfl) (fun _ _ _ h => h) (by kernel_rfl) (fun w => by kernel_rfl) ?_
            refine Ln.val 14 (.pointer (some ⟨p, 0, none⟩)) rfl (by kernel_rfl) (by kernel_rfl) (by kernel_rfl) (fun _ _ _ h => h) (by kernel_rfl) (fun w => by kernel_rfl) ?_
            refine Ln.storeRow 15 96 _ _ p 0 (U .u32 F) rfl (by kernel_rfl) (by kernel_rfl) rfl (by kernel_rfl) (by kernel_rfl) (by rw [U_size, hFl, ← hsl]; exact hF6.there) (by rw [U_size, hFl]; exact inf_w8) (U_one .u32 F) ?_
            have hF7 := hF6.setNums (s' := F) (by rw [hFl, hsl])
            have hO7 := hO6.otherCells p 0 (nums .u32 F) (fun g hg he => hne' (by rw [← hv', hg, he]))
            have hO8 := hO96.otherCells p 0 (nums .u32 F) (fun g hg he => hn9 (by rw [hg, he]))
            have hK7 := hK6.setCells p 0 (nums .u32 F) (.inr (.inl rfl))
            rw [show (U .u32 F).toList = nums .u32 F by simp [U, nums]]
            generalize w6.setCells p 0 (nums .u32 F) = w7 at hF7 hO7 hO8 hK7 ⊢
            have c8 := hF7.at_ 0 8 _ (by rw [hFl]) rfl
            have f8 := hF7.free 8
            refine Ln.val 16 (.pointer (some ⟨p, 0, none⟩)) rfl (by kernel_rfl) (by kernel_rfl) (by kernel_rfl) (fun _ _ _ h => h) (by kernel_rfl) (fun w => by kernel_rfl) ?_
            refine Ln.val 17 (.pointer (some ⟨p, 8, none⟩)) rfl (by kernel_rfl) (by kernel_rfl) (by kernel_rfl) (fun _ _ _ h => h) (by kernel_rfl) (fun w => by kernel_rfl) ?_
            refine Ln.storeOne 18 24 _ _ p 8 (.slice A9 (nm - 64) (c1 - 64)) _ rfl (by kernel_rfl) (by kernel_rfl) rfl (by kernel_rfl) (by kernel_rfl) rfl rfl (by kernel_rfl) c8 f8 ?_
            have hF9 := hF7.setPost 0 8 (.slice A9 (nm - 64) (c1 - 64)) (by rw [hFl])
            simp only [List.set_cons_zero] at hF9
            have hO9' := hO8.other p 8 (.slice A9 (nm - 64) (c1 - 64)) (fun g hg he => hn9 (by rw [hg, he]))
            have hK9 := hK7.set p 8 (.slice A9 (nm - 64) (c1 - 64)) (.inr (.inl rfl))
            generalize w7.setCell ⟨p, 8, none⟩ (.slice A9 (nm - 64) (c1 - 64)) = w8 at hF9 hO9' hK9 ⊢
            refine Ln.doneAt ⟨#[.pointer (some ⟨p, 0, none⟩), .slice A n c, undef, undef, .pointer (some ⟨q, 0, none⟩), .pointer (some ⟨p, 0, none⟩), .pointer (some ⟨p, 0, none⟩), .pointer (some ⟨p, 9, none⟩), .int .u64 (N0 : Int), .slice A n c, .int .i64 (n : Int), .int .u64 (n : Int), .int .u64 (C1 : Int), .pointer (some ⟨p, 0, none⟩), .pointer (some ⟨p, 9, none⟩), .pointer (some ⟨p, 0, none⟩), .pointer (some ⟨p, 0, none⟩), .pointer (some ⟨p, 0, none⟩), .pointer (some ⟨p, 8, none⟩), .slice A0 m.length c0, .slice A n c, .slice A2 nm0 c2, .pointer (some ⟨p, 0, none⟩), .pointer (some ⟨p, 8, none⟩), .pointer (some ⟨p, 0, none⟩), .pointer (some ⟨p, 0, none⟩), .pointer (some ⟨p, 8, none⟩), .slice (some ad) nm c1, .int .i64 (nm : Int), .bool true, .slice (some ⟨q, 0, none⟩) 64 64, .pointer (some ⟨p, 0, none⟩), .pointer (some ⟨p, 0, none⟩), .pointer (some ⟨p, 8, none⟩), .slice (some ad) nm c1, .int .i64 64, .pointer (some ⟨p, 0, none⟩), .pointer (some ⟨p, 0, none⟩), .pointer (some ⟨p, 0, none⟩), .pointer (some ⟨p, 0, none⟩), .pointer (some ⟨p, 0, none⟩), .agg (U .u32 s), .agg (U .u8 blk), .agg (U .u32 F), .pointer (some ⟨p, 0, none⟩), .pointer (some ⟨p, 0, none⟩), .pointer (some ⟨p, 8, none⟩), .slice (some ad) nm c1, .slice A9 (nm - 64) (c1 - 64), .pointer (some ⟨p, 0, none⟩), .pointer (some ⟨p, 0, none⟩), .pointer (some ⟨p, 0, none⟩), .pointer (some ⟨p, 8, none⟩)], []⟩ (by kernel_rfl) (by kernel_rfl) ?_
            go_wp2_with fail
            go_roundg (gk - 1)
            case measure => have := HG.out; have := HM.out.2.2.1; omega
            case rel => exact next2 hF9 hO9' hK9
        · refine Ln.val 12 (.slice A9 (nm - 64) (c1 - 64)) rfl (by kernel_rfl) (by kernel_rfl) (by kernel_rfl) (fun _ _ _ h => h) (by kernel_rfl) (fun w => exec_slice rfl (by kernel_rfl) (.slice (some ad) nm c1) _ (some (.int .i64 64)) none none (by kernel_rfl) (by kernel_rfl) (by kernel_rfl) (by kernel_rfl) (hsl64 w)) ?_
          refine Lq.one 6 (by kernel_rfl) (LqOp.made 6 (.agg (U .u8 blk)) rfl (by kernel_rfl) (exec_load_row _ rfl (by kernel_rfl) Tryd.underlying104 rfl (by rw [U_size, hbl]; exact inf_b64) e2) ?_)
          refine Lq.one 7 (by kernel_rfl) (LqOp.call 7 (f := 80) (args := #[.agg (U .u32 s), .agg (U .u8 blk)]) rfl (by kernel_rfl) (by kernel_rfl) (hTd.mono ?_))
          rintro e w6 ⟨rfl, hb6⟩
          refine ⟨_, rfl, ?_⟩
          have hb56 := hb5.trans (hb6.mono hz5d)
          have y0 := hF5.below hb56 hpl
          have hO6 := hO5.below hb56 (Nat.le_refl _)
          have hO96 := hO9.below hb56 (Nat.le_refl _)
          have hK6 := hK5.trans (Kept.of_below (S := fun _ => False) hb56) (by omega) (fun _ _ h => h.elim)
          have hF6 := y0
          refine Ln.val 13 (.pointer (some ⟨p, 0, none⟩)) rfl (by kernel_rfl) (by kernel_rfl) (by kernel_rfl) (fun _ _ _ h => h) (by kernel_rfl) (fun w => by kernel_rfl) ?_
          refine Ln.val 14 (.pointer (some ⟨p, 0, none⟩)) rfl (by kernel_rfl) (by kernel_rfl) (by kernel_rfl) (fun _ _ _ h => h) (by kernel_rfl) (fun w => by kernel_rfl) ?_
          refine Ln.storeRow 15 96 _ _ p 0 (U .u32 F) rfl (by kernel_rfl) (by kernel_rfl) rfl (by kernel_rfl) (by kernel_rfl) (by rw [U_size, hFl, ← hsl]; exact hF6.there) (by rw [U_size, hFl]; exact inf_w8) (U_one .u32 F) ?_
          have hF7 := hF6.setNums (s' := F) (by rw [hFl, hsl])
          have hO7 := hO6.otherCells p 0 (nums .u32 F) (fun g hg he => hne' (by rw [← hv', hg, he]))
          have hO8 := hO96.otherCells p 0 (nums .u32 F) (fun g hg he => hn9 (by rw [hg, he]))
          have hK7 := hK6.setCells p 0 (nums .u32 F) (.inr (.inl rfl))
          rw [show (U .u32 F).toList = nums .u32 F by simp [U, nums]]
          generalize w6.setCells p 0 (nums .u32 F) = w7 at hF7 hO7 hO8 hK7 ⊢
          have c8 := hF7.at_ 0 8 _ (by rw [hFl]) rfl
          have f8 := hF7.free 8
          refine Ln.val 16 (.pointer (some ⟨p, 0, none⟩)) rfl (by kernel_rfl) (by kernel_rfl) (by kernel_rfl) (fun _ _ _ h => h) (by kernel_rfl) (fun w => by kernel_rfl) ?_
          refine Ln.val 17 (.pointer (some ⟨p, 8, none⟩)) rfl (by kernel_rfl) (by kernel_rfl) (by kernel_rfl) (fun _ _ _ h => h) (by kernel_rfl) (fun w => by kernel_rfl) ?_
          refine Ln.storeOne 18 24 _ _ p 8 (.slice A9 (nm - 64) (c1 - 64)) _ rfl (by kernel_rfl) (by kernel_rfl) rfl (by kernel_rfl) (by kernel_rfl) rfl rfl (by kernel_rfl) c8 f8 ?_
          have hF9 := hF7.setPost 0 8 (.slice A9 (nm - 64) (c1 - 64)) (by rw [hFl])
          simp only [List.set_cons_zero] at hF9
          have hO9' := hO8.other p 8 (.slice A9 (nm - 64) (c1 - 64)) (fun g hg he => hn9 (by rw [hg, he]))
          have hK9 := hK7.set p 8 (.slice A9 (nm - 64) (c1 - 64)) (.inr (.inl rfl))
          generalize w7.setCell ⟨p, 8, none⟩ (.slice A9 (nm - 64) (c1 - 64)) = w8 at hF9 hO9' hK9 ⊢
          refine Ln.doneAt ⟨#[.pointer (some ⟨p, 0, none⟩), .slice A n c, undef, undef, .pointer (some ⟨q, 0, none⟩), .pointer (some ⟨p, 0, none⟩), .pointer (some ⟨p, 0, none⟩), .pointer (some ⟨p, 9, none⟩), .int .u64 (N0 : Int), .slice A n c, .int .i64 (n : Int), .int .u64 (n : Int), .int .u64 (C1 : Int), .pointer (some ⟨p, 0, none⟩), .pointer (some ⟨p, 9, none⟩), .pointer (some ⟨p, 0, none⟩), .pointer (some ⟨p, 0, none⟩), .pointer (some ⟨p, 0, none⟩), .pointer (some ⟨p, 8, none⟩), .slice A0 m.length c0, .slice A n c, .slice A2 nm0 c2, .pointer (some ⟨p, 0, none⟩), .pointer (some ⟨p, 8, none⟩), .pointer (some ⟨p, 0, none⟩), .pointer (some ⟨p, 0, none⟩), .pointer (some ⟨p, 8, none⟩), .slice (some ad) nm c1, .int .i64 (nm : Int), .bool true, .slice (some ⟨q, 0, none⟩) 64 64, .pointer (some ⟨p, 0, none⟩), .pointer (some ⟨p, 0, none⟩), .pointer (some ⟨p, 8, none⟩), .slice (some ad) nm c1, .int .i64 64, .pointer (some ⟨p, 0, none⟩), .pointer (some ⟨p, 0, none⟩), .pointer (some ⟨p, 0, none⟩), .pointer (some ⟨p, 0, none⟩), .pointer (some ⟨p, 0, none⟩), .agg (U .u32 s), .agg (U .u8 blk), .agg (U .u32 F), .pointer (some ⟨p, 0, none⟩), .pointer (some ⟨p, 0, none⟩), .pointer (some ⟨p, 8, none⟩), .slice (some ad) nm c1, .slice A9 (nm - 64) (c1 - 64), .pointer (some ⟨p, 0, none⟩), .pointer (some ⟨p, 0, none⟩), .pointer (some ⟨p, 0, none⟩), .pointer (some ⟨p, 8, none⟩)], []⟩ (by kernel_rfl) (by kernel_rfl) ?_
          go_wp2_with fail
          go_roundg (gk - 1)
          case measure => have := HG.out; have := HM.out.2.2.1; omega
          case rel => exact next2 hF9 hO9' hK9
      · refine Lq.two 5 11 (by kernel_rfl) (LqOp.made 5 (.agg (U .u32 s)) rfl (by kernel_rfl) (exec_load_mid rfl (by kernel_rfl) e0.range Tryd.underlying96 rfl (by rw [List.length_map, hsl]; exact inf_w8)) ?_) (LqOp.cell 11 (.slice (some ad) nm c1) ⟨p, 8, none⟩ rfl (by kernel_rfl) rfl (by kernel_rfl) Tryd.underlying24 rfl (e0.at_ 0 8 _ (by rw [hsl]) rfl) ?_)
        · refine Lq.two 7 11 (by kernel_rfl) (LqOp.call 7 (f := 80) (args := #[.agg (U .u32 s), .agg (U .u8 blk)]) rfl (by kernel_rfl) (by kernel_rfl) (hTd.mono ?_)) (LqOp.cell 11 (.slice (some ad) nm c1) ⟨p, 8, none⟩ rfl (by kernel_rfl) rfl (by kernel_rfl) Tryd.underlying24 rfl (e0.at_ 0 8 _ (by rw [hsl]) rfl) ?_)
          · rintro e w6 ⟨rfl, hb6⟩
            refine ⟨_, rfl, ?_⟩
            have hb56 := hb5.trans (hb6.mono hz5d)
            have y0 := hF5.below hb56 hpl
            have hO6 := hO5.below hb56 (Nat.le_refl _)
            have hO96 := hO9.below hb56 (Nat.le_refl _)
            have hK6 := hK5.trans (Kept.of_below (S := fun _ => False) hb56) (by omega) (fun _ _ h => h.elim)
            refine Lq.one 11 (by kernel_rfl) (LqOp.cell 11 (.slice (some ad) nm c1) ⟨p, 8, none⟩ rfl (by kernel_rfl) rfl (by kernel_rfl) Tryd.underlying24 rfl (y0.at_ 0 8 _ (by rw [hsl]) rfl) ?_)
            refine Ln.val 12 (.slice A9 (nm - 64) (c1 - 64)) rfl (by kernel_rfl) (by kernel_rfl) (by kernel_rfl) (fun _ _ _ h => h) (by kernel_rfl) (fun w => exec_slice rfl (by kernel_rfl) (.slice (some ad) nm c1) _ (some (.int .i64 64)) none none (by kernel_rfl) (by kernel_rfl) (by kernel_rfl) (by kernel_rfl) (hsl64 w)) ?_
            have hF6 := y0
            refine Ln.val 13 (.pointer (some ⟨p, 0, none⟩)) rfl (by kernel_rfl) (by kernel_rfl) (by kernel_rfl) (fun _ _ _ h => h) (by kernel_rfl) (fun w => by kernel_rfl) ?_
            refine Ln.val 14 (.pointer (some ⟨p, 0, none⟩)) rfl (by kernel_rfl) (by kernel_rfl) (by kernel_rfl) (fun _ _ _ h => h) (by kernel_rfl) (fun w => by kernel_rfl) ?_
            refine Ln.storeRow 15 96 _ _ p 0 (U .u32 F) rfl (by kernel_rfl) (by kernel_rfl) rfl (by kernel_rfl) (by kernel_rfl) (by rw [U_size, hFl, ← hsl]; exact hF6.there) (by rw [U_size, hFl]; exact inf_w8) (U_one .u32 F) ?_
            have hF7 := hF6.setNums (s' := F) (by rw [hFl, hsl])
            have hO7 := hO6.otherCells p 0 (nums .u32 F) (fun g hg he => hne' (by rw [← hv', hg, he]))
            have hO8 := hO96.otherCells p 0 (nums .u32 F) (fun g hg he => hn9 (by rw [hg, he]))
            have hK7 := hK6.setCells p 0 (nums .u32 F) (.inr (.inl rfl))
            rw [show (U .u32 F).toList = nums .u32 F by simp [U, nums]]
            generalize w6.setCells p 0 (nums .u32 F) = w7 at hF7 hO7 hO8 hK7 ⊢
            have c8 := hF7.at_ 0 8 _ (by rw [hFl]) rfl
            have f8 := hF7.free 8
            refine Ln.val 16 (.pointer (some ⟨p, 0, none⟩)) rfl (by kernel_rfl) (by kernel_rfl) (by kernel_rfl) (fun _ _ _ h => h) (by kernel_rfl) (fun w => by kernel_rfl) ?_
            refine Ln.val 17 (.pointer (some ⟨p, 8, none⟩)) rfl (by kernel_rfl) (by kernel_rfl) (by kernel_rfl) (fun _ _ _ h => h) (by kernel_rfl) (fun w => by kernel_rfl) ?_
            refine Ln.storeOne 18 24 _ _ p 8 (.slice A9 (nm - 64) (c1 - 64)) _ rfl (by kernel_rfl) (by kernel_rfl) rfl (by kernel_rfl) (by kernel_rfl) rfl rfl (by kernel_rfl) c8 f8 ?_
            have hF9 := hF7.setPost 0 8 (.slice A9 (nm - 64) (c1 - 64)) (by rw [hFl])
            simp only [List.set_cons_zero] at hF9
            have hO9' := hO8.other p 8 (.slice A9 (nm - 64) (c1 - 64)) (fun g hg he => hn9 (by rw [hg, he]))
            have hK9 := hK7.set p 8 (.slice A9 (nm - 64) (c1 - 64)) (.inr (.inl rfl))
            generalize w7.setCell ⟨p, 8, none⟩ (.slice A9 (nm - 64) (c1 - 64)) = w8 at hF9 hO9' hK9 ⊢
            refine Ln.doneAt ⟨#[.pointer (some ⟨p, 0, none⟩), .slice A n c, undef, undef, .pointer (some ⟨q, 0, none⟩), .pointer (some ⟨p, 0, none⟩), .pointer (some ⟨p, 0, none⟩), .pointer (some ⟨p, 9, none⟩), .int .u64 (N0 : Int), .slice A n c, .int .i64 (n : Int), .int .u64 (n : Int), .int .u64 (C1 : Int), .pointer (some ⟨p, 0, none⟩), .pointer (some ⟨p, 9, none⟩), .pointer (some ⟨p, 0, none⟩), .pointer (some ⟨p, 0, none⟩), .pointer (some ⟨p, 0, none⟩), .pointer (some ⟨p, 8, none⟩), .slice A0 m.length c0, .slice A n c, .slice A2 nm0 c2, .pointer (some ⟨p, 0, none⟩), .pointer (some ⟨p, 8, none⟩), .pointer (some ⟨p, 0, none⟩), .pointer (some ⟨p, 0, none⟩), .pointer (some ⟨p, 8, none⟩), .slice (some ad) nm c1, .int .i64 (nm : Int), .bool true, .slice (some ⟨q, 0, none⟩) 64 64, .pointer (some ⟨p, 0, none⟩), .pointer (some ⟨p, 0, none⟩), .pointer (some ⟨p, 8, none⟩), .slice (some ad) nm c1, .int .i64 64, .pointer (some ⟨p, 0, none⟩), .pointer (some ⟨p, 0, none⟩), .pointer (some ⟨p, 0, none⟩), .pointer (some ⟨p, 0, none⟩), .pointer (some ⟨p, 0, none⟩), .agg (U .u32 s), .agg (U .u8 blk), .agg (U .u32 F), .pointer (some ⟨p, 0, none⟩), .pointer (some ⟨p, 0, none⟩), .pointer (some ⟨p, 8, none⟩), .slice (some ad) nm c1, .slice A9 (nm - 64) (c1 - 64), .pointer (some ⟨p, 0, none⟩), .pointer (some ⟨p, 0, none⟩), .pointer (some ⟨p, 0, none⟩), .pointer (some ⟨p, 8, none⟩)], []⟩ (by kernel_rfl) (by kernel_rfl) ?_
            go_wp2_with fail
            go_roundg (gk - 1)
            case measure => have := HG.out; have := HM.out.2.2.1; omega
            case rel => exact next2 hF9 hO9' hK9
          · refine Ln.val 12 (.slice A9 (nm - 64) (c1 - 64)) rfl (by kernel_rfl) (by kernel_rfl) (by kernel_rfl) (fun _ _ _ h => h) (by kernel_rfl) (fun w => exec_slice rfl (by kernel_rfl) (.slice (some ad) nm c1) _ (some (.int .i64 64)) none none (by kernel_rfl) (by kernel_rfl) (by kernel_rfl) (by kernel_rfl) (hsl64 w)) ?_
            refine Lq.one 7 (by kernel_rfl) (LqOp.call 7 (f := 80) (args := #[.agg (U .u32 s), .agg (U .u8 blk)]) rfl (by kernel_rfl) (by kernel_rfl) (hTd.mono ?_))
            rintro e w6 ⟨rfl, hb6⟩
            refine ⟨_, rfl, ?_⟩
            have hb56 := hb5.trans (hb6.mono hz5d)
            have y0 := hF5.below hb56 hpl
            have hO6 := hO5.below hb56 (Nat.le_refl _)
            have hO96 := hO9.below hb56 (Nat.le_refl _)
            have hK6 := hK5.trans (Kept.of_below (S := fun _ => False) hb56) (by omega) (fun _ _ h => h.elim)
            have hF6 := y0
            refine Ln.val 13 (.pointer (some ⟨p, 0, none⟩)) rfl (by kernel_rfl) (by kernel_rfl) (by kernel_rfl) (fun _ _ _ h => h) (by kernel_rfl) (fun w => by kernel_rfl) ?_
            refine Ln.val 14 (.pointer (some ⟨p, 0, none⟩)) rfl (by kernel_rfl) (by kernel_rfl) (by kernel_rfl) (fun _ _ _ h => h) (by kernel_rfl) (fun w => by kernel_rfl) ?_
            refine Ln.storeRow 15 96 _ _ p 0 (U .u32 F) rfl (by kernel_rfl) (by kernel_rfl) rfl (by kernel_rfl) (by kernel_rfl) (by rw [U_size, hFl, ← hsl]; exact hF6.there) (by rw [U_size, hFl]; exact inf_w8) (U_one .u32 F) ?_
            have hF7 := hF6.setNums (s' := F) (by rw [hFl, hsl])
            have hO7 := hO6.otherCells p 0 (nums .u32 F) (fun g hg he => hne' (by rw [← hv', hg, he]))
            have hO8 := hO96.otherCells p 0 (nums .u32 F) (fun g hg he => hn9 (by rw [hg, he]))
            have hK7 := hK6.setCells p 0 (nums .u32 F) (.inr (.inl rfl))
            rw [show (U .u32 F).toList = nums .u32 F by simp [U, nums]]
            generalize w6.setCells p 0 (nums .u32 F) = w7 at hF7 hO7 hO8 hK7 ⊢
            have c8 := hF7.at_ 0 8 _ (by rw [hFl]) rfl
            have f8 := hF7.free 8
            refine Ln.val 16 (.pointer (some ⟨p, 0, none⟩)) rfl (by kernel_rfl) (by kernel_rfl) (by kernel_rfl) (fun _ _ _ h => h) (by kernel_rfl) (fun w => by kernel_rfl) ?_
            refine Ln.val 17 (.pointer (some ⟨p, 8, none⟩)) rfl (by kernel_rfl) (by kernel_rfl) (by kernel_rfl) (fun _ _ _ h => h) (by kernel_rfl) (fun w => by kernel_rfl) ?_
            refine Ln.storeOne 18 24 _ _ p 8 (.slice A9 (nm - 64) (c1 - 64)) _ rfl (by kernel_rfl) (by kernel_rfl) rfl (by kernel_rfl) (by kernel_rfl) rfl rfl (by kernel_rfl) c8 f8 ?_
            have hF9 := hF7.setPost 0 8 (.slice A9 (nm - 64) (c1 - 64)) (by rw [hFl])
            simp only [List.set_cons_zero] at hF9
            have hO9' := hO8.other p 8 (.slice A9 (nm - 64) (c1 - 64)) (fun g hg he => hn9 (by rw [hg, he]))
            have hK9 := hK7.set p 8 (.slice A9 (nm - 64) (c1 - 64)) (.inr (.inl rfl))
            generalize w7.setCell ⟨p, 8, none⟩ (.slice A9 (nm - 64) (c1 - 64)) = w8 at hF9 hO9' hK9 ⊢
            refine Ln.doneAt ⟨#[.pointer (some ⟨p, 0, none⟩), .slice A n c, undef, undef, .pointer (some ⟨q, 0, none⟩), .pointer (some ⟨p, 0, none⟩), .pointer (some ⟨p, 0, none⟩), .pointer (some ⟨p, 9, none⟩), .int .u64 (N0 : Int), .slice A n c, .int .i64 (n : Int), .int .u64 (n : Int), .int .u64 (C1 : Int), .pointer (some ⟨p, 0, none⟩), .pointer (some ⟨p, 9, none⟩), .pointer (some ⟨p, 0, none⟩), .pointer (some ⟨p, 0, none⟩), .pointer (some ⟨p, 0, none⟩), .pointer (some ⟨p, 8, none⟩), .slice A0 m.length c0, .slice A n c, .slice A2 nm0 c2, .pointer (some ⟨p, 0, none⟩), .pointer (some ⟨p, 8, none⟩), .pointer (some ⟨p, 0, none⟩), .pointer (some ⟨p, 0, none⟩), .pointer (some ⟨p, 8, none⟩), .slice (some ad) nm c1, .int .i64 (nm : Int), .bool true, .slice (some ⟨q, 0, none⟩) 64 64, .pointer (some ⟨p, 0, none⟩), .pointer (some ⟨p, 0, none⟩), .pointer (some ⟨p, 8, none⟩), .slice (some ad) nm c1, .int .i64 64, .pointer (some ⟨p, 0, none⟩), .pointer (some ⟨p, 0, none⟩), .pointer (some ⟨p, 0, none⟩), .pointer (some ⟨p, 0, none⟩), .pointer (some ⟨p, 0, none⟩), .agg (U .u32 s), .agg (U .u8 blk), .agg (U .u32 F), .pointer (some ⟨p, 0, none⟩), .pointer (some ⟨p, 0, none⟩), .pointer (some ⟨p, 8, none⟩), .slice (some ad) nm c1, .slice A9 (nm - 64) (c1 - 64), .pointer (some ⟨p, 0, none⟩), .pointer (some ⟨p, 0, none⟩), .pointer (some ⟨p, 0, none⟩), .pointer (some ⟨p, 8, none⟩)], []⟩ (by kernel_rfl) (by kernel_rfl) ?_
            go_wp2_with fail
            go_roundg (gk - 1)
            case measure => have := HG.out; have := HM.out.2.2.1; omega
            case rel => exact next2 hF9 hO9' hK9
        · refine Ln.val 12 (.slice A9 (nm - 64) (c1 - 64)) rfl (by kernel_rfl) (by kernel_rfl) (by kernel_rfl) (fun _ _ _ h => h) (by kernel_rfl) (fun w => exec_slice rfl (by kernel_rfl) (.slice (some ad) nm c1) _ (some (.int .i64 64)) none none (by kernel_rfl) (by kernel_rfl) (by kernel_rfl) (by kernel_rfl) (hsl64 w)) ?_
          refine Lq.one 5 (by kernel_rfl) (LqOp.made 5 (.agg (U .u32 s)) rfl (by kernel_rfl) (exec_load_mid rfl (by kernel_rfl) e0.range Tryd.underlying96 rfl (by rw [List.length_map, hsl]; exact inf_w8)) ?_)
          refine Lq.one 7 (by kernel_rfl) (LqOp.call 7 (f := 80) (args := #[.agg (U .u32 s), .agg (U .u8 blk)]) rfl (by kernel_rfl) (by kernel_rfl) (hTd.mono ?_))
          rintro e w6 ⟨rfl, hb6⟩
          refine ⟨_, rfl, ?_⟩
          have hb56 := hb5.trans (hb6.mono hz5d)
          have y0 := hF5.below hb56 hpl
          have hO6 := hO5.below hb56 (Nat.le_refl _)
          have hO96 := hO9.below hb56 (Nat.le_refl _)
          have hK6 := hK5.trans (Kept.of_below (S := fun _ => False) hb56) (by omega) (fun _ _ h => h.elim)
          have hF6 := y0
          refine Ln.val 13 (.pointer (some ⟨p, 0, none⟩)) rfl (by kernel_rfl) (by kernel_rfl) (by kernel_rfl) (fun _ _ _ h => h) (by kernel_rfl) (fun w => by kernel_rfl) ?_
          refine Ln.val 14 (.pointer (some ⟨p, 0, none⟩)) rfl (by kernel_rfl) (by kernel_rfl) (by kernel_rfl) (fun _ _ _ h => h) (by kernel_rfl) (fun w => by kernel_rfl) ?_
          refine Ln.storeRow 15 96 _ _ p 0 (U .u32 F) rfl (by kernel_rfl) (by kernel_rfl) rfl (by kernel_rfl) (by kernel_rfl) (by rw [U_size, hFl, ← hsl]; exact hF6.there) (by rw [U_size, hFl]; exact inf_w8) (U_one .u32 F) ?_
          have hF7 := hF6.setNums (s' := F) (by rw [hFl, hsl])
          have hO7 := hO6.otherCells p 0 (nums .u32 F) (fun g hg he => hne' (by rw [← hv', hg, he]))
          have hO8 := hO96.otherCells p 0 (nums .u32 F) (fun g hg he => hn9 (by rw [hg, he]))
          have hK7 := hK6.setCells p 0 (nums .u32 F) (.inr (.inl rfl))
          rw [show (U .u32 F).toList = nums .u32 F by simp [U, nums]]
          generalize w6.setCells p 0 (nums .u32 F) = w7 at hF7 hO7 hO8 hK7 ⊢
          have c8 := hF7.at_ 0 8 _ (by rw [hFl]) rfl
          have f8 := hF7.free 8
          refine Ln.val 16 (.pointer (some ⟨p, 0, none⟩)) rfl (by kernel_rfl) (by kernel_rfl) (by kernel_rfl) (fun _ _ _ h => h) (by kernel_rfl) (fun w => by kernel_rfl) ?_
          refine Ln.val 17 (.pointer (some ⟨p, 8, none⟩)) rfl (by kernel_rfl) (by kernel_rfl) (by kernel_rfl) (fun _ _ _ h => h) (by kernel_rfl) (fun w => by kernel_rfl) ?_
          refine Ln.storeOne 18 24 _ _ p 8 (.slice A9 (nm - 64) (c1 - 64)) _ rfl (by kernel_rfl) (by kernel_rfl) rfl (by kernel_rfl) (by kernel_rfl) rfl rfl (by kernel_rfl) c8 f8 ?_
          have hF9 := hF7.setPost 0 8 (.slice A9 (nm - 64) (c1 - 64)) (by rw [hFl])
          simp only [List.set_cons_zero] at hF9
          have hO9' := hO8.other p 8 (.slice A9 (nm - 64) (c1 - 64)) (fun g hg he => hn9 (by rw [hg, he]))
          have hK9 := hK7.set p 8 (.slice A9 (nm - 64) (c1 - 64)) (.inr (.inl rfl))
          generalize w7.setCell ⟨p, 8, none⟩ (.slice A9 (nm - 64) (c1 - 64)) = w8 at hF9 hO9' hK9 ⊢
          refine Ln.doneAt ⟨#[.pointer (some ⟨p, 0, none⟩), .slice A n c, undef, undef, .pointer (some ⟨q, 0, none⟩), .pointer (some ⟨p, 0, none⟩), .pointer (some ⟨p, 0, none⟩), .pointer (some ⟨p, 9, none⟩), .int .u64 (N0 : Int), .slice A n c, .int .i64 (n : Int), .int .u64 (n : Int), .int .u64 (C1 : Int), .pointer (some ⟨p, 0, none⟩), .pointer (some ⟨p, 9, none⟩), .pointer (some ⟨p, 0, none⟩), .pointer (some ⟨p, 0, none⟩), .pointer (some ⟨p, 0, none⟩), .pointer (some ⟨p, 8, none⟩), .slice A0 m.length c0, .slice A n c, .slice A2 nm0 c2, .pointer (some ⟨p, 0, none⟩), .pointer (some ⟨p, 8, none⟩), .pointer (some ⟨p, 0, none⟩), .pointer (some ⟨p, 0, none⟩), .pointer (some ⟨p, 8, none⟩), .slice (some ad) nm c1, .int .i64 (nm : Int), .bool true, .slice (some ⟨q, 0, none⟩) 64 64, .pointer (some ⟨p, 0, none⟩), .pointer (some ⟨p, 0, none⟩), .pointer (some ⟨p, 8, none⟩), .slice (some ad) nm c1, .int .i64 64, .pointer (some ⟨p, 0, none⟩), .pointer (some ⟨p, 0, none⟩), .pointer (some ⟨p, 0, none⟩), .pointer (some ⟨p, 0, none⟩), .pointer (some ⟨p, 0, none⟩), .agg (U .u32 s), .agg (U .u8 blk), .agg (U .u32 F), .pointer (some ⟨p, 0, none⟩), .pointer (some ⟨p, 0, none⟩), .pointer (some ⟨p, 8, none⟩), .slice (some ad) nm c1, .slice A9 (nm - 64) (c1 - 64), .pointer (some ⟨p, 0, none⟩), .pointer (some ⟨p, 0, none⟩), .pointer (some ⟨p, 0, none⟩), .pointer (some ⟨p, 8, none⟩)], []⟩ (by kernel_rfl) (by kernel_rfl) ?_
          go_wp2_with fail
          go_roundg (gk - 1)
          case measure => have := HG.out; have := HM.out.2.2.1; omega
          case rel => exact next2 hF9 hO9' hK9
      · refine Ln.val 12 (.slice A9 (nm - 64) (c1 - 64)) rfl (by kernel_rfl) (by kernel_rfl) (by kernel_rfl) (fun _ _ _ h => h) (by kernel_rfl) (fun w => exec_slice rfl (by kernel_rfl) (.slice (some ad) nm c1) _ (some (.int .i64 64)) none none (by kernel_rfl) (by kernel_rfl) (by kernel_rfl) (by kernel_rfl) (hsl64 w)) ?_
        refine Lq.two 5 6 (by kernel_rfl) (LqOp.made 5 (.agg (U .u32 s)) rfl (by kernel_rfl) (exec_load_mid rfl (by kernel_rfl) e0.range Tryd.underlying96 rfl (by rw [List.length_map, hsl]; exact inf_w8)) ?_) (LqOp.made 6 (.agg (U .u8 blk)) rfl (by kernel_rfl) (exec_load_row _ rfl (by kernel_rfl) Tryd.underlying104 rfl (by rw [U_size, hbl]; exact inf_b64) e2) ?_)
        · refine Lq.one 6 (by kernel_rfl) (LqOp.made 6 (.agg (U .u8 blk)) rfl (by kernel_rfl) (exec_load_row _ rfl (by kernel_rfl) Tryd.underlying104 rfl (by rw [U_size, hbl]; exact inf_b64) e2) ?_)
          refine Lq.one 7 (by kernel_rfl) (LqOp.call 7 (f := 80) (args := #[.agg (U .u32 s), .agg (U .u8 blk)]) rfl (by kernel_rfl) (by kernel_rfl) (hTd.mono ?_))
          rintro e w6 ⟨rfl, hb6⟩
          refine ⟨_, rfl, ?_⟩
          have hb56 := hb5.trans (hb6.mono hz5d)
          have y0 := hF5.below hb56 hpl
          have hO6 := hO5.below hb56 (Nat.le_refl _)
          have hO96 := hO9.below hb56 (Nat.le_refl _)
          have hK6 := hK5.trans (Kept.of_below (S := fun _ => False) hb56) (by omega) (fun _ _ h => h.elim)
          have hF6 := y0
          refine Ln.val 13 (.pointer (some ⟨p, 0, none⟩)) rfl (by kernel_rfl) (by kernel_rfl) (by kernel_rfl) (fun _ _ _ h => h) (by kernel_rfl) (fun w => by kernel_rfl) ?_
          refine Ln.val 14 (.pointer (some ⟨p, 0, none⟩)) rfl (by kernel_rfl) (by kernel_rfl) (by kernel_rfl) (fun _ _ _ h => h) (by kernel_rfl) (fun w => by kernel_rfl) ?_
          refine Ln.storeRow 15 96 _ _ p 0 (U .u32 F) rfl (by kernel_rfl) (by kernel_rfl) rfl (by kernel_rfl) (by kernel_rfl) (by rw [U_size, hFl, ← hsl]; exact hF6.there) (by rw [U_size, hFl]; exact inf_w8) (U_one .u32 F) ?_
          have hF7 := hF6.setNums (s' := F) (by rw [hFl, hsl])
          have hO7 := hO6.otherCells p 0 (nums .u32 F) (fun g hg he => hne' (by rw [← hv', hg, he]))
          have hO8 := hO96.otherCells p 0 (nums .u32 F) (fun g hg he => hn9 (by rw [hg, he]))
          have hK7 := hK6.setCells p 0 (nums .u32 F) (.inr (.inl rfl))
          rw [show (U .u32 F).toList = nums .u32 F by simp [U, nums]]
          generalize w6.setCells p 0 (nums .u32 F) = w7 at hF7 hO7 hO8 hK7 ⊢
          have c8 := hF7.at_ 0 8 _ (by rw [hFl]) rfl
          have f8 := hF7.free 8
          refine Ln.val 16 (.pointer (some ⟨p, 0, none⟩)) rfl (by kernel_rfl) (by kernel_rfl) (by kernel_rfl) (fun _ _ _ h => h) (by kernel_rfl) (fun w => by kernel_rfl) ?_
          refine Ln.val 17 (.pointer (some ⟨p, 8, none⟩)) rfl (by kernel_rfl) (by kernel_rfl) (by kernel_rfl) (fun _ _ _ h => h) (by kernel_rfl) (fun w => by kernel_rfl) ?_
          refine Ln.storeOne 18 24 _ _ p 8 (.slice A9 (nm - 64) (c1 - 64)) _ rfl (by kernel_rfl) (by kernel_rfl) rfl (by kernel_rfl) (by kernel_rfl) rfl rfl (by kernel_rfl) c8 f8 ?_
          have hF9 := hF7.setPost 0 8 (.slice A9 (nm - 64) (c1 - 64)) (by rw [hFl])
          simp only [List.set_cons_zero] at hF9
          have hO9' := hO8.other p 8 (.slice A9 (nm - 64) (c1 - 64)) (fun g hg he => hn9 (by rw [hg, he]))
          have hK9 := hK7.set p 8 (.slice A9 (nm - 64) (c1 - 64)) (.inr (.inl rfl))
          generalize w7.setCell ⟨p, 8, none⟩ (.slice A9 (nm - 64) (c1 - 64)) = w8 at hF9 hO9' hK9 ⊢
          refine Ln.doneAt ⟨#[.pointer (some ⟨p, 0, none⟩), .slice A n c, undef, undef, .pointer (some ⟨q, 0, none⟩), .pointer (some ⟨p, 0, none⟩), .pointer (some ⟨p, 0, none⟩), .pointer (some ⟨p, 9, none⟩), .int .u64 (N0 : Int), .slice A n c, .int .i64 (n : Int), .int .u64 (n : Int), .int .u64 (C1 : Int), .pointer (some ⟨p, 0, none⟩), .pointer (some ⟨p, 9, none⟩), .pointer (some ⟨p, 0, none⟩), .pointer (some ⟨p, 0, none⟩), .pointer (some ⟨p, 0, none⟩), .pointer (some ⟨p, 8, none⟩), .slice A0 m.length c0, .slice A n c, .slice A2 nm0 c2, .pointer (some ⟨p, 0, none⟩), .pointer (some ⟨p, 8, none⟩), .pointer (some ⟨p, 0, none⟩), .pointer (some ⟨p, 0, none⟩), .pointer (some ⟨p, 8, none⟩), .slice (some ad) nm c1, .int .i64 (nm : Int), .bool true, .slice (some ⟨q, 0, none⟩) 64 64, .pointer (some ⟨p, 0, none⟩), .pointer (some ⟨p, 0, none⟩), .pointer (some ⟨p, 8, none⟩), .slice (some ad) nm c1, .int .i64 64, .pointer (some ⟨p, 0, none⟩), .pointer (some ⟨p, 0, none⟩), .pointer (some ⟨p, 0, none⟩), .pointer (some ⟨p, 0, none⟩), .pointer (some ⟨p, 0, none⟩), .agg (U .u32 s), .agg (U .u8 blk), .agg (U .u32 F), .pointer (some ⟨p, 0, none⟩), .pointer (some ⟨p, 0, none⟩), .pointer (some ⟨p, 8, none⟩), .slice (some ad) nm c1, .slice A9 (nm - 64) (c1 - 64), .pointer (some ⟨p, 0, none⟩), .pointer (some ⟨p, 0, none⟩), .pointer (some ⟨p, 0, none⟩), .pointer (some ⟨p, 8, none⟩)], []⟩ (by kernel_rfl) (by kernel_rfl) ?_
          go_wp2_with fail
          go_roundg (gk - 1)
          case measure => have := HG.out; have := HM.out.2.2.1; omega
          case rel => exact next2 hF9 hO9' hK9
        · refine Lq.one 5 (by kernel_rfl) (LqOp.made 5 (.agg (U .u32 s)) rfl (by kernel_rfl) (exec_load_mid rfl (by kernel_rfl) e0.range Tryd.underlying96 rfl (by rw [List.length_map, hsl]; exact inf_w8)) ?_)
          refine Lq.one 7 (by kernel_rfl) (LqOp.call 7 (f := 80) (args := #[.agg (U .u32 s), .agg (U .u8 blk)]) rfl (by kernel_rfl) (by kernel_rfl) (hTd.mono ?_))
          rintro e w6 ⟨rfl, hb6⟩
          refine ⟨_, rfl, ?_⟩
          have hb56 := hb5.trans (hb6.mono hz5d)
          have y0 := hF5.below hb56 hpl
          have hO6 := hO5.below hb56 (Nat.le_refl _)
          have hO96 := hO9.below hb56 (Nat.le_refl _)
          have hK6 := hK5.trans (Kept.of_below (S := fun _ => False) hb56) (by omega) (fun _ _ h => h.elim)
          have hF6 := y0
          refine Ln.val 13 (.pointer (some ⟨p, 0, none⟩)) rfl (by kernel_rfl) (by kernel_rfl) (by kernel_rfl) (fun _ _ _ h => h) (by kernel_rfl) (fun w => by kernel_rfl) ?_
          refine Ln.val 14 (.pointer (some ⟨p, 0, none⟩)) rfl (by kernel_rfl) (by kernel_rfl) (by kernel_rfl) (fun _ _ _ h => h) (by kernel_rfl) (fun w => by kernel_rfl) ?_
          refine Ln.storeRow 15 96 _ _ p 0 (U .u32 F) rfl (by kernel_rfl) (by kernel_rfl) rfl (by kernel_rfl) (by kernel_rfl) (by rw [U_size, hFl, ← hsl]; exact hF6.there) (by rw [U_size, hFl]; exact inf_w8) (U_one .u32 F) ?_
          have hF7 := hF6.setNums (s' := F) (by rw [hFl, hsl])
          have hO7 := hO6.otherCells p 0 (nums .u32 F) (fun g hg he => hne' (by rw [← hv', hg, he]))
          have hO8 := hO96.otherCells p 0 (nums .u32 F) (fun g hg he => hn9 (by rw [hg, he]))
          have hK7 := hK6.setCells p 0 (nums .u32 F) (.inr (.inl rfl))
          rw [show (U .u32 F).toList = nums .u32 F by simp [U, nums]]
          generalize w6.setCells p 0 (nums .u32 F) = w7 at hF7 hO7 hO8 hK7 ⊢
          have c8 := hF7.at_ 0 8 _ (by rw [hFl]) rfl
          have f8 := hF7.free 8
          refine Ln.val 16 (.pointer (some ⟨p, 0, none⟩)) rfl (by kernel_rfl) (by kernel_rfl) (by kernel_rfl) (fun _ _ _ h => h) (by kernel_rfl) (fun w => by kernel_rfl) ?_
          refine Ln.val 17 (.pointer (some ⟨p, 8, none⟩)) rfl (by kernel_rfl) (by kernel_rfl) (by kernel_rfl) (fun _ _ _ h => h) (by kernel_rfl) (fun w => by kernel_rfl) ?_
          refine Ln.storeOne 18 24 _ _ p 8 (.slice A9 (nm - 64) (c1 - 64)) _ rfl (by kernel_rfl) (by kernel_rfl) rfl (by kernel_rfl) (by kernel_rfl) rfl rfl (by kernel_rfl) c8 f8 ?_
          have hF9 := hF7.setPost 0 8 (.slice A9 (nm - 64) (c1 - 64)) (by rw [hFl])
          simp only [List.set_cons_zero] at hF9
          have hO9' := hO8.other p 8 (.slice A9 (nm - 64) (c1 - 64)) (fun g hg he => hn9 (by rw [hg, he]))
          have hK9 := hK7.set p 8 (.slice A9 (nm - 64) (c1 - 64)) (.inr (.inl rfl))
          generalize w7.setCell ⟨p, 8, none⟩ (.slice A9 (nm - 64) (c1 - 64)) = w8 at hF9 hO9' hK9 ⊢
          refine Ln.doneAt ⟨#[.pointer (some ⟨p, 0, none⟩), .slice A n c, undef, undef, .pointer (some ⟨q, 0, none⟩), .pointer (some ⟨p, 0, none⟩), .pointer (some ⟨p, 0, none⟩), .pointer (some ⟨p, 9, none⟩), .int .u64 (N0 : Int), .slice A n c, .int .i64 (n : Int), .int .u64 (n : Int), .int .u64 (C1 : Int), .pointer (some ⟨p, 0, none⟩), .pointer (some ⟨p, 9, none⟩), .pointer (some ⟨p, 0, none⟩), .pointer (some ⟨p, 0, none⟩), .pointer (some ⟨p, 0, none⟩), .pointer (some ⟨p, 8, none⟩), .slice A0 m.length c0, .slice A n c, .slice A2 nm0 c2, .pointer (some ⟨p, 0, none⟩), .pointer (some ⟨p, 8, none⟩), .pointer (some ⟨p, 0, none⟩), .pointer (some ⟨p, 0, none⟩), .pointer (some ⟨p, 8, none⟩), .slice (some ad) nm c1, .int .i64 (nm : Int), .bool true, .slice (some ⟨q, 0, none⟩) 64 64, .pointer (some ⟨p, 0, none⟩), .pointer (some ⟨p, 0, none⟩), .pointer (some ⟨p, 8, none⟩), .slice (some ad) nm c1, .int .i64 64, .pointer (some ⟨p, 0, none⟩), .pointer (some ⟨p, 0, none⟩), .pointer (some ⟨p, 0, none⟩), .pointer (some ⟨p, 0, none⟩), .pointer (some ⟨p, 0, none⟩), .agg (U .u32 s), .agg (U .u8 blk), .agg (U .u32 F), .pointer (some ⟨p, 0, none⟩), .pointer (some ⟨p, 0, none⟩), .pointer (some ⟨p, 8, none⟩), .slice (some ad) nm c1, .slice A9 (nm - 64) (c1 - 64), .pointer (some ⟨p, 0, none⟩), .pointer (some ⟨p, 0, none⟩), .pointer (some ⟨p, 0, none⟩), .pointer (some ⟨p, 8, none⟩)], []⟩ (by kernel_rfl) (by kernel_rfl) ?_
          go_wp2_with fail
          go_roundg (gk - 1)
          case measure => have := HG.out; have := HM.out.2.2.1; omega
          case rel => exact next2 hF9 hO9' hK9
    · have hltI : ¬ (nm : Int) ≥ 64 := by omega
      have hk' : L.length / 64 = k := by rw [hN1]; omega
      have hH : Hsh wr p a' (hst L) (hrs L) (C1 : Nat) := by
        refine ⟨_, hv', hne', ?_, ?_⟩
        · rw [hst, hk', hs]; exact hF
        · rw [hrs, hk', hM]; exact hO
      clear hk' hM hs hMl hnm
      go_wp2_with fail
      refine bodyPost_ret (v := .tuple #[]) (by simp [results, Tryd.results68, go_sem]) rfl ⟨rfl, a', hOO, hH, hK⟩
end Go.Proofs.YtfaonieaagepjaaDoor
