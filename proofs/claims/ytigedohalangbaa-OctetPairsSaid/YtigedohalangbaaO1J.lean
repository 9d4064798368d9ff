/- OctetXors, walked. Conditions: the texts read as bytes. -/
import Derived.Test.YtigedohalangbaaO1G
import Derived.Test.YtigedohalangbaaO1H
namespace Go.Proofs.Ytigedohalangbaa
open Go.RowKit
set_option linter.unusedVariables false
set_option linter.unusedSimpArgs false

section
variable {P : Program}
theorem wpList_min4_nat {w : World} {ops : Array Oper} {rest : List Oper} {o : Oper} {a : Act} {Q : Exit → Act → World → Prop} (hgd : o.guard = none) (x y z u : Operand) (ts : Array TypeId)
    (ho : o.op = .call { callee := .builtin .min, args := #[x, y, z, u], argTypes := ts }) (p q r s : Nat) (S : Int) (hx : a.eval x = .int .i64 (p : Int)) (hy : a.eval y = .int .i64 (q : Int)) (hz : a.eval z = .int .i64 (r : Int)) (hu : a.eval u = .int .i64 S) (hS : S = (s : Int)) (t : Nat) (ht : min (min (min p q) r) s = t)
    (h : wpList P ops Q rest (a.put o.dst (.int .i64 (t : Int))) w) : wpList P ops Q (o :: rest) a w := by
  refine wpList_plain hgd fun K hK => ?_
  subst hS
  have hrun : (Builtin.min_ ts o.type #[.int .i64 (p : Int), .int .i64 (q : Int), .int .i64 (r : Int), .int .i64 (s : Int)]).run P w = .ok (.int .i64 (t : Int)) w := by
    simp [Builtin.min_, Builtin.min2]
    subst ht
    repeat' split
    all_goals omega
  unfold Oper.wp execOp
  simp only [ho, resolve, invoke, builtin, Sem.run_bind, Sem.run_pure, Result.andThen_ok, List.map_toArray, List.map_cons, List.map_nil, hx, hy, hz, hu, hrun]
  exact hK _ _ h
end
theorem zB (n : Nat) : Bys (List.replicate n 0) := Bys.rep n (by show (0 : Int) ≤ 0 ∧ (0 : Int) < 256; decide)
theorem fill_n (x : Int) (n : Nat) (w : World) (hn : n ≤ 65536) :
    Calls Try.prog 33 #[.int .u8 x, .int .i64 (n : Int)] w fun e w' => ∃ A c, e = .returned (.slice A n c) ∧ Frs w' w.heap.size A c (List.replicate n x) ∧ Below w.heap.size w w' := by
  have h := fill_any x n w hn
  unfold CatPost at h
  rwa [List.length_replicate] at h
/-- Xor of two rows of one length. -/
theorem xor_n (l m : List Int) (A A' : Option Addr) (n c c' : Nat) (w : World) (r : List Int) (hA : Rd w w.heap.size .u8 A l) (hB : Rd w w.heap.size .u8 A' m) (hn : l.length = n) (hn' : m.length = n) (hc : n ≤ c) (hnc : A = none → c = 0) (hl : n ≤ 1000000) (hbl : Bys l) (hbm : Bys m) (hr : xorL l m = r) :
    Calls Try.prog 34 #[.slice A n c, .slice A' n c'] w fun e w' => ∃ A1 c1, e = .returned (.slice A1 n c1) ∧ Own w' w.heap.size 5 .u8 (.slice A1 n c1) r ∧ Below w.heap.size w w' ∧ (A1 = none → c1 = 0) ∧ n ≤ c1 := by
  have h := xor_any l m A A' n n c c' w hA hB hn hn' hc hnc hl hbl hbm (by omega)
  have hL : (xorL l m).length = n := by rw [xorL_len]; omega
  unfold XorPost at h
  rw [hL, hr] at h
  refine h.mono ?_
  rintro e w' ⟨A1, c1, rfl, hO, hb⟩
  exact ⟨A1, c1, rfl, hO, hb, hO.nilcap, by have := hO.len; omega⟩

set_option maxRecDepth 100000 in
set_option maxHeartbeats 1000000 in
theorem xors_walk (l m p : List Int) (A B C : Option Addr) (c d f : Nat) (w : World) (hA : Rd w w.heap.size .u8 A l) (hB : Rd w w.heap.size .u8 B m) (hC : Rd w w.heap.size .u8 C p) (hlc : l.length ≤ c) (hmd : m.length ≤ d) (hpf : p.length ≤ f) (hc : c ≤ 9223372036854775807) (hd : d ≤ 9223372036854775807) (hf : f ≤ 9223372036854775807)
    (hnA : A = none → c = 0) (hnB : B = none → d = 0) (hbl : Bys l) (hbm : Bys m) (hbp : Bys p) :
    Calls Try.prog 12 #[.slice A l.length c, .slice B m.length d, .slice C p.length f] w fun e w' => e = .returned (.bool true) ∧ Below w.heap.size w w' := by
  obtain ⟨n, hn⟩ : ∃ n, min (min (min l.length m.length) p.length) 1000 = n := ⟨_, rfl⟩
  have hnl : n ≤ l.length := by omega
  have hnm : n ≤ m.length := by omega
  have hnp : n ≤ p.length := by omega
  have hn1 : n ≤ 1000 := by omega
  have HN := Lib.hid hn
  clear hn
  have hs1 : ∀ wx, (Instr.slice 22 (.slice A l.length c) none (some (.int .i64 (n : Int))) none).run Try.prog wx = .ok (.slice A n c) wx := fun wx => run_slice_0v 22 5 Try.underlying22 (by kernel_rfl) A _ c n (by omega) .i64 wx
  have hs2 : ∀ wx, (Instr.slice 22 (.slice B m.length d) none (some (.int .i64 (n : Int))) none).run Try.prog wx = .ok (.slice B n d) wx := fun wx => run_slice_0v 22 5 Try.underlying22 (by kernel_rfl) B _ d n (by omega) .i64 wx
  have hs3 : ∀ wx, (Instr.slice 22 (.slice C p.length f) none (some (.int .i64 (n : Int))) none).run Try.prog wx = .ok (.slice C n f) wx := fun wx => run_slice_0v 22 5 Try.underlying22 (by kernel_rfl) C _ f n (by omega) .i64 wx
  obtain ⟨x, hx⟩ : ∃ x, l.take n = x := ⟨_, rfl⟩
  obtain ⟨y, hy⟩ : ∃ y, m.take n = y := ⟨_, rfl⟩
  obtain ⟨z, hz⟩ : ∃ z, p.take n = z := ⟨_, rfl⟩
  have rx : Rd w w.heap.size .u8 A x := by rw [← hx]; exact hA.take_ n
  have ry : Rd w w.heap.size .u8 B y := by rw [← hy]; exact hB.take_ n
  have rz : Rd w w.heap.size .u8 C z := by rw [← hz]; exact hC.take_ n
  have lx : x.length = n := by rw [← hx, List.length_take]; omega
  have ly : y.length = n := by rw [← hy, List.length_take]; omega
  have lz : z.length = n := by rw [← hz, List.length_take]; omega
  have bx : Bys x := by rw [← hx]; exact hbl.take n
  have byy : Bys y := by rw [← hy]; exact hbm.take n
  have bz : Bys z := by rw [← hz]; exact hbp.take n
  obtain ⟨xy, hxy⟩ : ∃ r, xorL x y = r := ⟨_, rfl⟩
  obtain ⟨yz, hyz⟩ : ∃ r, xorL y z = r := ⟨_, rfl⟩
  obtain ⟨xyz, hxyz⟩ : ∃ r, xorL xy z = r := ⟨_, rfl⟩
  have hyx : xorL y x = xy := by rw [xorL_comm, hxy]
  have hx_yz : xorL x yz = xyz := by rw [← hyz, ← xorL_assoc, hxy, hxyz]
  have hxx : xorL x x = List.replicate n 0 := by rw [xorL_self, lx]
  have hx0 : xorL x (List.replicate n 0) = x := by have := xorL_zero x bx; rwa [lx] at this
  have lxy : xy.length = n := by rw [← hxy, xorL_len]; omega
  have lyz : yz.length = n := by rw [← hyz, xorL_len]; omega
  have lxyz : xyz.length = n := by rw [← hxyz, xorL_len]; omega
  have bxy : Bys xy := by rw [← hxy]; exact xorL_B _ _
  have byz : Bys yz := by rw [← hyz]; exact xorL_B _ _
  have H := Lib.hid (show xorL x y = xy ∧ xorL y x = xy ∧ xorL y z = yz ∧ xorL xy z = xyz ∧ xorL x yz = xyz ∧ xorL x x = List.replicate n 0 ∧ xorL x (List.replicate n 0) = x from ⟨hxy, hyx, hyz, hxyz, hx_yz, hxx, hx0⟩)
  have HLN := Lib.hid (show x.length = n ∧ y.length = n ∧ z.length = n ∧ xy.length = n ∧ yz.length = n ∧ xyz.length = n from ⟨lx, ly, lz, lxy, lyz, lxyz⟩)
  have hcn : n ≤ c := by omega
  have hdn : n ≤ d := by omega
  clear hx hy hz hxy hyz hxyz hyx hx_yz hxx hx0 lx ly lz lxy lyz lxyz hA hB hC hbl hbm hbp
  go_enter Try.func12, Try.ntmps12
  go_wp2_with fail
  refine (awake1_any w).mono ?_
  rintro e w1 ⟨rfl, hb1⟩
  go_wp2_with (refine wpList_min4_nat (o := ⟨some 20, _, _, _, _, _⟩) rfl _ _ _ _ _ rfl _ _ _ 1000 1000 rfl rfl rfl rfl rfl n HN.out ?_)
  refine (fill_n 0 n w1 (by omega)).mono ?_
  rintro e v1 ⟨A1, c1, rfl, hF1, hb⟩
  have hK1 : Below w.heap.size w v1 := hb1.trans (hb.mono hb1.size)
  have hRZ := hF1.rd
  have hBZ_1 := Below.refl v1.heap.size v1
  clear hF1
  clear hb
  go_wp2_with fail
  refine (xor_n x y A B n c d v1 xy ((rx.below hK1).more hK1.size) ((ry.below hK1).more hK1.size) HLN.out.1 HLN.out.2.1 hcn hnA (by omega) bx byy H.out.1).mono ?_
  rintro e v2 ⟨A2, c2, rfl, hO2, hb, hn2, hc2⟩
  have hK2 : Below w.heap.size w v2 := hK1.trans (hb.mono hK1.size)
  have hBZ_2 := hBZ_1.trans (hb.mono hBZ_1.size)
  clear hBZ_1
  have hRa := hO2.rd
  have hBa_2 := Below.refl v2.heap.size v2
  clear hO2
  clear hb
  have HN2 := Lib.hid hn2
  clear hn2
  clear hK1
  go_wp2_with fail
  refine (xor_n y x B A n d c v2 xy ((ry.below hK2).more hK2.size) ((rx.below hK2).more hK2.size) HLN.out.2.1 HLN.out.1 hdn hnB (by omega) byy bx H.out.2.1).mono ?_
  rintro e v3 ⟨A3, c3, rfl, hO3, hb, hn3, hc3⟩
  have hK3 : Below w.heap.size w v3 := hK2.trans (hb.mono hK2.size)
  have hBZ_3 := hBZ_2.trans (hb.mono hBZ_2.size)
  clear hBZ_2
  have hBa_3 := hBa_2.trans (hb.mono hBa_2.size)
  clear hBa_2
  have hRb := hO3.rd
  have hBb_3 := Below.refl v3.heap.size v3
  clear hO3
  clear hb
  have HN3 := Lib.hid hn3
  clear hn3
  clear hK2
  go_wp2_with fail
  refine (rsame_any true v3 A2 A3 xy xy n n c2 c3 _ _ ((hRa.below hBa_3).more hBa_3.size) ((hRb.below hBb_3).more hBb_3.size) HLN.out.2.2.2.1 HLN.out.2.2.2.1 (by omega) (by simp)).mono ?_
  rintro e v4 ⟨rfl, q4, rfl⟩
  have hK4 := below_drN hK3 q4
  have hBZ_4 := below_drN hBZ_3 q4
  clear hBZ_3
  have hBa_4 := below_drN hBa_3 q4
  clear hBa_3
  have hBb_4 := below_drN hBb_3 q4
  clear hBb_3
  generalize v3.drewN q4 = v4 at hK4 hBZ_4 hBa_4 hBb_4 ⊢
  clear hK3
  clear hRa hBa_4
  clear hRb hBb_4
  go_wp2_with fail
  refine (xor_n x y A B n c d v4 xy ((rx.below hK4).more hK4.size) ((ry.below hK4).more hK4.size) HLN.out.1 HLN.out.2.1 hcn hnA (by omega) bx byy H.out.1).mono ?_
  rintro e v5 ⟨A5, c5, rfl, hO5, hb, hn5, hc5⟩
  have hK5 : Below w.heap.size w v5 := hK4.trans (hb.mono hK4.size)
  have hBZ_5 := hBZ_4.trans (hb.mono hBZ_4.size)
  clear hBZ_4
  have hRa2 := hO5.rd
  have hBa2_5 := Below.refl v5.heap.size v5
  clear hO5
  clear hb
  have HN5 := Lib.hid hn5
  clear hn5
  clear hK4
  go_wp2_with fail
  refine (xor_n xy z A5 C n c5 f v5 xyz ((hRa2.below hBa2_5).more hBa2_5.size) ((rz.below hK5).more hK5.size) HLN.out.2.2.2.1 HLN.out.2.2.1 hc5 HN5.out (by omega) bxy bz H.out.2.2.2.1).mono ?_
  rintro e v6 ⟨A6, c6, rfl, hO6, hb, hn6, hc6⟩
  have hK6 : Below w.heap.size w v6 := hK5.trans (hb.mono hK5.size)
  have hBZ_6 := hBZ_5.trans (hb.mono hBZ_5.size)
  clear hBZ_5
  have hBa2_6 := hBa2_5.trans (hb.mono hBa2_5.size)
  clear hBa2_5
  have hRb2 := hO6.rd
  have hBb2_6 := Below.refl v6.heap.size v6
  clear hO6
  clear hb
  have HN6 := Lib.hid hn6
  clear hn6
  clear hK5
  clear hRa2 hBa2_6
  go_wp2_with fail
  refine (xor_n y z B C n d f v6 yz ((ry.below hK6).more hK6.size) ((rz.below hK6).more hK6.size) HLN.out.2.1 HLN.out.2.2.1 hdn hnB (by omega) byy bz H.out.2.2.1).mono ?_
  rintro e v7 ⟨A7, c7, rfl, hO7, hb, hn7, hc7⟩
  have hK7 : Below w.heap.size w v7 := hK6.trans (hb.mono hK6.size)
  have hBZ_7 := hBZ_6.trans (hb.mono hBZ_6.size)
  clear hBZ_6
  have hBb2_7 := hBb2_6.trans (hb.mono hBb2_6.size)
  clear hBb2_6
  have hRa3 := hO7.rd
  have hBa3_7 := Below.refl v7.heap.size v7
  clear hO7
  clear hb
  have HN7 := Lib.hid hn7
  clear hn7
  clear hK6
  go_wp2_with fail
  refine (xor_n x yz A A7 n c c7 v7 xyz ((rx.below hK7).more hK7.size) ((hRa3.below hBa3_7).more hBa3_7.size) HLN.out.1 HLN.out.2.2.2.2.1 hcn hnA (by omega) bx byz H.out.2.2.2.2.1).mono ?_
  rintro e v8 ⟨A8, c8, rfl, hO8, hb, hn8, hc8⟩
  have hK8 : Below w.heap.size w v8 := hK7.trans (hb.mono hK7.size)
  have hBZ_8 := hBZ_7.trans (hb.mono hBZ_7.size)
  clear hBZ_7
  have hBb2_8 := hBb2_7.trans (hb.mono hBb2_7.size)
  clear hBb2_7
  have hBa3_8 := hBa3_7.trans (hb.mono hBa3_7.size)
  clear hBa3_7
  have hRb3 := hO8.rd
  have hBb3_8 := Below.refl v8.heap.size v8
  clear hO8
  clear hb
  have HN8 := Lib.hid hn8
  clear hn8
  clear hK7
  clear hRa3 hBa3_8
  go_wp2_with fail
  refine (rsame_any true v8 A6 A8 xyz xyz n n c6 c8 _ _ ((hRb2.below hBb2_8).more hBb2_8.size) ((hRb3.below hBb3_8).more hBb3_8.size) HLN.out.2.2.2.2.2 HLN.out.2.2.2.2.2 (by omega) (by simp)).mono ?_
  rintro e v9 ⟨rfl, q9, rfl⟩
  have hK9 := below_drN hK8 q9
  have hBZ_9 := below_drN hBZ_8 q9
  clear hBZ_8
  have hBb2_9 := below_drN hBb2_8 q9
  clear hBb2_8
  have hBb3_9 := below_drN hBb3_8 q9
  clear hBb3_8
  generalize v8.drewN q9 = v9 at hK9 hBZ_9 hBb2_9 hBb3_9 ⊢
  clear hK8
  clear hRb2 hBb2_9
  clear hRb3 hBb3_9
  go_wp2_with fail
  refine (xor_n x x A A n c c v9 (List.replicate n 0) ((rx.below hK9).more hK9.size) ((rx.below hK9).more hK9.size) HLN.out.1 HLN.out.1 hcn hnA (by omega) bx bx H.out.2.2.2.2.2.1).mono ?_
  rintro e v10 ⟨A10, c10, rfl, hO10, hb, hn10, hc10⟩
  have hK10 : Below w.heap.size w v10 := hK9.trans (hb.mono hK9.size)
  have hBZ_10 := hBZ_9.trans (hb.mono hBZ_9.size)
  clear hBZ_9
  have hRa4 := hO10.rd
  have hBa4_10 := Below.refl v10.heap.size v10
  clear hO10
  clear hb
  have HN10 := Lib.hid hn10
  clear hn10
  clear hK9
  go_wp2_with fail
  refine (rsame_any true v10 A10 A1 (List.replicate n 0) (List.replicate n 0) n n c10 c1 _ _ ((hRa4.below hBa4_10).more hBa4_10.size) ((hRZ.below hBZ_10).more hBZ_10.size) (List.length_replicate ..) (List.length_replicate ..) (by omega) (by simp)).mono ?_
  rintro e v11 ⟨rfl, q11, rfl⟩
  have hK11 := below_drN hK10 q11
  have hBZ_11 := below_drN hBZ_10 q11
  clear hBZ_10
  have hBa4_11 := below_drN hBa4_10 q11
  clear hBa4_10
  generalize v10.drewN q11 = v11 at hK11 hBZ_11 hBa4_11 ⊢
  clear hK10
  clear hRa4 hBa4_11
  go_wp2_with fail
  refine (xor_n x (List.replicate n 0) A A1 n c c1 v11 x ((rx.below hK11).more hK11.size) ((hRZ.below hBZ_11).more hBZ_11.size) HLN.out.1 (List.length_replicate ..) hcn hnA (by omega) bx (zB n) H.out.2.2.2.2.2.2).mono ?_
  rintro e v12 ⟨A12, c12, rfl, hO12, hb, hn12, hc12⟩
  have hK12 : Below w.heap.size w v12 := hK11.trans (hb.mono hK11.size)
  have hBZ_12 := hBZ_11.trans (hb.mono hBZ_11.size)
  clear hBZ_11
  have hRa5 := hO12.rd
  have hBa5_12 := Below.refl v12.heap.size v12
  clear hO12
  clear hb
  have HN12 := Lib.hid hn12
  clear hn12
  clear hK11
  go_wp2_with fail
  refine (rsame_any true v12 A12 A x x n n c12 c _ _ ((hRa5.below hBa5_12).more hBa5_12.size) ((rx.below hK12).more hK12.size) HLN.out.1 HLN.out.1 (by omega) (by simp)).mono ?_
  rintro e v13 ⟨rfl, q13, rfl⟩
  have hK13 := below_drN hK12 q13
  have hBZ_13 := below_drN hBZ_12 q13
  clear hBZ_12
  have hBa5_13 := below_drN hBa5_12 q13
  clear hBa5_12
  generalize v12.drewN q13 = v13 at hK13 hBZ_13 hBa5_13 ⊢
  clear hK12
  go_wp2_with fail
  go_ret
  exact ⟨rfl, hK13⟩

end Go.Proofs.Ytigedohalangbaa
