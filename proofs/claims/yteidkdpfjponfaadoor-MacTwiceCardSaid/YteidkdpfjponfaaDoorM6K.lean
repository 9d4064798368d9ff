/- MacTwice, walked. Conditions: what is read reads as bytes; the tables. -/
import Derived.Test.YteidkdpfjponfaaDoorM6G
namespace Go.Proofs.YteidkdpfjponfaaDoor
open Go.RowKit
set_option linter.unusedVariables false
set_option linter.unusedSimpArgs false
section
variable {P : Program}
/-- One append, guarded, where it is wanted. -/
theorem wpList_app_yes {w : World} {ops : Array Oper} {rest : List Oper} {o : Oper} {a : Act} {Q : Exit → Act → World → Prop} (s x : Operand) (t e : TypeId) (k : IntKind) (bytes : Nat)
    (ho : o.op = .call { callee := .builtin .append, args := #[s, x], argTypes := #[t, t] }) (hgd : Region.wanted o (yielded ops a.tmps) = true)
    (ht : P.underlying t = some (.slice e)) (hinfo : (P.info? e).map (fun i => (i.zero, i.size, i.bytes)) = some (some (.int k 0), 1, bytes))
    {b B : Nat} {v : Value} {l m : List Int} {A : Option Addr} {n c : Nat} (hown : Own w b e k v l) (hr : Rd w B k A m) (hs : a.eval s = v) (hx : a.eval x = .slice A n c) (hn : m.length = n) (lm : List Int) (hlm : l ++ m = lm) (N : Nat) (hN : lm.length = N)
    (hlim : N * bytes ≤ 140737488355328) (hmax : N ≤ maxLen) (hb : b ≤ w.heap.size)
    (h : ∀ A' c' w', Own w' b e k (.slice A' N c') lm → w.grownBy w' v.ownBlock → ((Value.slice A' N c').ownBlock = v.ownBlock ∨ (Value.slice A' N c').ownBlock = some w.heap.size) →
      wpList P ops Q rest (a.put o.dst (.slice A' N c')) w') : wpList P ops Q (o :: rest) a w := by
  subst hN hlm
  have e1 : (l ++ m).length = l.length + m.length := List.length_append
  rw [e1] at hlim hmax h
  refine wpList_step fun K hK => ?_
  rw [if_pos hgd]
  obtain ⟨A', c', w', hrun, h2, h3, h4⟩ := run_append_nums (P := P) w t o.type e k bytes ht hinfo hown hr hn hlim hmax hb (c := c)
  unfold Oper.wp execOp
  simp only [ho, resolve, invoke, builtin, Sem.run_bind, Sem.run_pure, Result.andThen_ok, List.map_toArray, List.map_cons, List.map_nil, hs, hx, hrun]
  exact hK _ _ (h A' c' w' h2 h3 h4)
end
set_option maxRecDepth 100000 in
set_option maxHeartbeats 8000000 in
theorem macTwice_walk (kd : Int) (key l : List Int) (A A' : Option Addr) (c c' : Nat) (w : World) (hkd : B8 kd) (hk : Rd w w.heap.size .u8 A key) (hkc : key.length ≤ c) (hkm : c ≤ 9223372036854775807) (hkb : Bys key) (hr : Rd w w.heap.size .u8 A' l) (hc : l.length ≤ c') (hcm : c' ≤ 9223372036854775807) (hb : Bys l) (hT : MTb w) :
    Calls Tryd.prog 13 #[.int .u8 kd, .slice A key.length c, .slice A' l.length c'] w fun e w' => e = .returned (.bool true) ∧ Below w.heap.size w w' := by
  obtain ⟨n, hkn⟩ : ∃ n, key.length = n := ⟨_, rfl⟩
  obtain ⟨n', hn⟩ : ∃ n, l.length = n := ⟨_, rfl⟩
  rw [hkn] at hkc ⊢
  rw [hn] at hc ⊢
  obtain ⟨kn, rfl⟩ : ∃ q : Nat, kd = q := ⟨kd.toNat, by have := hkd.1; omega⟩
  have hkn2 : kn < 256 := by have := hkd.2; omega
  have hmx : (200000000 : Nat) ≤ maxLen := by decide
  clear hkd
  go_enter Tryd.func13, Tryd.ntmps13
  go_wp2_with fail
  (with_reducible refine (awake06_any w hT).mono ?_)
  rintro e w1 ⟨rfl, hK1⟩
  have hk2 : kn % 2 = 0 ∨ kn % 2 = 1 := by omega
  rcases hk2 with hk2 | hk2
  · have hkI : (kn : Int) % 2 = 0 := by omega
    clear hk2
    go_wp2_with fail
    (with_reducible refine (sizes_0 w1).mono ?_)
    rintro e w2 ⟨rfl, hb2⟩
    have hK2 := bnx hK1 hb2 hK1.size
    clear hK1 hb2
    by_cases hg1 : 300 < n
    · have hg1I : (300 : Int) < (n : Int) := by omega
      go_wp2_with fail
      go_ret
      exact ⟨rfl, hK2⟩
    have hg1I : ¬ (300 : Int) < (n : Int) := by omega
    by_cases hg2 : 300 < n'
    · have hg2I : (300 : Int) < (n' : Int) := by omega
      go_wp2_with fail
      go_ret
      exact ⟨rfl, hK2⟩
    have hg2I : ¬ (300 : Int) < (n' : Int) := by omega
    have hOe := Own.lit (b := w2.heap.size) (e := 5) (k := .u8) w2 [] (by omega) (Nat.zero_le _)
    have hRe := (hk.bel hK2).alloc (Nat.le_refl _) (.cells #[] 5)
    have hKe := bal hK2 hK2.size (.cells #[] 5)
    go_upto_region 10 with (at_builtin; refine wpList_app rfl _ _ 22 5 .u8 1 rfl Tryd.underlying22 inf_u8 hOe hRe rfl rfl hkn key rfl n hkn (by omega) (by omega) (by simp) ?_; intro Ao co w3 hOo hgo hfo)
    have hK3 : Below w.heap.size w w3 := (Kept.grew (Kept.of_below (S := fun _ => False) hKe) hOe hgo (by have := hK2.size; omega) (by simp; have := hK2.size; omega)).below
    have hRo := hOo.rd
    clear hOo hgo hfo hOe hRe hKe hK2
    by_cases hlong : 64 < n
    · have hlI : (64 : Int) < (n : Int) := by omega
      go_wp2_with fail
      (with_reducible refine (sums_0 key A n c w3 (hk.bel hK3) hkn (by omega) hkc hkb (hT.below hK3 (Nat.le_refl _))).mono ?_)
      rintro e w4 ⟨A4, c4, rfl, hF4, hb4⟩
      have hK4 := bnx hK3 hb4 hK3.size
      have hky := hF4.rd
      have hsk : (sumK 0 key).length = 32 := sumK_len_0 key
      have hkK : keyK 0 key = sumK 0 key := by unfold keyK; rw [if_pos (by rw [hkn]; exact hlong)]
      obtain ⟨ky, hky_⟩ : ∃ q, sumK 0 key = q := ⟨_, rfl⟩
      rw [hky_] at hky hsk hkK
      clear hF4 hb4 hky_ hRo hK3
      have hBl : 32 ≤ 64 := by omega
      have hrW := hr.bel hK4
      obtain ⟨B, hB⟩ : ∃ B, w4.heap.size = B := ⟨_, rfl⟩
      have hKl := Kept.refl B (fun _ => False) w4
      have HBB := Lib.hid (And.intro hB hK4.size)
      rw [hB] at hrW hky
      clear hB
      obtain ⟨own, hown⟩ : ∃ q, padL ky 64 = q := ⟨_, rfl⟩
      have holn : own.length = 64 := by rw [← hown]; exact padL_len _ _ (by omega)
      have hmk : macK 0 key l = sumK 0 (xorB own 92 ++ sumK 0 (xorB own 54 ++ l)) := by
        unfold macK; rw [hkK, show bkK 0 = 64 from rfl, hown]
      have hgx1 : ∀ i, i < 32 → gt own i = gt ky i := fun i hi => by rw [← hown]; exact gt_pad _ _ _ (by omega)
      have hgx0 : ∀ i, ¬ i < 32 → i < 64 → gt own i = 0 := fun i hi hi2 => by rw [← hown]; exact gt_pad0 _ _ _ (by omega) hi2
      have HMK := Lib.hid hmk
      have HG := Lib.hid (And.intro hgx1 hgx0)
      have HSK := Lib.hid hsk
      have HOL := Lib.hid holn
      have HKK := Lib.hid hK4
      clear hmk hkK hown hgx1 hgx0 hsk holn hK4
      go_wp2_with fail
      go_loopg [11, 12, 13] 64 (fun gk v v' x wr => RM w4 B 64 own gk v v' x wr)
      case atStart => exact ⟨0, none, none, 0, 0, rfl, rfl, rfl, Nat.zero_le _, rfl, Own.nil _ _ _ _, Own.nil _ _ _ _, fun _ h => (nomatch h), hKl⟩
      case round =>
        clear hKl
        obtain ⟨wq, rfl⟩ : ∃ wq : World, wq = wr := ⟨_, rfl⟩
        obtain ⟨i, Aa, Ab, ca, cb, rfl, rfl, rfl, hi, hgk, hOa, hOb, hap, hK⟩ := hrel
        have HGK := Lib.hid hgk
        have hwl : B ≤ wq.heap.size := by have := hK.size; have := HBB.out.1; omega
        clear hgk
        by_cases hlt : i < 64
        · have hltI : (i : Int) < (64 : Int) := by omega
          by_cases hin : i < 32
          · have hinI : (i : Int) < (32 : Int) := by omega
            have hrk := hky.kept hK (Nat.le_refl _) (fun _ _ h => h)
            obtain ⟨ad, hAd, hab, hcell⟩ := hrk.at_ (i := i) (by have := HSK.out; omega)
            obtain rfl := hAd
            obtain ⟨y, hy⟩ : ∃ y, gt ky i = y := ⟨_, rfl⟩
            rw [hy] at hcell
            have hgx : gt own i = y := by rw [HG.out.1 i hin, hy]
            have HGX := Lib.hid hgx
            clear hy hgx hrk
            have hta := xorB_take own 54 i (by have := HOL.out; omega) HGX.out
            have htb := xorB_take own 92 i (by have := HOL.out; omega) HGX.out
            have HTA := Lib.hid hta
            have HTB := Lib.hid htb
            clear hta htb
            have hO1 := hOa.alloc (.cells (U .u8 [bits .xor .u8 y 54]) 5)
            have hN1 := Rd.of_arr (B := wq.heap.size + 1) (Arr.new wq 5 .u8 [bits .xor .u8 y 54]) (by omega)
            have hK1 := hK.alloc (.cells (U .u8 [bits .xor .u8 y 54]) 5) hwl
            have hOb1 := hOb.alloc (.cells (U .u8 [bits .xor .u8 y 54]) 5)
            go_upto_region 21 with (at_builtin; refine wpList_app rfl (.tmp 69) (.tmp 72) 22 5 .u8 1 rfl Tryd.underlying22 inf_u8 hO1 hN1 rfl rfl rfl (xorB (own.take (i + 1)) 54) HTA.out (i + 1) (by rw [xorB_len, List.length_take]; have := HOL.out; omega) (by omega) (by omega) (by simp; omega) ?_; intro A1 c1 v1 hA1 hg1 hf1)
            have hK2 := hK1.grew hO1 hg1 (Nat.le_refl _) (by simp; omega)
            have hOb2 : Own v1 B 5 .u8 (.slice Ab i cb) (xorB (own.take i) 92) := hOb1.grown hg1 (fun g hg e => hap g e hg)
            have hz2 : wq.heap.size + 1 ≤ v1.heap.size := by have := hg1.size; simpa using this
            have hap2 : ∀ g, (Value.slice A1 (i + 1) c1).ownBlock = some g → (Value.slice Ab i cb).ownBlock ≠ some g := fun g hg e => by
              rcases hf1 with h | h
              · rw [hg] at h; exact hap g h.symm e
              · rw [hg] at h; have h2 : g = wq.heap.size + 1 := by simpa using h
                have := (hOb.lt g e).2; omega
            clear hO1 hN1 hK1 hOb1 hg1 hf1 hOa hOb hap hK
            have hO3 := hOb2.alloc (.cells (U .u8 [bits .xor .u8 y 92]) 5)
            have hN3 := Rd.of_arr (B := v1.heap.size + 1) (Arr.new v1 5 .u8 [bits .xor .u8 y 92]) (by omega)
            have hK3 := hK2.alloc (.cells (U .u8 [bits .xor .u8 y 92]) 5) (by omega)
            have hOa3 := hA1.alloc (.cells (U .u8 [bits .xor .u8 y 92]) 5)
            go_wp2_with (at_builtin; refine wpList_app rfl (.tmp 74) (.tmp 77) 22 5 .u8 1 rfl Tryd.underlying22 inf_u8 hO3 hN3 rfl rfl rfl (xorB (own.take (i + 1)) 92) HTB.out (i + 1) (by rw [xorB_len, List.length_take]; have := HOL.out; omega) (by omega) (by omega) (by simp; omega) ?_; intro A2 c2 v2 hB2 hg2 hf2)
            have hK4 := hK3.grew hO3 hg2 (Nat.le_refl _) (by simp; omega)
            have hA2 : Own v2 B 5 .u8 (.slice A1 (i + 1) c1) (xorB (own.take (i + 1)) 54) := hOa3.grown hg2 (fun g hg e => hap2 g hg e)
            have hap3 : ∀ g, (Value.slice A1 (i + 1) c1).ownBlock = some g → (Value.slice A2 (i + 1) c2).ownBlock ≠ some g := fun g hg e => by
              rcases hf2 with h | h
              · rw [e] at h; exact hap2 g hg h.symm
              · rw [e] at h; have h2 : g = v1.heap.size + 1 := by simpa using h
                have := (hA1.lt g hg).2; omega
            go_roundg (64 - (i + 1))
            case measure => have := HGK.out; omega
            case rel => exact ⟨i + 1, A1, A2, c1, c2, rfl, rfl, by go_num, by omega, rfl, hA2, hB2, hap3, hK4⟩
          · have hinI : ¬ (i : Int) < (32 : Int) := by omega
            have hgx : gt own i = 0 := HG.out.2 i hin hlt
            have HGX := Lib.hid hgx
            clear hgx
            have hta := xorB_take own 54 i (by have := HOL.out; omega) HGX.out
            have htb := xorB_take own 92 i (by have := HOL.out; omega) HGX.out
            have HTA := Lib.hid hta
            have HTB := Lib.hid htb
            clear hta htb
            have hO1 := hOa.alloc (.cells (U .u8 [bits .xor .u8 (0 : Int) 54]) 5)
            have hN1 := Rd.of_arr (B := wq.heap.size + 1) (Arr.new wq 5 .u8 [bits .xor .u8 (0 : Int) 54]) (by omega)
            have hK1 := hK.alloc (.cells (U .u8 [bits .xor .u8 (0 : Int) 54]) 5) hwl
            have hOb1 := hOb.alloc (.cells (U .u8 [bits .xor .u8 (0 : Int) 54]) 5)
            go_upto_region 21 with (at_builtin; refine wpList_app rfl (.tmp 69) (.tmp 72) 22 5 .u8 1 rfl Tryd.underlying22 inf_u8 hO1 hN1 rfl rfl rfl (xorB (own.take (i + 1)) 54) HTA.out (i + 1) (by rw [xorB_len, List.length_take]; have := HOL.out; omega) (by omega) (by omega) (by simp; omega) ?_; intro A1 c1 v1 hA1 hg1 hf1)
            have hK2 := hK1.grew hO1 hg1 (Nat.le_refl _) (by simp; omega)
            have hOb2 : Own v1 B 5 .u8 (.slice Ab i cb) (xorB (own.take i) 92) := hOb1.grown hg1 (fun g hg e => hap g e hg)
            have hz2 : wq.heap.size + 1 ≤ v1.heap.size := by have := hg1.size; simpa using this
            have hap2 : ∀ g, (Value.slice A1 (i + 1) c1).ownBlock = some g → (Value.slice Ab i cb).ownBlock ≠ some g := fun g hg e => by
              rcases hf1 with h | h
              · rw [hg] at h; exact hap g h.symm e
              · rw [hg] at h; have h2 : g = wq.heap.size + 1 := by simpa using h
                have := (hOb.lt g e).2; omega
            clear hO1 hN1 hK1 hOb1 hg1 hf1 hOa hOb hap hK
            have hO3 := hOb2.alloc (.cells (U .u8 [bits .xor .u8 (0 : Int) 92]) 5)
            have hN3 := Rd.of_arr (B := v1.heap.size + 1) (Arr.new v1 5 .u8 [bits .xor .u8 (0 : Int) 92]) (by omega)
            have hK3 := hK2.alloc (.cells (U .u8 [bits .xor .u8 (0 : Int) 92]) 5) (by omega)
            have hOa3 := hA1.alloc (.cells (U .u8 [bits .xor .u8 (0 : Int) 92]) 5)
            go_wp2_with (at_builtin; refine wpList_app rfl (.tmp 74) (.tmp 77) 22 5 .u8 1 rfl Tryd.underlying22 inf_u8 hO3 hN3 rfl rfl rfl (xorB (own.take (i + 1)) 92) HTB.out (i + 1) (by rw [xorB_len, List.length_take]; have := HOL.out; omega) (by omega) (by omega) (by simp; omega) ?_; intro A2 c2 v2 hB2 hg2 hf2)
            have hK4 := hK3.grew hO3 hg2 (Nat.le_refl _) (by simp; omega)
            have hA2 : Own v2 B 5 .u8 (.slice A1 (i + 1) c1) (xorB (own.take (i + 1)) 54) := hOa3.grown hg2 (fun g hg e => hap2 g hg e)
            have hap3 : ∀ g, (Value.slice A1 (i + 1) c1).ownBlock = some g → (Value.slice A2 (i + 1) c2).ownBlock ≠ some g := fun g hg e => by
              rcases hf2 with h | h
              · rw [e] at h; exact hap2 g hg h.symm
              · rw [e] at h; have h2 : g = v1.heap.size + 1 := by simpa using h
                have := (hA1.lt g hg).2; omega
            go_roundg (64 - (i + 1))
            case measure => have := HGK.out; omega
            case rel => exact ⟨i + 1, A1, A2, c1, c2, rfl, rfl, by go_num, by omega, rfl, hA2, hB2, hap3, hK4⟩
        · have hltI : ¬ (i : Int) < (64 : Int) := by omega
          obtain rfl : i = 64 := by omega
          rw [List.take_of_length_le (by have := HOL.out; omega)] at hOa hOb
          have hrl := hrW.kept hK (Nat.le_refl _) (fun _ _ h => h)
          obtain ⟨T1, hT1⟩ : ∃ T, xorB own 54 ++ l = T := ⟨_, rfl⟩
          have hT1l : T1.length = 64 + n' := by rw [← hT1, List.length_append, xorB_len, HOL.out, hn]
          have hT1b : Bys T1 := by rw [← hT1]; exact (xorB_B _ _).append hb
          have HT1 := Lib.hid hT1
          have HT1L := Lib.hid hT1l
          obtain ⟨m1, hm1⟩ : ∃ m, sumK 0 T1 = m := ⟨_, rfl⟩
          have hm1l : m1.length = 32 := by rw [← hm1]; exact sumK_len_0 T1
          have hm1b : Bys m1 := by rw [← hm1]; exact sumK_B 0 T1
          have HM1 := Lib.hid (And.intro hm1 hm1l)
          obtain ⟨T2, hT2⟩ : ∃ T, xorB own 92 ++ m1 = T := ⟨_, rfl⟩
          have hT2l : T2.length = 64 + 32 := by rw [← hT2, List.length_append, xorB_len, HOL.out, hm1l]
          have hT2b : Bys T2 := by rw [← hT2]; exact (xorB_B _ _).append hm1b
          have HT2 := Lib.hid (And.intro hT2 hT2l)
          clear hT1 hT1l hm1 hm1l hT2 hT2l
          go_wp2_with (at_builtin; refine wpList_app rfl (.tmp 80) (.tmp 81) 22 5 .u8 1 rfl Tryd.underlying22 inf_u8 hOa hrl rfl rfl hn T1 HT1.out (64 + n') HT1L.out (by omega) (by omega) (by omega) ?_; intro A1 c1 v1 hA1 hg1 hf1)
          have hK1 := hK.grew hOa hg1 (Nat.le_refl _) (by omega)
          have hz1 := hg1.size
          have hOb1 : Own v1 B 5 .u8 (.slice Ab 64 cb) (xorB own 92) := hOb.grown hg1 (fun g hg e => hap g e hg)
          have hcA : 64 + n' ≤ c1 := by have := hA1.len.2; rw [HT1L.out] at this; exact this
          have hKw1 : Below w.heap.size w v1 := HKK.out.trans (hK1.below.mono (by have := HBB.out; omega))
          (with_reducible refine (sums_0 T1 A1 (64 + n') c1 v1 hA1.rd HT1L.out (by omega) hcA hT1b (hT.below hKw1 (Nat.le_refl _))).mono ?_)
          rintro e v2 ⟨A2, c2, rfl, hF2, hb2⟩
          have hz2 := hb2.size
          have hK2 := kbl hK1 (by omega) hb2
          have hKw2 := bnx hKw1 hb2 hKw1.size
          have hOb2 := hOb1.below hb2 (Nat.le_refl _)
          have hR2 := hF2.rd
          rw [HM1.out.1] at hR2
          clear hA1 hg1 hf1 hF2 hb2 hOa hOb hOb1 hK1 hap hrl hKw1
          go_wp2_with fail
          (with_reducible refine (mac_0 key l A A' n c n' c' v2 (hk.bel hKw2) hkn (by omega) hkc hkb (hr.bel hKw2) hn (by omega) hc hb (hT.below hKw2 (Nat.le_refl _))).mono ?_)
          rintro e v3 ⟨A3, c3, rfl, hF3, hb3⟩
          have hz3 := hb3.size
          have hK3 := kbl hK2 (by omega) hb3
          have hKw3 := bnx hKw2 hb3 hKw2.size
          have hOb3 := hOb2.below hb3 (Nat.le_refl _)
          have hR3 := hR2.bel hb3
          have hobl : ∀ g, (Value.slice Ab 64 cb).ownBlock = some g → g < v2.heap.size := fun g e => (hOb2.lt g e).2
          clear hb3 hOb2 hR2 hK2 hKw2
          go_wp2_with (at_builtin; refine wpList_app_yes (.tmp 94) (.tmp 95) 22 5 .u8 1 rfl (by rfl) Tryd.underlying22 inf_u8 hOb3 hR3 rfl rfl HM1.out.2 T2 HT2.out.1 (64 + 32) HT2.out.2 (by omega) (by omega) (by omega) ?_; intro A4_ c4_ v4 hA4 hg4 hf4)
          have hK4 := hK3.grew hOb3 hg4 (Nat.le_refl _) (by omega)
          have hXk : Frs v4 v2.heap.size A3 c3 (macK 0 key l) := hF3.keep hg4.size (fun g h1 h2 h3 => hg4.block g h2 (fun e => by have := hobl g e.symm; omega))
          have hX4 := hXk.rd
          have hz4 := hg4.size
          have hKw4 : Below w.heap.size w v4 := HKK.out.trans (hK4.below.mono (by have := HBB.out; omega))
          have hcB : 64 + 32 ≤ c4_ := by have := hA4.len.2; rw [HT2.out.2] at this; exact this
          (with_reducible refine (sums_0 T2 A4_ (64 + 32) c4_ v4 hA4.rd HT2.out.2 (by omega) hcB hT2b (hT.below hKw4 (Nat.le_refl _))).mono ?_)
          rintro e v5 ⟨A5, c5, rfl, hF5, hb5⟩
          have hKw5 := bnx hKw4 hb5 hKw4.size
          have hX5 := hX4.bel hb5
          have hfin : sumK 0 T2 = macK 0 key l := by rw [HMK.out, HT1.out, HM1.out.1, HT2.out.1]
          rw [hfin] at hF5
          clear hfin hA4 hg4 hf4 hb5 hK3 hK4 hOb3 hF3 hXk hX4 hR3 hobl
          go_wp2_with fail
          (with_reducible refine (same_is v5 A3 A5 (macK 0 key l) 32 c3 c5 v5.heap.size v5.heap.size hX5 hF5.rd (macK_len_0 key l) (by omega)).mono ?_)
          rintro e v6 ⟨rfl, q, rfl⟩
          have hKw6 := bdr hKw5 q
          generalize v5.drewN q = v6 at hKw6 ⊢
          clear hF5 hX5 hKw5 hKw4 hKw3
          go_wp2_with fail
          go_ret
          exact ⟨rfl, hKw6⟩
    · have hlI : ¬ (64 : Int) < (n : Int) := by omega
      have hkK : keyK 0 key = key := by unfold keyK; rw [if_neg (by rw [hkn]; exact hlong)]
      have hsk := hkn
      have hky := hRo
      clear hRo
      have hBl : n ≤ 64 := by omega
      have hrW := hr.bel hK3
      obtain ⟨B, hB⟩ : ∃ B, w3.heap.size = B := ⟨_, rfl⟩
      have hKl := Kept.refl B (fun _ => False) w3
      have HBB := Lib.hid (And.intro hB hK3.size)
      rw [hB] at hrW hky
      clear hB
      obtain ⟨own, hown⟩ : ∃ q, padL key 64 = q := ⟨_, rfl⟩
      have holn : own.length = 64 := by rw [← hown]; exact padL_len _ _ (by omega)
      have hmk : macK 0 key l = sumK 0 (xorB own 92 ++ sumK 0 (xorB own 54 ++ l)) := by
        unfold macK; rw [hkK, show bkK 0 = 64 from rfl, hown]
      have hgx1 : ∀ i, i < n → gt own i = gt key i := fun i hi => by rw [← hown]; exact gt_pad _ _ _ (by omega)
      have hgx0 : ∀ i, ¬ i < n → i < 64 → gt own i = 0 := fun i hi hi2 => by rw [← hown]; exact gt_pad0 _ _ _ (by omega) hi2
      have HMK := Lib.hid hmk
      have HG := Lib.hid (And.intro hgx1 hgx0)
      have HSK := Lib.hid hsk
      have HOL := Lib.hid holn
      have HKK := Lib.hid hK3
      clear hmk hkK hown hgx1 hgx0 hsk holn hK3
      go_wp2_with fail
      go_loopg [11, 12, 13] 64 (fun gk v v' x wr => RM w3 B 64 own gk v v' x wr)
      case atStart => exact ⟨0, none, none, 0, 0, rfl, rfl, rfl, Nat.zero_le _, rfl, Own.nil _ _ _ _, Own.nil _ _ _ _, fun _ h => (nomatch h), hKl⟩
      case round =>
        clear hKl
        obtain ⟨wq, rfl⟩ : ∃ wq : World, wq = wr := ⟨_, rfl⟩
        obtain ⟨i, Aa, Ab, ca, cb, rfl, rfl, rfl, hi, hgk, hOa, hOb, hap, hK⟩ := hrel
        have HGK := Lib.hid hgk
        have hwl : B ≤ wq.heap.size := by have := hK.size; have := HBB.out.1; omega
        clear hgk
        by_cases hlt : i < 64
        · have hltI : (i : Int) < (64 : Int) := by omega
          by_cases hin : i < n
          · have hinI : (i : Int) < (n : Int) := by omega
            have hrk := hky.kept hK (Nat.le_refl _) (fun _ _ h => h)
            obtain ⟨ad, hAd, hab, hcell⟩ := hrk.at_ (i := i) (by have := HSK.out; omega)
            obtain rfl := hAd
            obtain ⟨y, hy⟩ : ∃ y, gt key i = y := ⟨_, rfl⟩
            rw [hy] at hcell
            have hgx : gt own i = y := by rw [HG.out.1 i hin, hy]
            have HGX := Lib.hid hgx
            clear hy hgx hrk
            have hta := xorB_take own 54 i (by have := HOL.out; omega) HGX.out
            have htb := xorB_take own 92 i (by have := HOL.out; omega) HGX.out
            have HTA := Lib.hid hta
            have HTB := Lib.hid htb
            clear hta htb
            have hO1 := hOa.alloc (.cells (U .u8 [bits .xor .u8 y 54]) 5)
            have hN1 := Rd.of_arr (B := wq.heap.size + 1) (Arr.new wq 5 .u8 [bits .xor .u8 y 54]) (by omega)
            have hK1 := hK.alloc (.cells (U .u8 [bits .xor .u8 y 54]) 5) hwl
            have hOb1 := hOb.alloc (.cells (U .u8 [bits .xor .u8 y 54]) 5)
            go_upto_region 21 with (at_builtin; refine wpList_app rfl (.tmp 69) (.tmp 72) 22 5 .u8 1 rfl Tryd.underlying22 inf_u8 hO1 hN1 rfl rfl rfl (xorB (own.take (i + 1)) 54) HTA.out (i + 1) (by rw [xorB_len, List.length_take]; have := HOL.out; omega) (by omega) (by omega) (by simp; omega) ?_; intro A1 c1 v1 hA1 hg1 hf1)
            have hK2 := hK1.grew hO1 hg1 (Nat.le_refl _) (by simp; omega)
            have hOb2 : Own v1 B 5 .u8 (.slice Ab i cb) (xorB (own.take i) 92) := hOb1.grown hg1 (fun g hg e => hap g e hg)
            have hz2 : wq.heap.size + 1 ≤ v1.heap.size := by have := hg1.size; simpa using this
            have hap2 : ∀ g, (Value.slice A1 (i + 1) c1).ownBlock = some g → (Value.slice Ab i cb).ownBlock ≠ some g := fun g hg e => by
              rcases hf1 with h | h
              · rw [hg] at h; exact hap g h.symm e
              · rw [hg] at h; have h2 : g = wq.heap.size + 1 := by simpa using h
                have := (hOb.lt g e).2; omega
            clear hO1 hN1 hK1 hOb1 hg1 hf1 hOa hOb hap hK
            have hO3 := hOb2.alloc (.cells (U .u8 [bits .xor .u8 y 92]) 5)
            have hN3 := Rd.of_arr (B := v1.heap.size + 1) (Arr.new v1 5 .u8 [bits .xor .u8 y 92]) (by omega)
            have hK3 := hK2.alloc (.cells (U .u8 [bits .xor .u8 y 92]) 5) (by omega)
            have hOa3 := hA1.alloc (.cells (U .u8 [bits .xor .u8 y 92]) 5)
            go_wp2_with (at_builtin; refine wpList_app rfl (.tmp 74) (.tmp 77) 22 5 .u8 1 rfl Tryd.underlying22 inf_u8 hO3 hN3 rfl rfl rfl (xorB (own.take (i + 1)) 92) HTB.out (i + 1) (by rw [xorB_len, List.length_take]; have := HOL.out; omega) (by omega) (by omega) (by simp; omega) ?_; intro A2 c2 v2 hB2 hg2 hf2)
            have hK4 := hK3.grew hO3 hg2 (Nat.le_refl _) (by simp; omega)
            have hA2 : Own v2 B 5 .u8 (.slice A1 (i + 1) c1) (xorB (own.take (i + 1)) 54) := hOa3.grown hg2 (fun g hg e => hap2 g hg e)
            have hap3 : ∀ g, (Value.slice A1 (i + 1) c1).ownBlock = some g → (Value.slice A2 (i + 1) c2).ownBlock ≠ some g := fun g hg e => by
              rcases hf2 with h | h
              · rw [e] at h; exact hap2 g hg h.symm
              · rw [e] at h; have h2 : g = v1.heap.size + 1 := by simpa using h
                have := (hA1.lt g hg).2; omega
            go_roundg (64 - (i + 1))
            case measure => have := HGK.out; omega
            case rel => exact ⟨i + 1, A1, A2, c1, c2, rfl, rfl, by go_num, by omega, rfl, hA2, hB2, hap3, hK4⟩
          · have hinI : ¬ (i : Int) < (n : Int) := by omega
            have hgx : gt own i = 0 := HG.out.2 i hin hlt
            have HGX := Lib.hid hgx
            clear hgx
            have hta := xorB_take own 54 i (by have := HOL.out; omega) HGX.out
            have htb := xorB_take own 92 i (by have := HOL.out; omega) HGX.out
            have HTA := Lib.hid hta
            have HTB := Lib.hid htb
            clear hta htb
            have hO1 := hOa.alloc (.cells (U .u8 [bits .xor .u8 (0 : Int) 54]) 5)
            have hN1 := Rd.of_arr (B := wq.heap.size + 1) (Arr.new wq 5 .u8 [bits .xor .u8 (0 : Int) 54]) (by omega)
            have hK1 := hK.alloc (.cells (U .u8 [bits .xor .u8 (0 : Int) 54]) 5) hwl
            have hOb1 := hOb.alloc (.cells (U .u8 [bits .xor .u8 (0 : Int) 54]) 5)
            go_upto_region 21 with (at_builtin; refine wpList_app rfl (.tmp 69) (.tmp 72) 22 5 .u8 1 rfl Tryd.underlying22 inf_u8 hO1 hN1 rfl rfl rfl (xorB (own.take (i + 1)) 54) HTA.out (i + 1) (by rw [xorB_len, List.length_take]; have := HOL.out; omega) (by omega) (by omega) (by simp; omega) ?_; intro A1 c1 v1 hA1 hg1 hf1)
            have hK2 := hK1.grew hO1 hg1 (Nat.le_refl _) (by simp; omega)
            have hOb2 : Own v1 B 5 .u8 (.slice Ab i cb) (xorB (own.take i) 92) := hOb1.grown hg1 (fun g hg e => hap g e hg)
            have hz2 : wq.heap.size + 1 ≤ v1.heap.size := by have := hg1.size; simpa using this
            have hap2 : ∀ g, (Value.slice A1 (i + 1) c1).ownBlock = some g → (Value.slice Ab i cb).ownBlock ≠ some g := fun g hg e => by
              rcases hf1 with h | h
              · rw [hg] at h; exact hap g h.symm e
              · rw [hg] at h; have h2 : g = wq.heap.size + 1 := by simpa using h
                have := (hOb.lt g e).2; omega
            clear hO1 hN1 hK1 hOb1 hg1 hf1 hOa hOb hap hK
            have hO3 := hOb2.alloc (.cells (U .u8 [bits .xor .u8 (0 : Int) 92]) 5)
            have hN3 := Rd.of_arr (B := v1.heap.size + 1) (Arr.new v1 5 .u8 [bits .xor .u8 (0 : Int) 92]) (by omega)
            have hK3 := hK2.alloc (.cells (U .u8 [bits .xor .u8 (0 : Int) 92]) 5) (by omega)
            have hOa3 := hA1.alloc (.cells (U .u8 [bits .xor .u8 (0 : Int) 92]) 5)
            go_wp2_with (at_builtin; refine wpList_app rfl (.tmp 74) (.tmp 77) 22 5 .u8 1 rfl Tryd.underlying22 inf_u8 hO3 hN3 rfl rfl rfl (xorB (own.take (i + 1)) 92) HTB.out (i + 1) (by rw [xorB_len, List.length_take]; have := HOL.out; omega) (by omega) (by omega) (by simp; omega) ?_; intro A2 c2 v2 hB2 hg2 hf2)
            have hK4 := hK3.grew hO3 hg2 (Nat.le_refl _) (by simp; omega)
            have hA2 : Own v2 B 5 .u8 (.slice A1 (i + 1) c1) (xorB (own.take (i + 1)) 54) := hOa3.grown hg2 (fun g hg e => hap2 g hg e)
            have hap3 : ∀ g, (Value.slice A1 (i + 1) c1).ownBlock = some g → (Value.slice A2 (i + 1) c2).ownBlock ≠ some g := fun g hg e => by
              rcases hf2 with h | h
              · rw [e] at h; exact hap2 g hg h.symm
              · rw [e] at h; have h2 : g = v1.heap.size + 1 := by simpa using h
                have := (hA1.lt g hg).2; omega
            go_roundg (64 - (i + 1))
            case measure => have := HGK.out; omega
            case rel => exact ⟨i + 1, A1, A2, c1, c2, rfl, rfl, by go_num, by omega, rfl, hA2, hB2, hap3, hK4⟩
        · have hltI : ¬ (i : Int) < (64 : Int) := by omega
          obtain rfl : i = 64 := by omega
          rw [List.take_of_length_le (by have := HOL.out; omega)] at hOa hOb
          have hrl := hrW.kept hK (Nat.le_refl _) (fun _ _ h => h)
          obtain ⟨T1, hT1⟩ : ∃ T, xorB own 54 ++ l = T := ⟨_, rfl⟩
          have hT1l : T1.length = 64 + n' := by rw [← hT1, List.length_append, xorB_len, HOL.out, hn]
          have hT1b : Bys T1 := by rw [← hT1]; exact (xorB_B _ _).append hb
          have HT1 := Lib.hid hT1
          have HT1L := Lib.hid hT1l
          obtain ⟨m1, hm1⟩ : ∃ m, sumK 0 T1 = m := ⟨_, rfl⟩
          have hm1l : m1.length = 32 := by rw [← hm1]; exact sumK_len_0 T1
          have hm1b : Bys m1 := by rw [← hm1]; exact sumK_B 0 T1
          have HM1 := Lib.hid (And.intro hm1 hm1l)
          obtain ⟨T2, hT2⟩ : ∃ T, xorB own 92 ++ m1 = T := ⟨_, rfl⟩
          have hT2l : T2.length = 64 + 32 := by rw [← hT2, List.length_append, xorB_len, HOL.out, hm1l]
          have hT2b : Bys T2 := by rw [← hT2]; exact (xorB_B _ _).append hm1b
          have HT2 := Lib.hid (And.intro hT2 hT2l)
          clear hT1 hT1l hm1 hm1l hT2 hT2l
          go_wp2_with (at_builtin; refine wpList_app rfl (.tmp 80) (.tmp 81) 22 5 .u8 1 rfl Tryd.underlying22 inf_u8 hOa hrl rfl rfl hn T1 HT1.out (64 + n') HT1L.out (by omega) (by omega) (by omega) ?_; intro A1 c1 v1 hA1 hg1 hf1)
          have hK1 := hK.grew hOa hg1 (Nat.le_refl _) (by omega)
          have hz1 := hg1.size
          have hOb1 : Own v1 B 5 .u8 (.slice Ab 64 cb) (xorB own 92) := hOb.grown hg1 (fun g hg e => hap g e hg)
          have hcA : 64 + n' ≤ c1 := by have := hA1.len.2; rw [HT1L.out] at this; exact this
          have hKw1 : Below w.heap.size w v1 := HKK.out.trans (hK1.below.mono (by have := HBB.out; omega))
          (with_reducible refine (sums_0 T1 A1 (64 + n') c1 v1 hA1.rd HT1L.out (by omega) hcA hT1b (hT.below hKw1 (Nat.le_refl _))).mono ?_)
          rintro e v2 ⟨A2, c2, rfl, hF2, hb2⟩
          have hz2 := hb2.size
          have hK2 := kbl hK1 (by omega) hb2
          have hKw2 := bnx hKw1 hb2 hKw1.size
          have hOb2 := hOb1.below hb2 (Nat.le_refl _)
          have hR2 := hF2.rd
          rw [HM1.out.1] at hR2
          clear hA1 hg1 hf1 hF2 hb2 hOa hOb hOb1 hK1 hap hrl hKw1
          go_wp2_with fail
          (with_reducible refine (mac_0 key l A A' n c n' c' v2 (hk.bel hKw2) hkn (by omega) hkc hkb (hr.bel hKw2) hn (by omega) hc hb (hT.below hKw2 (Nat.le_refl _))).mono ?_)
          rintro e v3 ⟨A3, c3, rfl, hF3, hb3⟩
          have hz3 := hb3.size
          have hK3 := kbl hK2 (by omega) hb3
          have hKw3 := bnx hKw2 hb3 hKw2.size
          have hOb3 := hOb2.below hb3 (Nat.le_refl _)
          have hR3 := hR2.bel hb3
          have hobl : ∀ g, (Value.slice Ab 64 cb).ownBlock = some g → g < v2.heap.size := fun g e => (hOb2.lt g e).2
          clear hb3 hOb2 hR2 hK2 hKw2
          go_wp2_with (at_builtin; refine wpList_app_yes (.tmp 94) (.tmp 95) 22 5 .u8 1 rfl (by rfl) Tryd.underlying22 inf_u8 hOb3 hR3 rfl rfl HM1.out.2 T2 HT2.out.1 (64 + 32) HT2.out.2 (by omega) (by omega) (by omega) ?_; intro A4_ c4_ v4 hA4 hg4 hf4)
          have hK4 := hK3.grew hOb3 hg4 (Nat.le_refl _) (by omega)
          have hXk : Frs v4 v2.heap.size A3 c3 (macK 0 key l) := hF3.keep hg4.size (fun g h1 h2 h3 => hg4.block g h2 (fun e => by have := hobl g e.symm; omega))
          have hX4 := hXk.rd
          have hz4 := hg4.size
          have hKw4 : Below w.heap.size w v4 := HKK.out.trans (hK4.below.mono (by have := HBB.out; omega))
          have hcB : 64 + 32 ≤ c4_ := by have := hA4.len.2; rw [HT2.out.2] at this; exact this
          (with_reducible refine (sums_0 T2 A4_ (64 + 32) c4_ v4 hA4.rd HT2.out.2 (by omega) hcB hT2b (hT.below hKw4 (Nat.le_refl _))).mono ?_)
          rintro e v5 ⟨A5, c5, rfl, hF5, hb5⟩
          have hKw5 := bnx hKw4 hb5 hKw4.size
          have hX5 := hX4.bel hb5
          have hfin : sumK 0 T2 = macK 0 key l := by rw [HMK.out, HT1.out, HM1.out.1, HT2.out.1]
          rw [hfin] at hF5
          clear hfin hA4 hg4 hf4 hb5 hK3 hK4 hOb3 hF3 hXk hX4 hR3 hobl
          go_wp2_with fail
          (with_reducible refine (same_is v5 A3 A5 (macK 0 key l) 32 c3 c5 v5.heap.size v5.heap.size hX5 hF5.rd (macK_len_0 key l) (by omega)).mono ?_)
          rintro e v6 ⟨rfl, q, rfl⟩
          have hKw6 := bdr hKw5 q
          generalize v5.drewN q = v6 at hKw6 ⊢
          clear hF5 hX5 hKw5 hKw4 hKw3
          go_wp2_with fail
          go_ret
          exact ⟨rfl, hKw6⟩
  · have hkI : (kn : Int) % 2 = 1 := by omega
    clear hk2
    go_wp2_with fail
    (with_reducible refine (sizes_1 w1).mono ?_)
    rintro e w2 ⟨rfl, hb2⟩
    have hK2 := bnx hK1 hb2 hK1.size
    clear hK1 hb2
    by_cases hg1 : 300 < n
    · have hg1I : (300 : Int) < (n : Int) := by omega
      go_wp2_with fail
      go_ret
      exact ⟨rfl, hK2⟩
    have hg1I : ¬ (300 : Int) < (n : Int) := by omega
    by_cases hg2 : 300 < n'
    · have hg2I : (300 : Int) < (n' : Int) := by omega
      go_wp2_with fail
      go_ret
      exact ⟨rfl, hK2⟩
    have hg2I : ¬ (300 : Int) < (n' : Int) := by omega
    have hOe := Own.lit (b := w2.heap.size) (e := 5) (k := .u8) w2 [] (by omega) (Nat.zero_le _)
    have hRe := (hk.bel hK2).alloc (Nat.le_refl _) (.cells #[] 5)
    have hKe := bal hK2 hK2.size (.cells #[] 5)
    go_upto_region 10 with (at_builtin; refine wpList_app rfl _ _ 22 5 .u8 1 rfl Tryd.underlying22 inf_u8 hOe hRe rfl rfl hkn key rfl n hkn (by omega) (by omega) (by simp) ?_; intro Ao co w3 hOo hgo hfo)
    have hK3 : Below w.heap.size w w3 := (Kept.grew (Kept.of_below (S := fun _ => False) hKe) hOe hgo (by have := hK2.size; omega) (by simp; have := hK2.size; omega)).below
    have hRo := hOo.rd
    clear hOo hgo hfo hOe hRe hKe hK2
    by_cases hlong : 128 < n
    · have hlI : (128 : Int) < (n : Int) := by omega
      go_wp2_with fail
      (with_reducible refine (sums_1 key A n c w3 (hk.bel hK3) hkn (by omega) hkc hkb (hT.below hK3 (Nat.le_refl _))).mono ?_)
      rintro e w4 ⟨A4, c4, rfl, hF4, hb4⟩
      have hK4 := bnx hK3 hb4 hK3.size
      have hky := hF4.rd
      have hsk : (sumK 1 key).length = 64 := sumK_len_1 key
      have hkK : keyK 1 key = sumK 1 key := by unfold keyK; rw [if_pos (by rw [hkn]; exact hlong)]
      obtain ⟨ky, hky_⟩ : ∃ q, sumK 1 key = q := ⟨_, rfl⟩
      rw [hky_] at hky hsk hkK
      clear hF4 hb4 hky_ hRo hK3
      have hBl : 64 ≤ 128 := by omega
      have hrW := hr.bel hK4
      obtain ⟨B, hB⟩ : ∃ B, w4.heap.size = B := ⟨_, rfl⟩
      have hKl := Kept.refl B (fun _ => False) w4
      have HBB := Lib.hid (And.intro hB hK4.size)
      rw [hB] at hrW hky
      clear hB
      obtain ⟨own, hown⟩ : ∃ q, padL ky 128 = q := ⟨_, rfl⟩
      have holn : own.length = 128 := by rw [← hown]; exact padL_len _ _ (by omega)
      have hmk : macK 1 key l = sumK 1 (xorB own 92 ++ sumK 1 (xorB own 54 ++ l)) := by
        unfold macK; rw [hkK, show bkK 1 = 128 from rfl, hown]
      have hgx1 : ∀ i, i < 64 → gt own i = gt ky i := fun i hi => by rw [← hown]; exact gt_pad _ _ _ (by omega)
      have hgx0 : ∀ i, ¬ i < 64 → i < 128 → gt own i = 0 := fun i hi hi2 => by rw [← hown]; exact gt_pad0 _ _ _ (by omega) hi2
      have HMK := Lib.hid hmk
      have HG := Lib.hid (And.intro hgx1 hgx0)
      have HSK := Lib.hid hsk
      have HOL := Lib.hid holn
      have HKK := Lib.hid hK4
      clear hmk hkK hown hgx1 hgx0 hsk holn hK4
      go_wp2_with fail
      go_loopg [11, 12, 13] 128 (fun gk v v' x wr => RM w4 B 128 own gk v v' x wr)
      case atStart => exact ⟨0, none, none, 0, 0, rfl, rfl, rfl, Nat.zero_le _, rfl, Own.nil _ _ _ _, Own.nil _ _ _ _, fun _ h => (nomatch h), hKl⟩
      case round =>
        clear hKl
        obtain ⟨wq, rfl⟩ : ∃ wq : World, wq = wr := ⟨_, rfl⟩
        obtain ⟨i, Aa, Ab, ca, cb, rfl, rfl, rfl, hi, hgk, hOa, hOb, hap, hK⟩ := hrel
        have HGK := Lib.hid hgk
        have hwl : B ≤ wq.heap.size := by have := hK.size; have := HBB.out.1; omega
        clear hgk
        by_cases hlt : i < 128
        · have hltI : (i : Int) < (128 : Int) := by omega
          by_cases hin : i < 64
          · have hinI : (i : Int) < (64 : Int) := by omega
            have hrk := hky.kept hK (Nat.le_refl _) (fun _ _ h => h)
            obtain ⟨ad, hAd, hab, hcell⟩ := hrk.at_ (i := i) (by have := HSK.out; omega)
            obtain rfl := hAd
            obtain ⟨y, hy⟩ : ∃ y, gt ky i = y := ⟨_, rfl⟩
            rw [hy] at hcell
            have hgx : gt own i = y := by rw [HG.out.1 i hin, hy]
            have HGX := Lib.hid hgx
            clear hy hgx hrk
            have hta := xorB_take own 54 i (by have := HOL.out; omega) HGX.out
            have htb := xorB_take own 92 i (by have := HOL.out; omega) HGX.out
            have HTA := Lib.hid hta
            have HTB := Lib.hid htb
            clear hta htb
            have hO1 := hOa.alloc (.cells (U .u8 [bits .xor .u8 y 54]) 5)
            have hN1 := Rd.of_arr (B := wq.heap.size + 1) (Arr.new wq 5 .u8 [bits .xor .u8 y 54]) (by omega)
            have hK1 := hK.alloc (.cells (U .u8 [bits .xor .u8 y 54]) 5) hwl
            have hOb1 := hOb.alloc (.cells (U .u8 [bits .xor .u8 y 54]) 5)
            go_upto_region 21 with (at_builtin; refine wpList_app rfl (.tmp 69) (.tmp 72) 22 5 .u8 1 rfl Tryd.underlying22 inf_u8 hO1 hN1 rfl rfl rfl (xorB (own.take (i + 1)) 54) HTA.out (i + 1) (by rw [xorB_len, List.length_take]; have := HOL.out; omega) (by omega) (by omega) (by simp; omega) ?_; intro A1 c1 v1 hA1 hg1 hf1)
            have hK2 := hK1.grew hO1 hg1 (Nat.le_refl _) (by simp; omega)
            have hOb2 : Own v1 B 5 .u8 (.slice Ab i cb) (xorB (own.take i) 92) := hOb1.grown hg1 (fun g hg e => hap g e hg)
            have hz2 : wq.heap.size + 1 ≤ v1.heap.size := by have := hg1.size; simpa using this
            have hap2 : ∀ g, (Value.slice A1 (i + 1) c1).ownBlock = some g → (Value.slice Ab i cb).ownBlock ≠ some g := fun g hg e => by
              rcases hf1 with h | h
              · rw [hg] at h; exact hap g h.symm e
              · rw [hg] at h; have h2 : g = wq.heap.size + 1 := by simpa using h
                have := (hOb.lt g e).2; omega
            clear hO1 hN1 hK1 hOb1 hg1 hf1 hOa hOb hap hK
            have hO3 := hOb2.alloc (.cells (U .u8 [bits .xor .u8 y 92]) 5)
            have hN3 := Rd.of_arr (B := v1.heap.size + 1) (Arr.new v1 5 .u8 [bits .xor .u8 y 92]) (by omega)
            have hK3 := hK2.alloc (.cells (U .u8 [bits .xor .u8 y 92]) 5) (by omega)
            have hOa3 := hA1.alloc (.cells (U .u8 [bits .xor .u8 y 92]) 5)
            go_wp2_with (at_builtin; refine wpList_app rfl (.tmp 74) (.tmp 77) 22 5 .u8 1 rfl Tryd.underlying22 inf_u8 hO3 hN3 rfl rfl rfl (xorB (own.take (i + 1)) 92) HTB.out (i + 1) (by rw [xorB_len, List.length_take]; have := HOL.out; omega) (by omega) (by omega) (by simp; omega) ?_; intro A2 c2 v2 hB2 hg2 hf2)
            have hK4 := hK3.grew hO3 hg2 (Nat.le_refl _) (by simp; omega)
            have hA2 : Own v2 B 5 .u8 (.slice A1 (i + 1) c1) (xorB (own.take (i + 1)) 54) := hOa3.grown hg2 (fun g hg e => hap2 g hg e)
            have hap3 : ∀ g, (Value.slice A1 (i + 1) c1).ownBlock = some g → (Value.slice A2 (i + 1) c2).ownBlock ≠ some g := fun g hg e => by
              rcases hf2 with h | h
              · rw [e] at h; exact hap2 g hg h.symm
              · rw [e] at h; have h2 : g = v1.heap.size + 1 := by simpa using h
                have := (hA1.lt g hg).2; omega
            go_roundg (128 - (i + 1))
            case measure => have := HGK.out; omega
            case rel => exact ⟨i + 1, A1, A2, c1, c2, rfl, rfl, by go_num, by omega, rfl, hA2, hB2, hap3, hK4⟩
          · have hinI : ¬ (i : Int) < (64 : Int) := by omega
            have hgx : gt own i = 0 := HG.out.2 i hin hlt
            have HGX := Lib.hid hgx
            clear hgx
            have hta := xorB_take own 54 i (by have := HOL.out; omega) HGX.out
            have htb := xorB_take own 92 i (by have := HOL.out; omega) HGX.out
            have HTA := Lib.hid hta
            have HTB := Lib.hid htb
            clear hta htb
            have hO1 := hOa.alloc (.cells (U .u8 [bits .xor .u8 (0 : Int) 54]) 5)
            have hN1 := Rd.of_arr (B := wq.heap.size + 1) (Arr.new wq 5 .u8 [bits .xor .u8 (0 : Int) 54]) (by omega)
            have hK1 := hK.alloc (.cells (U .u8 [bits .xor .u8 (0 : Int) 54]) 5) hwl
            have hOb1 := hOb.alloc (.cells (U .u8 [bits .xor .u8 (0 : Int) 54]) 5)
            go_upto_region 21 with (at_builtin; refine wpList_app rfl (.tmp 69) (.tmp 72) 22 5 .u8 1 rfl Tryd.underlying22 inf_u8 hO1 hN1 rfl rfl rfl (xorB (own.take (i + 1)) 54) HTA.out (i + 1) (by rw [xorB_len, List.length_take]; have := HOL.out; omega) (by omega) (by omega) (by simp; omega) ?_; intro A1 c1 v1 hA1 hg1 hf1)
            have hK2 := hK1.grew hO1 hg1 (Nat.le_refl _) (by simp; omega)
            have hOb2 : Own v1 B 5 .u8 (.slice Ab i cb) (xorB (own.take i) 92) := hOb1.grown hg1 (fun g hg e => hap g e hg)
            have hz2 : wq.heap.size + 1 ≤ v1.heap.size := by have := hg1.size; simpa using this
            have hap2 : ∀ g, (Value.slice A1 (i + 1) c1).ownBlock = some g → (Value.slice Ab i cb).ownBlock ≠ some g := fun g hg e => by
              rcases hf1 with h | h
              · rw [hg] at h; exact hap g h.symm e
              · rw [hg] at h; have h2 : g = wq.heap.size + 1 := by simpa using h
                have := (hOb.lt g e).2; omega
            clear hO1 hN1 hK1 hOb1 hg1 hf1 hOa hOb hap hK
            have hO3 := hOb2.alloc (.cells (U .u8 [bits .xor .u8 (0 : Int) 92]) 5)
            have hN3 := Rd.of_arr (B := v1.heap.size + 1) (Arr.new v1 5 .u8 [bits .xor .u8 (0 : Int) 92]) (by omega)
            have hK3 := hK2.alloc (.cells (U .u8 [bits .xor .u8 (0 : Int) 92]) 5) (by omega)
            have hOa3 := hA1.alloc (.cells (U .u8 [bits .xor .u8 (0 : Int) 92]) 5)
            go_wp2_with (at_builtin; refine wpList_app rfl (.tmp 74) (.tmp 77) 22 5 .u8 1 rfl Tryd.underlying22 inf_u8 hO3 hN3 rfl rfl rfl (xorB (own.take (i + 1)) 92) HTB.out (i + 1) (by rw [xorB_len, List.length_take]; have := HOL.out; omega) (by omega) (by omega) (by simp; omega) ?_; intro A2 c2 v2 hB2 hg2 hf2)
            have hK4 := hK3.grew hO3 hg2 (Nat.le_refl _) (by simp; omega)
            have hA2 : Own v2 B 5 .u8 (.slice A1 (i + 1) c1) (xorB (own.take (i + 1)) 54) := hOa3.grown hg2 (fun g hg e => hap2 g hg e)
            have hap3 : ∀ g, (Value.slice A1 (i + 1) c1).ownBlock = some g → (Value.slice A2 (i + 1) c2).ownBlock ≠ some g := fun g hg e => by
              rcases hf2 with h | h
              · rw [e] at h; exact hap2 g hg h.symm
              · rw [e] at h; have h2 : g = v1.heap.size + 1 := by simpa using h
                have := (hA1.lt g hg).2; omega
            go_roundg (128 - (i + 1))
            case measure => have := HGK.out; omega
            case rel => exact ⟨i + 1, A1, A2, c1, c2, rfl, rfl, by go_num, by omega, rfl, hA2, hB2, hap3, hK4⟩
        · have hltI : ¬ (i : Int) < (128 : Int) := by omega
          obtain rfl : i = 128 := by omega
          rw [List.take_of_length_le (by have := HOL.out; omega)] at hOa hOb
          have hrl := hrW.kept hK (Nat.le_refl _) (fun _ _ h => h)
          obtain ⟨T1, hT1⟩ : ∃ T, xorB own 54 ++ l = T := ⟨_, rfl⟩
          have hT1l : T1.length = 128 + n' := by rw [← hT1, List.length_append, xorB_len, HOL.out, hn]
          have hT1b : Bys T1 := by rw [← hT1]; exact (xorB_B _ _).append hb
          have HT1 := Lib.hid hT1
          have HT1L := Lib.hid hT1l
          obtain ⟨m1, hm1⟩ : ∃ m, sumK 1 T1 = m := ⟨_, rfl⟩
          have hm1l : m1.length = 64 := by rw [← hm1]; exact sumK_len_1 T1
          have hm1b : Bys m1 := by rw [← hm1]; exact sumK_B 1 T1
          have HM1 := Lib.hid (And.intro hm1 hm1l)
          obtain ⟨T2, hT2⟩ : ∃ T, xorB own 92 ++ m1 = T := ⟨_, rfl⟩
          have hT2l : T2.length = 128 + 64 := by rw [← hT2, List.length_append, xorB_len, HOL.out, hm1l]
          have hT2b : Bys T2 := by rw [← hT2]; exact (xorB_B _ _).append hm1b
          have HT2 := Lib.hid (And.intro hT2 hT2l)
          clear hT1 hT1l hm1 hm1l hT2 hT2l
          go_wp2_with (at_builtin; refine wpList_app rfl (.tmp 80) (.tmp 81) 22 5 .u8 1 rfl Tryd.underlying22 inf_u8 hOa hrl rfl rfl hn T1 HT1.out (128 + n') HT1L.out (by omega) (by omega) (by omega) ?_; intro A1 c1 v1 hA1 hg1 hf1)
          have hK1 := hK.grew hOa hg1 (Nat.le_refl _) (by omega)
          have hz1 := hg1.size
          have hOb1 : Own v1 B 5 .u8 (.slice Ab 128 cb) (xorB own 92) := hOb.grown hg1 (fun g hg e => hap g e hg)
          have hcA : 128 + n' ≤ c1 := by have := hA1.len.2; rw [HT1L.out] at this; exact this
          have hKw1 : Below w.heap.size w v1 := HKK.out.trans (hK1.below.mono (by have := HBB.out; omega))
          (with_reducible refine (sums_1 T1 A1 (128 + n') c1 v1 hA1.rd HT1L.out (by omega) hcA hT1b (hT.below hKw1 (Nat.le_refl _))).mono ?_)
          rintro e v2 ⟨A2, c2, rfl, hF2, hb2⟩
          have hz2 := hb2.size
          have hK2 := kbl hK1 (by omega) hb2
          have hKw2 := bnx hKw1 hb2 hKw1.size
          have hOb2 := hOb1.below hb2 (Nat.le_refl _)
          have hR2 := hF2.rd
          rw [HM1.out.1] at hR2
          clear hA1 hg1 hf1 hF2 hb2 hOa hOb hOb1 hK1 hap hrl hKw1
          go_wp2_with fail
          (with_reducible refine (mac_1 key l A A' n c n' c' v2 (hk.bel hKw2) hkn (by omega) hkc hkb (hr.bel hKw2) hn (by omega) hc hb (hT.below hKw2 (Nat.le_refl _))).mono ?_)
          rintro e v3 ⟨A3, c3, rfl, hF3, hb3⟩
          have hz3 := hb3.size
          have hK3 := kbl hK2 (by omega) hb3
          have hKw3 := bnx hKw2 hb3 hKw2.size
          have hOb3 := hOb2.below hb3 (Nat.le_refl _)
          have hR3 := hR2.bel hb3
          have hobl : ∀ g, (Value.slice Ab 128 cb).ownBlock = some g → g < v2.heap.size := fun g e => (hOb2.lt g e).2
          clear hb3 hOb2 hR2 hK2 hKw2
          go_wp2_with (at_builtin; refine wpList_app_yes (.tmp 94) (.tmp 95) 22 5 .u8 1 rfl (by rfl) Tryd.underlying22 inf_u8 hOb3 hR3 rfl rfl HM1.out.2 T2 HT2.out.1 (128 + 64) HT2.out.2 (by omega) (by omega) (by omega) ?_; intro A4_ c4_ v4 hA4 hg4 hf4)
          have hK4 := hK3.grew hOb3 hg4 (Nat.le_refl _) (by omega)
          have hXk : Frs v4 v2.heap.size A3 c3 (macK 1 key l) := hF3.keep hg4.size (fun g h1 h2 h3 => hg4.block g h2 (fun e => by have := hobl g e.symm; omega))
          have hX4 := hXk.rd
          have hz4 := hg4.size
          have hKw4 : Below w.heap.size w v4 := HKK.out.trans (hK4.below.mono (by have := HBB.out; omega))
          have hcB : 128 + 64 ≤ c4_ := by have := hA4.len.2; rw [HT2.out.2] at this; exact this
          (with_reducible refine (sums_1 T2 A4_ (128 + 64) c4_ v4 hA4.rd HT2.out.2 (by omega) hcB hT2b (hT.below hKw4 (Nat.le_refl _))).mono ?_)
          rintro e v5 ⟨A5, c5, rfl, hF5, hb5⟩
          have hKw5 := bnx hKw4 hb5 hKw4.size
          have hX5 := hX4.bel hb5
          have hfin : sumK 1 T2 = macK 1 key l := by rw [HMK.out, HT1.out, HM1.out.1, HT2.out.1]
          rw [hfin] at hF5
          clear hfin hA4 hg4 hf4 hb5 hK3 hK4 hOb3 hF3 hXk hX4 hR3 hobl
          go_wp2_with fail
          (with_reducible refine (same_is v5 A3 A5 (macK 1 key l) 64 c3 c5 v5.heap.size v5.heap.size hX5 hF5.rd (macK_len_1 key l) (by omega)).mono ?_)
          rintro e v6 ⟨rfl, q, rfl⟩
          have hKw6 := bdr hKw5 q
          generalize v5.drewN q = v6 at hKw6 ⊢
          clear hF5 hX5 hKw5 hKw4 hKw3
          go_wp2_with fail
          go_ret
          exact ⟨rfl, hKw6⟩
    · have hlI : ¬ (128 : Int) < (n : Int) := by omega
      have hkK : keyK 1 key = key := by unfold keyK; rw [if_neg (by rw [hkn]; exact hlong)]
      have hsk := hkn
      have hky := hRo
      clear hRo
      have hBl : n ≤ 128 := by omega
      have hrW := hr.bel hK3
      obtain ⟨B, hB⟩ : ∃ B, w3.heap.size = B := ⟨_, rfl⟩
      have hKl := Kept.refl B (fun _ => False) w3
      have HBB := Lib.hid (And.intro hB hK3.size)
      rw [hB] at hrW hky
      clear hB
      obtain ⟨own, hown⟩ : ∃ q, padL key 128 = q := ⟨_, rfl⟩
      have holn : own.length = 128 := by rw [← hown]; exact padL_len _ _ (by omega)
      have hmk : macK 1 key l = sumK 1 (xorB own 92 ++ sumK 1 (xorB own 54 ++ l)) := by
        unfold macK; rw [hkK, show bkK 1 = 128 from rfl, hown]
      have hgx1 : ∀ i, i < n → gt own i = gt key i := fun i hi => by rw [← hown]; exact gt_pad _ _ _ (by omega)
      have hgx0 : ∀ i, ¬ i < n → i < 128 → gt own i = 0 := fun i hi hi2 => by rw [← hown]; exact gt_pad0 _ _ _ (by omega) hi2
      have HMK := Lib.hid hmk
      have HG := Lib.hid (And.intro hgx1 hgx0)
      have HSK := Lib.hid hsk
      have HOL := Lib.hid holn
      have HKK := Lib.hid hK3
      clear hmk hkK hown hgx1 hgx0 hsk holn hK3
      go_wp2_with fail
      go_loopg [11, 12, 13] 128 (fun gk v v' x wr => RM w3 B 128 own gk v v' x wr)
      case atStart => exact ⟨0, none, none, 0, 0, rfl, rfl, rfl, Nat.zero_le _, rfl, Own.nil _ _ _ _, Own.nil _ _ _ _, fun _ h => (nomatch h), hKl⟩
      case round =>
        clear hKl
        obtain ⟨wq, rfl⟩ : ∃ wq : World, wq = wr := ⟨_, rfl⟩
        obtain ⟨i, Aa, Ab, ca, cb, rfl, rfl, rfl, hi, hgk, hOa, hOb, hap, hK⟩ := hrel
        have HGK := Lib.hid hgk
        have hwl : B ≤ wq.heap.size := by have := hK.size; have := HBB.out.1; omega
        clear hgk
        by_cases hlt : i < 128
        · have hltI : (i : Int) < (128 : Int) := by omega
          by_cases hin : i < n
          · have hinI : (i : Int) < (n : Int) := by omega
            have hrk := hky.kept hK (Nat.le_refl _) (fun _ _ h => h)
            obtain ⟨ad, hAd, hab, hcell⟩ := hrk.at_ (i := i) (by have := HSK.out; omega)
            obtain rfl := hAd
            obtain ⟨y, hy⟩ : ∃ y, gt key i = y := ⟨_, rfl⟩
            rw [hy] at hcell
            have hgx : gt own i = y := by rw [HG.out.1 i hin, hy]
            have HGX := Lib.hid hgx
            clear hy hgx hrk
            have hta := xorB_take own 54 i (by have := HOL.out; omega) HGX.out
            have htb := xorB_take own 92 i (by have := HOL.out; omega) HGX.out
            have HTA := Lib.hid hta
            have HTB := Lib.hid htb
            clear hta htb
            have hO1 := hOa.alloc (.cells (U .u8 [bits .xor .u8 y 54]) 5)
            have hN1 := Rd.of_arr (B := wq.heap.size + 1) (Arr.new wq 5 .u8 [bits .xor .u8 y 54]) (by omega)
            have hK1 := hK.alloc (.cells (U .u8 [bits .xor .u8 y 54]) 5) hwl
            have hOb1 := hOb.alloc (.cells (U .u8 [bits .xor .u8 y 54]) 5)
            go_upto_region 21 with (at_builtin; refine wpList_app rfl (.tmp 69) (.tmp 72) 22 5 .u8 1 rfl Tryd.underlying22 inf_u8 hO1 hN1 rfl rfl rfl (xorB (own.take (i + 1)) 54) HTA.out (i + 1) (by rw [xorB_len, List.length_take]; have := HOL.out; omega) (by omega) (by omega) (by simp; omega) ?_; intro A1 c1 v1 hA1 hg1 hf1)
            have hK2 := hK1.grew hO1 hg1 (Nat.le_refl _) (by simp; omega)
            have hOb2 : Own v1 B 5 .u8 (.slice Ab i cb) (xorB (own.take i) 92) := hOb1.grown hg1 (fun g hg e => hap g e hg)
            have hz2 : wq.heap.size + 1 ≤ v1.heap.size := by have := hg1.size; simpa using this
            have hap2 : ∀ g, (Value.slice A1 (i + 1) c1).ownBlock = some g → (Value.slice Ab i cb).ownBlock ≠ some g := fun g hg e => by
              rcases hf1 with h | h
              · rw [hg] at h; exact hap g h.symm e
              · rw [hg] at h; have h2 : g = wq.heap.size + 1 := by simpa using h
                have := (hOb.lt g e).2; omega
            clear hO1 hN1 hK1 hOb1 hg1 hf1 hOa hOb hap hK
            have hO3 := hOb2.alloc (.cells (U .u8 [bits .xor .u8 y 92]) 5)
            have hN3 := Rd.of_arr (B := v1.heap.size + 1) (Arr.new v1 5 .u8 [bits .xor .u8 y 92]) (by omega)
            have hK3 := hK2.alloc (.cells (U .u8 [bits .xor .u8 y 92]) 5) (by omega)
            have hOa3 := hA1.alloc (.cells (U .u8 [bits .xor .u8 y 92]) 5)
            go_wp2_with (at_builtin; refine wpList_app rfl (.tmp 74) (.tmp 77) 22 5 .u8 1 rfl Tryd.underlying22 inf_u8 hO3 hN3 rfl rfl rfl (xorB (own.take (i + 1)) 92) HTB.out (i + 1) (by rw [xorB_len, List.length_take]; have := HOL.out; omega) (by omega) (by omega) (by simp; omega) ?_; intro A2 c2 v2 hB2 hg2 hf2)
            have hK4 := hK3.grew hO3 hg2 (Nat.le_refl _) (by simp; omega)
            have hA2 : Own v2 B 5 .u8 (.slice A1 (i + 1) c1) (xorB (own.take (i + 1)) 54) := hOa3.grown hg2 (fun g hg e => hap2 g hg e)
            have hap3 : ∀ g, (Value.slice A1 (i + 1) c1).ownBlock = some g → (Value.slice A2 (i + 1) c2).ownBlock ≠ some g := fun g hg e => by
              rcases hf2 with h | h
              · rw [e] at h; exact hap2 g hg h.symm
              · rw [e] at h; have h2 : g = v1.heap.size + 1 := by simpa using h
                have := (hA1.lt g hg).2; omega
            go_roundg (128 - (i + 1))
            case measure => have := HGK.out; omega
            case rel => exact ⟨i + 1, A1, A2, c1, c2, rfl, rfl, by go_num, by omega, rfl, hA2, hB2, hap3, hK4⟩
          · have hinI : ¬ (i : Int) < (n : Int) := by omega
            have hgx : gt own i = 0 := HG.out.2 i hin hlt
            have HGX := Lib.hid hgx
            clear hgx
            have hta := xorB_take own 54 i (by have := HOL.out; omega) HGX.out
            have htb := xorB_take own 92 i (by have := HOL.out; omega) HGX.out
            have HTA := Lib.hid hta
            have HTB := Lib.hid htb
            clear hta htb
            have hO1 := hOa.alloc (.cells (U .u8 [bits .xor .u8 (0 : Int) 54]) 5)
            have hN1 := Rd.of_arr (B := wq.heap.size + 1) (Arr.new wq 5 .u8 [bits .xor .u8 (0 : Int) 54]) (by omega)
            have hK1 := hK.alloc (.cells (U .u8 [bits .xor .u8 (0 : Int) 54]) 5) hwl
            have hOb1 := hOb.alloc (.cells (U .u8 [bits .xor .u8 (0 : Int) 54]) 5)
            go_upto_region 21 with (at_builtin; refine wpList_app rfl (.tmp 69) (.tmp 72) 22 5 .u8 1 rfl Tryd.underlying22 inf_u8 hO1 hN1 rfl rfl rfl (xorB (own.take (i + 1)) 54) HTA.out (i + 1) (by rw [xorB_len, List.length_take]; have := HOL.out; omega) (by omega) (by omega) (by simp; omega) ?_; intro A1 c1 v1 hA1 hg1 hf1)
            have hK2 := hK1.grew hO1 hg1 (Nat.le_refl _) (by simp; omega)
            have hOb2 : Own v1 B 5 .u8 (.slice Ab i cb) (xorB (own.take i) 92) := hOb1.grown hg1 (fun g hg e => hap g e hg)
            have hz2 : wq.heap.size + 1 ≤ v1.heap.size := by have := hg1.size; simpa using this
            have hap2 : ∀ g, (Value.slice A1 (i + 1) c1).ownBlock = some g → (Value.slice Ab i cb).ownBlock ≠ some g := fun g hg e => by
              rcases hf1 with h | h
              · rw [hg] at h; exact hap g h.symm e
              · rw [hg] at h; have h2 : g = wq.heap.size + 1 := by simpa using h
                have := (hOb.lt g e).2; omega
            clear hO1 hN1 hK1 hOb1 hg1 hf1 hOa hOb hap hK
            have hO3 := hOb2.alloc (.cells (U .u8 [bits .xor .u8 (0 : Int) 92]) 5)
            have hN3 := Rd.of_arr (B := v1.heap.size + 1) (Arr.new v1 5 .u8 [bits .xor .u8 (0 : Int) 92]) (by omega)
            have hK3 := hK2.alloc (.cells (U .u8 [bits .xor .u8 (0 : Int) 92]) 5) (by omega)
            have hOa3 := hA1.alloc (.cells (U .u8 [bits .xor .u8 (0 : Int) 92]) 5)
            go_wp2_with (at_builtin; refine wpList_app rfl (.tmp 74) (.tmp 77) 22 5 .u8 1 rfl Tryd.underlying22 inf_u8 hO3 hN3 rfl rfl rfl (xorB (own.take (i + 1)) 92) HTB.out (i + 1) (by rw [xorB_len, List.length_take]; have := HOL.out; omega) (by omega) (by omega) (by simp; omega) ?_; intro A2 c2 v2 hB2 hg2 hf2)
            have hK4 := hK3.grew hO3 hg2 (Nat.le_refl _) (by simp; omega)
            have hA2 : Own v2 B 5 .u8 (.slice A1 (i + 1) c1) (xorB (own.take (i + 1)) 54) := hOa3.grown hg2 (fun g hg e => hap2 g hg e)
            have hap3 : ∀ g, (Value.slice A1 (i + 1) c1).ownBlock = some g → (Value.slice A2 (i + 1) c2).ownBlock ≠ some g := fun g hg e => by
              rcases hf2 with h | h
              · rw [e] at h; exact hap2 g hg h.symm
              · rw [e] at h; have h2 : g = v1.heap.size + 1 := by simpa using h
                have := (hA1.lt g hg).2; omega
            go_roundg (128 - (i + 1))
            case measure => have := HGK.out; omega
            case rel => exact ⟨i + 1, A1, A2, c1, c2, rfl, rfl, by go_num, by omega, rfl, hA2, hB2, hap3, hK4⟩
        · have hltI : ¬ (i : Int) < (128 : Int) := by omega
          obtain rfl : i = 128 := by omega
          rw [List.take_of_length_le (by have := HOL.out; omega)] at hOa hOb
          have hrl := hrW.kept hK (Nat.le_refl _) (fun _ _ h => h)
          obtain ⟨T1, hT1⟩ : ∃ T, xorB own 54 ++ l = T := ⟨_, rfl⟩
          have hT1l : T1.length = 128 + n' := by rw [← hT1, List.length_append, xorB_len, HOL.out, hn]
          have hT1b : Bys T1 := by rw [← hT1]; exact (xorB_B _ _).append hb
          have HT1 := Lib.hid hT1
          have HT1L := Lib.hid hT1l
          obtain ⟨m1, hm1⟩ : ∃ m, sumK 1 T1 = m := ⟨_, rfl⟩
          have hm1l : m1.length = 64 := by rw [← hm1]; exact sumK_len_1 T1
          have hm1b : Bys m1 := by rw [← hm1]; exact sumK_B 1 T1
          have HM1 := Lib.hid (And.intro hm1 hm1l)
          obtain ⟨T2, hT2⟩ : ∃ T, xorB own 92 ++ m1 = T := ⟨_, rfl⟩
          have hT2l : T2.length = 128 + 64 := by rw [← hT2, List.length_append, xorB_len, HOL.out, hm1l]
          have hT2b : Bys T2 := by rw [← hT2]; exact (xorB_B _ _).append hm1b
          have HT2 := Lib.hid (And.intro hT2 hT2l)
          clear hT1 hT1l hm1 hm1l hT2 hT2l
          go_wp2_with (at_builtin; refine wpList_app rfl (.tmp 80) (.tmp 81) 22 5 .u8 1 rfl Tryd.underlying22 inf_u8 hOa hrl rfl rfl hn T1 HT1.out (128 + n') HT1L.out (by omega) (by omega) (by omega) ?_; intro A1 c1 v1 hA1 hg1 hf1)
          have hK1 := hK.grew hOa hg1 (Nat.le_refl _) (by omega)
          have hz1 := hg1.size
          have hOb1 : Own v1 B 5 .u8 (.slice Ab 128 cb) (xorB own 92) := hOb.grown hg1 (fun g hg e => hap g e hg)
          have hcA : 128 + n' ≤ c1 := by have := hA1.len.2; rw [HT1L.out] at this; exact this
          have hKw1 : Below w.heap.size w v1 := HKK.out.trans (hK1.below.mono (by have := HBB.out; omega))
          (with_reducible refine (sums_1 T1 A1 (128 + n') c1 v1 hA1.rd HT1L.out (by omega) hcA hT1b (hT.below hKw1 (Nat.le_refl _))).mono ?_)
          rintro e v2 ⟨A2, c2, rfl, hF2, hb2⟩
          have hz2 := hb2.size
          have hK2 := kbl hK1 (by omega) hb2
          have hKw2 := bnx hKw1 hb2 hKw1.size
          have hOb2 := hOb1.below hb2 (Nat.le_refl _)
          have hR2 := hF2.rd
          rw [HM1.out.1] at hR2
          clear hA1 hg1 hf1 hF2 hb2 hOa hOb hOb1 hK1 hap hrl hKw1
          go_wp2_with fail
          (with_reducible refine (mac_1 key l A A' n c n' c' v2 (hk.bel hKw2) hkn (by omega) hkc hkb (hr.bel hKw2) hn (by omega) hc hb (hT.below hKw2 (Nat.le_refl _))).mono ?_)
          rintro e v3 ⟨A3, c3, rfl, hF3, hb3⟩
          have hz3 := hb3.size
          have hK3 := kbl hK2 (by omega) hb3
          have hKw3 := bnx hKw2 hb3 hKw2.size
          have hOb3 := hOb2.below hb3 (Nat.le_refl _)
          have hR3 := hR2.bel hb3
          have hobl : ∀ g, (Value.slice Ab 128 cb).ownBlock = some g → g < v2.heap.size := fun g e => (hOb2.lt g e).2
          clear hb3 hOb2 hR2 hK2 hKw2
          go_wp2_with (at_builtin; refine wpList_app_yes (.tmp 94) (.tmp 95) 22 5 .u8 1 rfl (by rfl) Tryd.underlying22 inf_u8 hOb3 hR3 rfl rfl HM1.out.2 T2 HT2.out.1 (128 + 64) HT2.out.2 (by omega) (by omega) (by omega) ?_; intro A4_ c4_ v4 hA4 hg4 hf4)
          have hK4 := hK3.grew hOb3 hg4 (Nat.le_refl _) (by omega)
          have hXk : Frs v4 v2.heap.size A3 c3 (macK 1 key l) := hF3.keep hg4.size (fun g h1 h2 h3 => hg4.block g h2 (fun e => by have := hobl g e.symm; omega))
          have hX4 := hXk.rd
          have hz4 := hg4.size
          have hKw4 : Below w.heap.size w v4 := HKK.out.trans (hK4.below.mono (by have := HBB.out; omega))
          have hcB : 128 + 64 ≤ c4_ := by have := hA4.len.2; rw [HT2.out.2] at this; exact this
          (with_reducible refine (sums_1 T2 A4_ (128 + 64) c4_ v4 hA4.rd HT2.out.2 (by omega) hcB hT2b (hT.below hKw4 (Nat.le_refl _))).mono ?_)
          rintro e v5 ⟨A5, c5, rfl, hF5, hb5⟩
          have hKw5 := bnx hKw4 hb5 hKw4.size
          have hX5 := hX4.bel hb5
          have hfin : sumK 1 T2 = macK 1 key l := by rw [HMK.out, HT1.out, HM1.out.1, HT2.out.1]
          rw [hfin] at hF5
          clear hfin hA4 hg4 hf4 hb5 hK3 hK4 hOb3 hF3 hXk hX4 hR3 hobl
          go_wp2_with fail
          (with_reducible refine (same_is v5 A3 A5 (macK 1 key l) 64 c3 c5 v5.heap.size v5.heap.size hX5 hF5.rd (macK_len_1 key l) (by omega)).mono ?_)
          rintro e v6 ⟨rfl, q, rfl⟩
          have hKw6 := bdr hKw5 q
          generalize v5.drewN q = v6 at hKw6 ⊢
          clear hF5 hX5 hKw5 hKw4 hKw3
          go_wp2_with fail
          go_ret
          exact ⟨rfl, hKw6⟩
end Go.Proofs.YteidkdpfjponfaaDoor
