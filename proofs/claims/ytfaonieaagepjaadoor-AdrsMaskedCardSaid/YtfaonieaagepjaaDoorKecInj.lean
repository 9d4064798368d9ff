import Derived.Test.YtfaonieaagepjaaDoorKecPure
namespace Go.Proofs.YtfaonieaagepjaaDoor
open Go.RowKit
set_option linter.unusedVariables false
set_option linter.unusedSimpArgs false

/-! ### Turning words -/
theorem rot_bit (x : BitVec 64) (r i : Nat) (hi : i < 64) : (x.rotateLeft r).getLsbD i = x.getLsbD ((i + 64 - r % 64) % 64) := by
  rw [BitVec.getLsbD_rotateLeft]
  have h := Nat.mod_lt r (show 0 < 64 by decide)
  by_cases h2 : i < r % 64
  · rw [decide_eq_true h2, cond_true]
    congr 1; omega
  · rw [decide_eq_false h2, cond_false, decide_eq_true hi, Bool.true_and]
    congr 1; omega
theorem rot_xor (x y : BitVec 64) (r : Nat) : (x ^^^ y).rotateLeft r = x.rotateLeft r ^^^ y.rotateLeft r := by
  apply BitVec.eq_of_getLsbD_eq
  intro i hi
  rw [BitVec.getLsbD_xor, rot_bit _ _ _ hi, rot_bit _ _ _ hi, rot_bit _ _ _ hi, BitVec.getLsbD_xor]
theorem rot_rot (x : BitVec 64) (r s : Nat) : (x.rotateLeft r).rotateLeft s = x.rotateLeft (r + s) := by
  apply BitVec.eq_of_getLsbD_eq
  intro i hi
  rw [rot_bit _ _ _ hi, rot_bit _ _ _ (Nat.mod_lt _ (by decide)), rot_bit _ _ _ hi]
  congr 1; omega
theorem rot_64 (x : BitVec 64) : x.rotateLeft 64 = x := by
  apply BitVec.eq_of_getLsbD_eq
  intro i hi
  rw [rot_bit _ _ _ hi]
  congr 1; omega
theorem rot_inj {x y : BitVec 64} {r : Nat} (h : x.rotateLeft r = y.rotateLeft r) : x = y := by
  have h2 := congrArg (fun z : BitVec 64 => z.rotateLeft (64 - r % 64)) h
  simp only [rot_rot] at h2
  apply BitVec.eq_of_getLsbD_eq
  intro i hi
  have h3 := congrArg (fun z : BitVec 64 => z.getLsbD i) h2
  simp only [rot_bit _ _ _ hi] at h3
  have e : (i + 64 - (r + (64 - r % 64)) % 64) % 64 = i := by omega
  rw [e] at h3
  exact h3
theorem rotl_inj {x y : Int} {s : Nat} (hx : W64 x) (hy : W64 y) (h : rotl x s = rotl y s) : x = y := by
  have h2 : (bv x).rotateLeft s = (bv y).rotateLeft s := by
    apply BitVec.eq_of_toNat_eq
    exact Int.ofNat.inj h
  rw [← hx.bv_eq, ← hy.bv_eq, rot_inj h2]
theorem X_cancel {a b c : Int} (ha : W64 a) (hb : W64 b) (h : X a c = X b c) : a = b := by
  have h2 : bv a ^^^ bv c = bv b ^^^ bv c := by
    have := congrArg bv h
    simpa only [X, bv_xor, bv_nat] using this
  have h3 : bv a = bv b := by
    have := congrArg (· ^^^ bv c) h2
    simpa only [BitVec.xor_assoc, BitVec.xor_self, BitVec.xor_zero] using this
  rw [← ha.bv_eq, ← hb.bv_eq, h3]

/-! ### theta is one to one -/
/-- A circle of five words. -/
def Per (e : Nat → BitVec 64) : Prop := ∀ x, e (x + 5) = e x
def Tk (k : Nat) (e : Nat → BitVec 64) (x : Nat) : BitVec 64 := e x ^^^ e (x + 4 * k) ^^^ (e (x + k)).rotateLeft k
theorem Tk_twice (k : Nat) (e : Nat → BitVec 64) (he : Per e) (x : Nat) : Tk k (Tk k e) x = Tk (2 * k) e x := by
  have p : e (x + k + 4 * k) = e (x + 4 * k + k) := by rw [show x + k + 4 * k = x + 4 * k + k by omega]
  have q : (x + 4 * k + 4 * k) = x + 4 * (2 * k) := by omega
  have r : x + k + k = x + 2 * k := by omega
  simp only [Tk, rot_xor, rot_rot, p, q, r]
  rw [show k + k = 2 * k by omega]
  generalize e x = a
  generalize e (x + 4 * k) = b
  generalize (e (x + k)).rotateLeft k = c
  generalize e (x + 4 * (2 * k)) = d
  generalize (e (x + 4 * k + k)).rotateLeft k = f
  generalize (e (x + 2 * k)).rotateLeft (2 * k) = g
  apply BitVec.eq_of_getLsbD_eq
  intro i _
  simp only [BitVec.getLsbD_xor]
  generalize a.getLsbD i = a
  generalize b.getLsbD i = b
  generalize c.getLsbD i = c
  generalize d.getLsbD i = d
  generalize f.getLsbD i = f
  generalize g.getLsbD i = g
  revert a b c d f g
  decide
theorem Tk_zero (k : Nat) (x : Nat) (e : Nat → BitVec 64) (h : ∀ x, e x = 0#64) : Tk k e x = 0#64 := by
  simp only [Tk, h, BitVec.xor_self, BitVec.zero_xor]
  apply BitVec.eq_of_getLsbD_eq
  intro i hi
  rw [rot_bit _ _ _ hi]
  simp
theorem T_kernel (e : Nat → BitVec 64) (he : Per e) (h : ∀ x, Tk 1 e x = 0#64) : ∀ x, e x = 0#64 := by
  have up : ∀ k, (∀ x, Tk k e x = 0#64) → ∀ x, Tk (2 * k) e x = 0#64 := fun k hk x => by
    rw [← Tk_twice k e he x]; exact Tk_zero k x _ hk
  have h64 : ∀ x, Tk 64 e x = 0#64 := up 32 (up 16 (up 8 (up 4 (up 2 (up 1 h)))))
  have five : ∀ n x, e (x + 5 * n) = e x := by
    intro n
    induction n with
    | zero => intro x; rfl
    | succ n ih => intro x; rw [show x + 5 * (n + 1) = (x + 5 * n) + 5 by omega, he, ih]
  have hs : ∀ x, e x ^^^ e (x + 1) ^^^ e (x + 4) = 0#64 := by
    intro x
    have := h64 x
    simp only [Tk, rot_64] at this
    rw [show x + 4 * 64 = (x + 1) + 5 * 51 by omega, five, show x + 64 = (x + 4) + 5 * 12 by omega, five] at this
    exact this
  have all : ∀ i x, (e x).getLsbD i = false := by
    intro i x
    have g := fun x => congrArg (fun z : BitVec 64 => z.getLsbD i) (hs x)
    simp only [BitVec.getLsbD_xor, BitVec.getLsbD_zero] at g
    have g0 := g x
    have g1 := g (x + 1)
    have g2 := g (x + 2)
    have g3 := g (x + 3)
    have g4 := g (x + 4)
    rw [show x + 1 + 4 = x + 5 by omega, he, show x + 1 + 1 = x + 2 by omega] at g1
    rw [show x + 2 + 4 = (x + 1) + 5 by omega, he, show x + 2 + 1 = x + 3 by omega] at g2
    rw [show x + 3 + 4 = (x + 2) + 5 by omega, he, show x + 3 + 1 = x + 4 by omega] at g3
    rw [show x + 4 + 1 = x + 5 by omega, he x, show x + 4 + 4 = (x + 3) + 5 by omega, he (x + 3)] at g4
    revert g0 g1 g2 g3 g4
    generalize (e x).getLsbD i = a
    generalize (e (x + 1)).getLsbD i = b
    generalize (e (x + 2)).getLsbD i = c
    generalize (e (x + 3)).getLsbD i = d
    generalize (e (x + 4)).getLsbD i = f
    revert a b c d f
    decide
  intro x
  apply BitVec.eq_of_getLsbD_eq
  intro i _
  rw [all i x]; simp

/-- A column's sum, as a word. -/
def cB (l : List Int) (x : Nat) : BitVec 64 := bv (gt (thC l 25) (x % 5))
theorem cB_per (l : List Int) (x : Nat) : cB l (x + 5) = cB l x := by unfold cB; rw [Nat.add_mod_right]
theorem cB_sum (l : List Int) (k : Nat) (hw : Ws l) (hk : k < 5) :
    cB l k = bv (gt l k) ^^^ bv (gt l (k + 5)) ^^^ bv (gt l (k + 10)) ^^^ bv (gt l (k + 15)) ^^^ bv (gt l (k + 20)) := by
  rw [cB, Nat.mod_eq_of_lt hk, thC_get l k hw hk]
  simp only [X, bv_xor, bv_nat]
def dB (l : List Int) (x : Nat) : BitVec 64 := cB l (x + 4) ^^^ (cB l (x + 1)).rotateLeft 1
theorem bv_rotl (x : Int) (s : Nat) : bv (rotl x s) = (bv x).rotateLeft s := bv_nat _
theorem fD_bv (l : List Int) (x : Nat) : bv (fD (thC l 25) x) = dB l x := by
  rw [fD, bv_xor, bv_nat, bv_rotl]; rfl
theorem theta_bv (l : List Int) (k : Nat) (hl : l.length = 25) (hk : k < 25) : bv (gt (theta l) k) = bv (gt l k) ^^^ dB l (k % 5) := by
  rw [theta_get l k hl hk, X, bv_xor, bv_nat, fD_bv]
theorem theta_col (l : List Int) (x : Nat) (hl : l.length = 25) (hw : Ws l) (hx : x < 5) :
    bv (gt (theta l) x) ^^^ bv (gt (theta l) (x + 5)) ^^^ bv (gt (theta l) (x + 10)) ^^^ bv (gt (theta l) (x + 15)) ^^^ bv (gt (theta l) (x + 20)) = Tk 1 (cB l) x := by
  rw [theta_bv l x hl (by omega), theta_bv l (x + 5) hl (by omega), theta_bv l (x + 10) hl (by omega), theta_bv l (x + 15) hl (by omega), theta_bv l (x + 20) hl (by omega)]
  rw [show (x + 5) % 5 = x % 5 by omega, show (x + 10) % 5 = x % 5 by omega, show (x + 15) % 5 = x % 5 by omega, show (x + 20) % 5 = x % 5 by omega, Nat.mod_eq_of_lt hx]
  rw [Tk, cB_sum l x hw hx, show x + 4 * 1 = x + 4 from rfl]
  have hd : dB l x = cB l (x + 4) ^^^ (cB l (x + 1)).rotateLeft 1 := rfl
  rw [BitVec.xor_assoc (bv (gt l x) ^^^ bv (gt l (x + 5)) ^^^ bv (gt l (x + 10)) ^^^ bv (gt l (x + 15)) ^^^ bv (gt l (x + 20))), ← hd]
  generalize bv (gt l x) = a
  generalize bv (gt l (x + 5)) = b
  generalize bv (gt l (x + 10)) = c
  generalize bv (gt l (x + 15)) = d
  generalize bv (gt l (x + 20)) = f
  generalize dB l x = g
  apply BitVec.eq_of_getLsbD_eq
  intro i _
  simp only [BitVec.getLsbD_xor]
  generalize a.getLsbD i = a
  generalize b.getLsbD i = b
  generalize c.getLsbD i = c
  generalize d.getLsbD i = d
  generalize f.getLsbD i = f
  generalize g.getLsbD i = g
  revert a b c d f g
  decide
theorem Tk_xor (k : Nat) (e f : Nat → BitVec 64) (x : Nat) : Tk k (fun x => e x ^^^ f x) x = Tk k e x ^^^ Tk k f x := by
  simp only [Tk, rot_xor]
  generalize e x = a
  generalize e (x + 4 * k) = b
  generalize (e (x + k)).rotateLeft k = c
  generalize f x = a'
  generalize f (x + 4 * k) = b'
  generalize (f (x + k)).rotateLeft k = c'
  apply BitVec.eq_of_getLsbD_eq
  intro i _
  simp only [BitVec.getLsbD_xor]
  generalize a.getLsbD i = a
  generalize b.getLsbD i = b
  generalize c.getLsbD i = c
  generalize a'.getLsbD i = a'
  generalize b'.getLsbD i = b'
  generalize c'.getLsbD i = c'
  revert a b c a' b' c'
  decide
theorem Tk_per (k : Nat) (e : Nat → BitVec 64) (he : Per e) : Per (Tk k e) := fun x => by
  simp only [Tk]
  rw [he, show x + 5 + 4 * k = (x + 4 * k) + 5 by omega, he, show x + 5 + k = (x + k) + 5 by omega, he]
theorem per_mod (e : Nat → BitVec 64) (he : Per e) (x : Nat) : e x = e (x % 5) := by
  have five : ∀ n x, e (x + 5 * n) = e x := by
    intro n
    induction n with
    | zero => intro x; rfl
    | succ n ih => intro x; rw [show x + 5 * (n + 1) = (x + 5 * n) + 5 by omega, he, ih]
  have := five (x / 5) (x % 5)
  rw [show x % 5 + 5 * (x / 5) = x by omega] at this
  exact this
theorem theta_inj (l m : List Int) (hl : l.length = 25) (hm : m.length = 25) (hw : Ws l) (hv : Ws m) (h : theta l = theta m) : l = m := by
  have hp : Per (fun x => cB l x ^^^ cB m x) := fun x => by simp only [cB_per]
  have hz : ∀ x, Tk 1 (fun x => cB l x ^^^ cB m x) x = 0#64 := by
    intro x
    rw [per_mod _ (Tk_per 1 _ hp) x, Tk_xor, ← theta_col l _ hl hw (Nat.mod_lt _ (by decide)), ← theta_col m _ hm hv (Nat.mod_lt _ (by decide)), h, BitVec.xor_self]
  have hc : ∀ x, cB l x = cB m x := by
    intro x
    have h2 := congrArg (· ^^^ cB m x) (T_kernel _ hp hz x)
    simpa only [BitVec.xor_assoc, BitVec.xor_self, BitVec.xor_zero, BitVec.zero_xor] using h2
  apply ext_gt _ _ (by rw [hl, hm])
  intro k hk
  rw [hl] at hk
  have h1 := theta_bv l k hl hk
  have h2 := theta_bv m k hm hk
  have h3 : dB l (k % 5) = dB m (k % 5) := by unfold dB; rw [hc, hc]
  rw [h, h2, h3] at h1
  have h4 := congrArg (· ^^^ dB m (k % 5)) h1
  simp only [BitVec.xor_assoc, BitVec.xor_self, BitVec.xor_zero] at h4
  rw [← (hw.gt k).bv_eq, ← (hv.gt k).bv_eq, h4]

/-! ### rho and pi, and chi -/
theorem pfwd (n : Nat) (hn : n < 25) : ∃ m, m < 25 ∧ pinv m = n := by
  refine ⟨n / 5 + 5 * ((2 * (n % 5) + 3 * (n / 5)) % 5), by omega, ?_⟩
  exact (pinv_spec n _ hn (by omega)).1 rfl
theorem rho_inj (l m : List Int) (hl : l.length = 25) (hm : m.length = 25) (hw : Ws l) (hv : Ws m) (h : rhoB l 25 = rhoB m 25) : l = m := by
  apply ext_gt _ _ (by rw [hl, hm])
  intro k hk
  rw [hl] at hk
  obtain ⟨p, hp, hpk⟩ := pfwd k hk
  have h1 := congrArg (fun z => gt z p) h
  simp only [rhoB_get _ _ _ (Nat.le_refl 25) hp, hpk, if_pos hk] at h1
  exact rotl_inj (hw.gt _) (hv.gt _) h1
theorem bv_not64 (x : Int) : bv (not64 x) = ~~~ bv x := by
  rw [not64, show (if IntKind.u64.signed = true then -1 else IntKind.u64.max) = 18446744073709551615 from rfl, bv_xor, bv_nat, show bv 18446744073709551615 = BitVec.allOnes 64 from by decide]
  exact BitVec.allOnes_xor
theorem chi_bits : ∀ a b c d e a' b' c' d' e' : Bool, (a ^^ (!b && c)) = (a' ^^ (!b' && c')) → (b ^^ (!c && d)) = (b' ^^ (!c' && d')) → (c ^^ (!d && e)) = (c' ^^ (!d' && e')) → (d ^^ (!e && a)) = (d' ^^ (!e' && a')) → (e ^^ (!a && b)) = (e' ^^ (!a' && b')) →
    a = a' ∧ b = b' ∧ c = c' ∧ d = d' ∧ e = e' := by decide
theorem Cx_bit (b : List Int) (k i : Nat) (hi : i < 64) : (bv (Cx b k)).getLsbD i = ((bv (gt b k)).getLsbD i ^^ (!(bv (gt b (k / 5 * 5 + (k % 5 + 1) % 5))).getLsbD i && (bv (gt b (k / 5 * 5 + (k % 5 + 2) % 5))).getLsbD i)) := by
  rw [Cx, X, bv_xor, bv_nat, bv_and, bv_nat, bv_not64, BitVec.getLsbD_xor, BitVec.getLsbD_and, BitVec.getLsbD_not, decide_eq_true hi, Bool.true_and]
theorem chi_inj (b c s t : List Int) (hb : b.length = 25) (hc : c.length = 25) (hs : s.length = 25) (ht : t.length = 25) (hw : Ws b) (hv : Ws c) (h : chiA b s 25 = chiA c t 25) : b = c := by
  have hx : ∀ k, k < 25 → Cx b k = Cx c k := by
    intro k hk
    have h1 := congrArg (fun z => gt z k) h
    simpa only [chiA_get _ _ _ _ hs (Nat.le_refl 25) hk, chiA_get _ _ _ _ ht (Nat.le_refl 25) hk, if_pos hk] using h1
  have row : ∀ y i, y < 5 → i < 64 → ∀ x, x < 5 → (bv (gt b (y * 5 + x))).getLsbD i = (bv (gt c (y * 5 + x))).getLsbD i := by
    intro y i hy hi
    have q : ∀ x, x < 5 → ((bv (gt b (y * 5 + x))).getLsbD i ^^ (!(bv (gt b (y * 5 + (x + 1) % 5))).getLsbD i && (bv (gt b (y * 5 + (x + 2) % 5))).getLsbD i)) = ((bv (gt c (y * 5 + x))).getLsbD i ^^ (!(bv (gt c (y * 5 + (x + 1) % 5))).getLsbD i && (bv (gt c (y * 5 + (x + 2) % 5))).getLsbD i)) := by
      intro x hx5
      have h1 := congrArg (fun z => (bv z).getLsbD i) (hx (y * 5 + x) (by omega))
      simp only [Cx_bit _ _ _ hi] at h1
      rw [show (y * 5 + x) / 5 = y by omega, show (y * 5 + x) % 5 = x by omega] at h1
      exact h1
    have z := chi_bits _ _ _ _ _ _ _ _ _ _ (q 0 (by decide)) (q 1 (by decide)) (q 2 (by decide)) (q 3 (by decide)) (q 4 (by decide))
    intro x hx5
    obtain rfl | rfl | rfl | rfl | rfl : x = 0 ∨ x = 1 ∨ x = 2 ∨ x = 3 ∨ x = 4 := by omega
    · exact z.1
    · exact z.2.1
    · exact z.2.2.1
    · exact z.2.2.2.1
    · exact z.2.2.2.2
  apply ext_gt _ _ (by rw [hb, hc])
  intro k hk
  rw [hb] at hk
  have e : bv (gt b k) = bv (gt c k) := by
    apply BitVec.eq_of_getLsbD_eq
    intro i hi
    have := row (k / 5) i (by omega) hi (k % 5) (by omega)
    rw [show k / 5 * 5 + k % 5 = k by omega] at this
    exact this
  rw [← (hw.gt k).bv_eq, ← (hv.gt k).bv_eq, e]

/-- A round takes unlike states to unlike ones. -/
theorem round_inj (l m : List Int) (i : Nat) (hl : l.length = 25) (hm : m.length = 25) (hw : Ws l) (hv : Ws m) (h : roundS l i = roundS m i) : l = m := by
  have ha : (chiA (rhoB (theta l) 25) (theta l) 25).length = 25 := by rw [chiA_len, theta_len, hl]
  have hb : (chiA (rhoB (theta m) 25) (theta m) 25).length = 25 := by rw [chiA_len, theta_len, hm]
  have h1 : chiA (rhoB (theta l) 25) (theta l) 25 = chiA (rhoB (theta m) 25) (theta m) 25 := by
    apply ext_gt _ _ (by rw [ha, hb])
    intro k hk
    have h2 := congrArg (fun z => gt z k) h
    simp only [roundS, gt_st _ _ _ _ (show 0 < _ from by rw [ha]; decide), gt_st _ _ _ _ (show 0 < _ from by rw [hb]; decide)] at h2
    by_cases e : k = 0
    · rw [if_pos e, if_pos e] at h2
      rw [e]
      exact X_cancel ((chiA_W _ _ (theta_W hw) _).gt _) ((chiA_W _ _ (theta_W hv) _).gt _) h2
    · rw [if_neg e, if_neg e] at h2
      exact h2
  have h2 := chi_inj _ _ _ _ (rhoB_len _ _) (rhoB_len _ _) (by rw [theta_len, hl]) (by rw [theta_len, hm]) (rhoB_W _ _) (rhoB_W _ _) h1
  have h3 := rho_inj _ _ (by rw [theta_len, hl]) (by rw [theta_len, hm]) (theta_W hw) (theta_W hv) h2
  exact theta_inj l m hl hm hw hv h3
theorem permN_inj (n : Nat) (l m : List Int) (hl : l.length = 25) (hm : m.length = 25) (hw : Ws l) (hv : Ws m) (h : permN l n = permN m n) : l = m := by
  induction n with
  | zero => exact h
  | succ n ih => exact ih (round_inj _ _ n (by rw [permN_len, hl]) (by rw [permN_len, hm]) (permN_W hw n) (permN_W hv n) h)
theorem permute_inj (l m : List Int) (hl : l.length = 25) (hm : m.length = 25) (hw : Ws l) (hv : Ws m) : permute l = permute m ↔ l = m :=
  ⟨permN_inj 24 l m hl hm hw hv, fun h => by rw [h]⟩

/-! ### Answers that the document fixes -/
def zs25 : List Int := List.replicate 25 0
theorem zero_round0 : gt (roundS zs25 0) 0 = 1 := by decide +kernel
theorem zero_round1 : gt (roundS zs25 0) 1 = 0 := by decide +kernel
theorem zero_perm : permute zs25 ≠ zs25 := by
  intro h
  have : gt (permute zs25) 0 ≠ 0 := by decide +kernel
  rw [h] at this
  exact this (by decide)

end Go.Proofs.YtfaonieaagepjaaDoor
