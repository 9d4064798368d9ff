/- SHA-256 by its parts: what the code computes, in plain Lean. Conditions: none. -/
import Derived.Test.YtfaonieaagepjaaDoorZA
namespace Go.Proofs.YtfaonieaagepjaaDoor
open Go.RowKit
set_option linter.unusedVariables false

def k2L : List Int := [1116352408, 1899447441, 3049323471, 3921009573, 961987163, 1508970993, 2453635748, 2870763221, 3624381080, 310598401, 607225278, 1426881987, 1925078388, 2162078206, 2614888103, 3248222580, 3835390401, 4022224774, 264347078, 604807628, 770255983, 1249150122, 1555081692, 1996064986, 2554220882, 2821834349, 2952996808, 3210313671, 3336571891, 3584528711, 113926993, 338241895, 666307205, 773529912, 1294757372, 1396182291, 1695183700, 1986661051, 2177026350, 2456956037, 2730485921, 2820302411, 3259730800, 3345764771, 3516065817, 3600352804, 4094571909, 275423344, 430227734, 506948616, 659060556, 883997877, 958139571, 1322822218, 1537002063, 1747873779, 1955562222, 2024104815, 2227730452, 2361852424, 2428436474, 2756734187, 3204031479, 3329325298]
def f2L : List Int := [1779033703, 3144134277, 1013904242, 2773480762, 1359893119, 2600822924, 528734635, 1541459225]
theorem k2_len : k2L.length = 64 := by decide
theorem f2_len : f2L.length = 8 := by decide
theorem k2_W : Ww k2L := by unfold Ww W32; decide
theorem f2_W : Ww f2L := by unfold Ww W32; decide
def S2Tab (w : World) : Prop := Tab w 1 .u32 k2L ∧ Tab w 0 .u32 f2L

abbrev Xw (a b : Int) : Int := bits .xor .u32 a b
theorem Xw_comm (a b : Int) : Xw a b = Xw b a := by rw [Xw, Xw, bw_xor, bw_xor, BitVec.xor_comm]
abbrev Nw (a b : Int) : Int := bits .and .u32 a b
def notw (x : Int) : Int := bits .xor .u32 (if IntKind.u32.signed = true then -1 else IntKind.u32.max) x
/-- Sums within 32 bits. -/
def aw (a b : Int) : Int := IntKind.u32.wrap (a + b)
theorem aw_W (a b : Int) : W32 (aw a b) := by unfold aw W32; rw [IntKind.wrap_u32]; omega
def rw2 (x : Int) (n : Nat) : Int := rotw x (32 - n)
theorem rw2_W (x : Int) (n : Nat) : W32 (rw2 x n) := W32_rotw _ _
def sw0 (x : Int) : Int := Xw (Xw (rw2 x 7) (rw2 x 18)) (x / 8)
def sw1 (x : Int) : Int := Xw (Xw (rw2 x 17) (rw2 x 19)) (x / 1024)
def Sw0 (x : Int) : Int := Xw (Xw (rw2 x 2) (rw2 x 13)) (rw2 x 22)
def Sw1 (x : Int) : Int := Xw (Xw (rw2 x 6) (rw2 x 11)) (rw2 x 25)
def chw (e f g : Int) : Int := Xw (Nw e f) (Nw (notw e) g)
def majw (a b c : Int) : Int := Xw (Xw (Nw a b) (Nw a c)) (Nw b c)
def mixW (l : List Int) (t : Nat) : Int := aw (aw (aw (gt l (t - 16)) (sw0 (gt l (t - 15)))) (gt l (t - 7))) (sw1 (gt l (t - 2)))
theorem mixW_W (l : List Int) (t : Nat) : W32 (mixW l t) := aw_W _ _
/-- The schwule, word by word. -/
def schw (b : List Int) : Nat → List Int
  | 0 => List.replicate 64 0
  | t + 1 => st (schw b t) t (if t < 16 then beN (b.drop (4 * t)) 4 else mixW (schw b t) t)
theorem schw_len (b : List Int) (t : Nat) : (schw b t).length = 64 := by
  induction t with
  | zero => simp [schw]
  | succ t ih => rw [schw, st_len, ih]
theorem be4_W {l : List Int} (h : Bys l) : W32 (beN l 4) := by
  have := beN_bd h 4
  exact ⟨this.1, by have e : (256 : Int) ^ 4 = 4294967296 := by decide
                    omega⟩
theorem schw_W {b : List Int} (h : Bys b) (t : Nat) : Ww (schw b t) := by
  induction t with
  | zero => exact Ww.zeros 64
  | succ t ih =>
    rw [schw]
    refine ih.st _ ?_
    split
    · exact be4_W (h.drop _)
    · exact mixW_W _ _
/-- What stands once, stays. -/
theorem schw_keep (b : List Int) (t : Nat) : ∀ m, t < m → m ≤ 64 → gt (schw b m) t = gt (schw b (t + 1)) t
  | 0, h, _ => absurd h (by omega)
  | m + 1, h, hm => by
    by_cases e : t = m
    · rw [e]
    · have := schw_keep b t m (by omega) (by omega)
      rw [schw, gt_st _ _ _ _ (by rw [schw_len]; omega), if_neg e, this]
def t1W (s : List Int) (k w : Int) : Int := aw (aw (aw (aw (gt s 7) (Sw1 (gt s 4))) (chw (gt s 4) (gt s 5) (gt s 6))) k) w
def t2W (s : List Int) : Int := aw (Sw0 (gt s 0)) (majw (gt s 0) (gt s 1) (gt s 2))
def rndw (s : List Int) (k w : Int) : List Int := [aw (t1W s k w) (t2W s), gt s 0, gt s 1, gt s 2, aw (gt s 3) (t1W s k w), gt s 4, gt s 5, gt s 6]
def rndsw (b s : List Int) : Nat → List Int
  | 0 => s
  | t + 1 => rndw (rndsw b s t) (gt k2L t) (gt (schw b (t + 1)) t)
theorem rndsw_len (b : List Int) {s : List Int} (h : s.length = 8) (t : Nat) : (rndsw b s t).length = 8 := by
  cases t with
  | zero => exact h
  | succ t => rfl
theorem rndsw_W (b : List Int) {s : List Int} (h : Ww s) (t : Nat) : Ww (rndsw b s t) := by
  induction t with
  | zero => exact h
  | succ t ih =>
    intro x hx
    simp only [rndsw, rndw, List.mem_cons, List.not_mem_nil, or_false] at hx
    rcases hx with rfl | rfl | rfl | rfl | rfl | rfl | rfl | rfl
    · exact aw_W _ _
    · exact ih.gt _
    · exact ih.gt _
    · exact ih.gt _
    · exact aw_W _ _
    · exact ih.gt _
    · exact ih.gt _
    · exact ih.gt _
def addw (s z : List Int) : Nat → List Int
  | 0 => z
  | i + 1 => st (addw s z i) i (aw (gt (addw s z i) i) (gt s i))
theorem addw_len (s z : List Int) (i : Nat) : (addw s z i).length = z.length := by
  induction i with
  | zero => rfl
  | succ i ih => rw [addw, st_len, ih]
theorem addw_W (s : List Int) {z : List Int} (h : Ww z) (i : Nat) : Ww (addw s z i) := by
  induction i with
  | zero => exact h
  | succ i ih => exact ih.st _ (aw_W _ _)
/-- The state behind a block. -/
def turn2 (s b : List Int) : List Int := addw s (rndsw b s 64) 8
theorem turn2_len {s : List Int} (b : List Int) (h : s.length = 8) : (turn2 s b).length = 8 := by rw [turn2, addw_len, rndsw_len b h]
theorem turn2_W {s : List Int} (b : List Int) (h : Ww s) : Ww (turn2 s b) := addw_W _ (rndsw_W b h _) _
theorem gt_addw (s z : List Int) (j : Nat) : ∀ i, i ≤ z.length → gt (addw s z i) j = if j < i then aw (gt z j) (gt s j) else gt z j
  | 0, _ => by rw [addw]; simp
  | i + 1, hi => by
    rw [addw, gt_st _ _ _ _ (by rw [addw_len]; omega), gt_addw s z j i (by omega), gt_addw s z i i (by omega), if_neg (Nat.lt_irrefl i)]
    by_cases h : j = i
    · subst h; rw [if_pos rfl, if_pos (by omega)]
    · rw [if_neg h]
      by_cases h2 : j < i
      · rw [if_pos h2, if_pos (by omega)]
      · rw [if_neg h2, if_neg (by omega)]

end Go.Proofs.YtfaonieaagepjaaDoor
