/- SHA-512 by its parts: what the code computes, in plain Lean. Conditions: none. -/
import Derived.Test.YteidkdpfjponfaaDoorZA
import Derived.Test.YteidkdpfjponfaaDoorKecPure
namespace Go.Proofs.YteidkdpfjponfaaDoor
open Go.RowKit
set_option linter.unusedVariables false

def k5L : List Int := [4794697086780616226, 8158064640168781261, 13096744586834688815, 16840607885511220156, 4131703408338449720, 6480981068601479193, 10538285296894168987, 12329834152419229976, 15566598209576043074, 1334009975649890238, 2608012711638119052, 6128411473006802146, 8268148722764581231, 9286055187155687089, 11230858885718282805, 13951009754708518548, 16472876342353939154, 17275323862435702243, 1135362057144423861, 2597628984639134821, 3308224258029322869, 5365058923640841347, 6679025012923562964, 8573033837759648693, 10970295158949994411, 12119686244451234320, 12683024718118986047, 13788192230050041572, 14330467153632333762, 15395433587784984357, 489312712824947311, 1452737877330783856, 2861767655752347644, 3322285676063803686, 5560940570517711597, 5996557281743188959, 7280758554555802590, 8532644243296465576, 9350256976987008742, 10552545826968843579, 11727347734174303076, 12113106623233404929, 14000437183269869457, 14369950271660146224, 15101387698204529176, 15463397548674623760, 17586052441742319658, 1182934255886127544, 1847814050463011016, 2177327727835720531, 2830643537854262169, 3796741975233480872, 4115178125766777443, 5681478168544905931, 6601373596472566643, 7507060721942968483, 8399075790359081724, 8693463985226723168, 9568029438360202098, 10144078919501101548, 10430055236837252648, 11840083180663258601, 13761210420658862357, 14299343276471374635, 14566680578165727644, 15097957966210449927, 16922976911328602910, 17689382322260857208, 500013540394364858, 748580250866718886, 1242879168328830382, 1977374033974150939, 2944078676154940804, 3659926193048069267, 4368137639120453308, 4836135668995329356, 5532061633213252278, 6448918945643986474, 6902733635092675308, 7801388544844847127]
def f5L : List Int := [7640891576956012808, 13503953896175478587, 4354685564936845355, 11912009170470909681, 5840696475078001361, 11170449401992604703, 2270897969802886507, 6620516959819538809]
theorem st_st5 (l : List Int) (i : Nat) (x y : Int) : st (st l i x) i y = st l i y := by simp [st]
theorem st_self5 (l : List Int) (i : Nat) (h : i < l.length) : st l i (gt l i) = l := by
  apply ext_gt _ _ (by simp [st_len])
  intro j hj
  rw [gt_st _ _ _ _ h]
  split
  · rename_i e; rw [e]
  · rfl
theorem k5_len : k5L.length = 80 := by decide
theorem f5_len : f5L.length = 8 := by decide
theorem k5_W : Ws k5L := by unfold Ws W64; decide
theorem f5_W : Ws f5L := by unfold Ws W64; decide
def S5Tab (w : World) : Prop := Tab w 3 .u64 k5L ∧ Tab w 2 .u64 f5L

/-- Sums within 64 bits. -/
def ad (a b : Int) : Int := IntKind.u64.wrap (a + b)
theorem ad_W (a b : Int) : W64 (ad a b) := by unfold ad W64; rw [IntKind.wrap_u64]; omega
def rr (x : Int) (n : Nat) : Int := rotl x (64 - n)
theorem rr_W (x : Int) (n : Nat) : W64 (rr x n) := W64_rotl _ _
def sg0 (x : Int) : Int := X (X (rr x 1) (rr x 8)) (x / 128)
def sg1 (x : Int) : Int := X (X (rr x 19) (rr x 61)) (x / 64)
def S0 (x : Int) : Int := X (X (rr x 28) (rr x 34)) (rr x 39)
def S1 (x : Int) : Int := X (X (rr x 14) (rr x 18)) (rr x 41)
abbrev N64 (a b : Int) : Int := bits .and .u64 a b
def ch (e f g : Int) : Int := X (N64 e f) (N64 (not64 e) g)
def maj (a b c : Int) : Int := X (X (N64 a b) (N64 a c)) (N64 b c)
def mixP (l : List Int) (t : Nat) : Int := ad (ad (ad (gt l (t - 16)) (sg0 (gt l (t - 15)))) (gt l (t - 7))) (sg1 (gt l (t - 2)))
theorem mixP_W (l : List Int) (t : Nat) : W64 (mixP l t) := ad_W _ _
/-- The schedule, word by word. -/
def sched (b : List Int) : Nat → List Int
  | 0 => List.replicate 80 0
  | t + 1 => st (sched b t) t (if t < 16 then beN (b.drop (8 * t)) 8 else mixP (sched b t) t)
theorem sched_len (b : List Int) (t : Nat) : (sched b t).length = 80 := by
  induction t with
  | zero => simp [sched]
  | succ t ih => rw [sched, st_len, ih]
theorem be8_W {l : List Int} (h : Bys l) : W64 (beN l 8) := by
  have := beN_bd h 8
  exact ⟨this.1, by have e : (256 : Int) ^ 8 = 18446744073709551616 := by decide
                    omega⟩
theorem sched_W {b : List Int} (h : Bys b) (t : Nat) : Ws (sched b t) := by
  induction t with
  | zero => exact Ws.zeros 80
  | succ t ih =>
    rw [sched]
    refine ih.st _ ?_
    split
    · exact be8_W (h.drop _)
    · exact mixP_W _ _
/-- What stands once, stays. -/
theorem sched_keep (b : List Int) (t : Nat) : ∀ m, t < m → m ≤ 80 → gt (sched b m) t = gt (sched b (t + 1)) t
  | 0, h, _ => absurd h (by omega)
  | m + 1, h, hm => by
    by_cases e : t = m
    · rw [e]
    · have := sched_keep b t m (by omega) (by omega)
      rw [sched, gt_st _ _ _ _ (by rw [sched_len]; omega), if_neg e, this]
def t1P (s : List Int) (k w : Int) : Int := ad (ad (ad (ad (gt s 7) (S1 (gt s 4))) (ch (gt s 4) (gt s 5) (gt s 6))) k) w
def t2P (s : List Int) : Int := ad (S0 (gt s 0)) (maj (gt s 0) (gt s 1) (gt s 2))
def rnd (s : List Int) (k w : Int) : List Int := [ad (t1P s k w) (t2P s), gt s 0, gt s 1, gt s 2, ad (gt s 3) (t1P s k w), gt s 4, gt s 5, gt s 6]
def rnds (b s : List Int) : Nat → List Int
  | 0 => s
  | t + 1 => rnd (rnds b s t) (gt k5L t) (gt (sched b (t + 1)) t)
theorem rnds_len (b : List Int) {s : List Int} (h : s.length = 8) (t : Nat) : (rnds b s t).length = 8 := by
  cases t with
  | zero => exact h
  | succ t => rfl
theorem rnds_W (b : List Int) {s : List Int} (h : Ws s) (t : Nat) : Ws (rnds b s t) := by
  induction t with
  | zero => exact h
  | succ t ih =>
    intro x hx
    simp only [rnds, rnd, List.mem_cons, List.not_mem_nil, or_false] at hx
    rcases hx with rfl | rfl | rfl | rfl | rfl | rfl | rfl | rfl
    · exact ad_W _ _
    · exact ih.gt _
    · exact ih.gt _
    · exact ih.gt _
    · exact ad_W _ _
    · exact ih.gt _
    · exact ih.gt _
    · exact ih.gt _
def addN (s z : List Int) : Nat → List Int
  | 0 => z
  | i + 1 => st (addN s z i) i (ad (gt (addN s z i) i) (gt s i))
theorem addN_len (s z : List Int) (i : Nat) : (addN s z i).length = z.length := by
  induction i with
  | zero => rfl
  | succ i ih => rw [addN, st_len, ih]
theorem addN_W (s : List Int) {z : List Int} (h : Ws z) (i : Nat) : Ws (addN s z i) := by
  induction i with
  | zero => exact h
  | succ i ih => exact ih.st _ (ad_W _ _)
/-- The state behind a block. -/
def turn5 (s b : List Int) : List Int := addN s (rnds b s 80) 8
theorem turn5_len {s : List Int} (b : List Int) (h : s.length = 8) : (turn5 s b).length = 8 := by rw [turn5, addN_len, rnds_len b h]
theorem turn5_W {s : List Int} (b : List Int) (h : Ws s) : Ws (turn5 s b) := addN_W _ (rnds_W b h _) _
theorem gt_addN (s z : List Int) (j : Nat) : ∀ i, i ≤ z.length → gt (addN s z i) j = if j < i then ad (gt z j) (gt s j) else gt z j
  | 0, _ => by rw [addN]; simp
  | i + 1, hi => by
    rw [addN, gt_st _ _ _ _ (by rw [addN_len]; omega), gt_addN s z j i (by omega), gt_addN s z i i (by omega), if_neg (Nat.lt_irrefl i)]
    by_cases h : j = i
    · subst h; rw [if_pos rfl, if_pos (by omega)]
    · rw [if_neg h]
      by_cases h2 : j < i
      · rw [if_pos h2, if_pos (by omega)]
      · rw [if_neg h2, if_neg (by omega)]

end Go.Proofs.YteidkdpfjponfaaDoor
