/- Layer 14: one contract for each function, whatever comes in: a row, or none. Conditions: small lengths, the tables. -/
import Derived.Test.YtfaonieaagepjaaDoorA4J
namespace Go.Proofs.YtfaonieaagepjaaDoor
open Go.RowKit
set_option linter.unusedVariables false
set_option linter.unusedSimpArgs false
theorem OutP.r {w : World} {L : List Int} {n : Nat} {e : Ending} {w' : World} (h : OutP w L n e w') (hn : L.length = n) : OutR w L n e w' := by
  obtain ⟨A, c, he, hF, hb⟩ := h
  exact ⟨A, c, he, hF.rd, by have := hF.cap; omega, hb⟩
theorem NilP.r {w : World} {e : Ending} {w' : World} (h : NilP w e w') : OutR w [] 0 e w' := ⟨none, 0, h.1, Rd.nil, Nat.le_refl _, h.2⟩
theorem OutR.to {w : World} {L : List Int} {n m : Nat} {e : Ending} {w' : World} (h : OutR w L n e w') (hm : n = m) : OutR w L m e w' := hm ▸ h
theorem OutR.is {w : World} {L L' : List Int} {n m : Nat} {e : Ending} {w' : World} (h : OutR w L n e w') (hL : L = L') (hm : n = m) : OutR w L' m e w' := hm ▸ hL ▸ h
/-- Same, with what it leaves. -/
theorem same_to (w : World) (A A' : Option Addr) (l m : List Int) (n n' c c' : Nat) (b : Bool) (hA : Rd w w.heap.size .u8 A l) (hB : Rd w w.heap.size .u8 A' m) (hn : l.length = n) (hn' : m.length = n') (hm : n' ≤ 9223372036854775807) (hb : decide (l = m) = b) :
    Calls Tryd.prog 13 #[.slice A n c, .slice A' n' c'] w fun e w' => e = .returned (.bool b) ∧ Below w.heap.size w w' := by
  subst hn hn' hb
  refine (same_any w A A' l m c c' _ _ hA hB hm).mono ?_
  rintro e w' ⟨rfl, q, rfl⟩
  exact ⟨rfl, bdr (Below.refl _ _) q⟩
theorem same_is_b (w : World) (A A' : Option Addr) (l : List Int) (n c c' : Nat) (hA : Rd w w.heap.size .u8 A l) (hB : Rd w w.heap.size .u8 A' l) (hn : l.length = n) (hm : n ≤ 9223372036854775807) :
    Calls Tryd.prog 13 #[.slice A n c, .slice A' n c'] w fun e w' => e = .returned (.bool true) ∧ Below w.heap.size w w' := same_to w A A' l l n n c c' true hA hB hn hn hm (decide_eq_true rfl)
def fO (seed : List Int) (d : Ad) (x : List Int) : List Int := if seed.length = 32 ∧ x.length = 32 then fL seed d x else []
def hO (seed : List Int) (d : Ad) (x y : List Int) : List Int := if seed.length = 32 ∧ x.length = 32 ∧ y.length = 32 then hL seed d x y else []
def twO (N : Int) (seed : List Int) (d : Ad) (x : List Int) : List Int := if (N = 16 ∨ N = 24 ∨ N = 32) ∧ N = seed.length then twL seed.length seed d x else []
theorem fO_len (seed : List Int) (d : Ad) (x : List Int) : (fO seed d x).length ≤ 32 := by
  unfold fO; split
  · rw [fL_len]; exact Nat.le_refl _
  · exact Nat.zero_le _
theorem hO_len (seed : List Int) (d : Ad) (x y : List Int) : (hO seed d x y).length ≤ 32 := by
  unfold hO; split
  · rw [hL_len]; exact Nat.le_refl _
  · exact Nat.zero_le _
theorem twO_len (N : Int) (seed : List Int) (d : Ad) (x : List Int) : (twO N seed d x).length ≤ 32 := by
  unfold twO; split
  · rename_i h; rw [twL_len]; omega
  · exact Nat.zero_le _
theorem f_o (seed : List Int) (d : Ad) (x : List Int) (A A' : Option Addr) (n c n' c' m : Nat) (w : World) (hd : d.ok) (h1 : Rd w w.heap.size .u8 A seed) (hn1 : seed.length = n) (hc1 : n ≤ c) (hb1 : Bys seed) (h2 : Rd w w.heap.size .u8 A' x) (hn2 : x.length = n') (hc2 : n' ≤ c') (hb2 : Bys x) (hT : S2Tb w) (hm : (fO seed d x).length = m) :
    Calls Tryd.prog 37 #[.slice A n c, .agg d.cs, .slice A' n' c'] w (OutR w (fO seed d x) m) := by
  subst hm
  by_cases hok : n = 32 ∧ n' = 32
  · have e : fO seed d x = fL seed d x := if_pos (by omega)
    rw [e]
    exact (f_any seed d x A A' n c n' c' w hd h1 hn1 hc1 hb1 h2 hn2 hc2 hb2 hT hok).mono fun _ _ h => (h.r (fL_len _ _ _)).to (fL_len _ _ _).symm
  · have e : fO seed d x = [] := if_neg (by omega)
    rw [e]
    exact (f_no seed d x A A' n c n' c' w hd h1 hn1 hc1 hb1 h2 hn2 hc2 hb2 hT hok).mono fun _ _ h => h.r
theorem h_o (seed : List Int) (d : Ad) (x y : List Int) (A A' A2 : Option Addr) (n c n' c' n2 c2 m : Nat) (w : World) (hd : d.ok) (h1 : Rd w w.heap.size .u8 A seed) (hn1 : seed.length = n) (hc1 : n ≤ c) (hb1 : Bys seed) (h2 : Rd w w.heap.size .u8 A' x) (hn2 : x.length = n') (hc2 : n' ≤ c') (hb2 : Bys x) (h3 : Rd w w.heap.size .u8 A2 y) (hn3 : y.length = n2) (hc3 : n2 ≤ c2) (hb3 : Bys y) (hT : S2Tb w) (hm : (hO seed d x y).length = m) :
    Calls Tryd.prog 39 #[.slice A n c, .agg d.cs, .slice A' n' c', .slice A2 n2 c2] w (OutR w (hO seed d x y) m) := by
  subst hm
  by_cases hok : n = 32 ∧ n' = 32 ∧ n2 = 32
  · have e : hO seed d x y = hL seed d x y := if_pos (by omega)
    rw [e]
    exact (h_any seed d x y A A' A2 n c n' c' n2 c2 w hd h1 hn1 hc1 hb1 h2 hn2 hc2 hb2 h3 hn3 hc3 hb3 hT hok).mono fun _ _ h => (h.r (hL_len _ _ _ _)).to (hL_len _ _ _ _).symm
  · have e : hO seed d x y = [] := if_neg (by omega)
    rw [e]
    exact (h_no seed d x y A A' A2 n c n' c' n2 c2 w hd h1 hn1 hc1 hb1 h2 hn2 hc2 hb2 h3 hn3 hc3 hb3 hT hok).mono fun _ _ h => h.r
theorem tw_o (N : Int) (seed : List Int) (d : Ad) (x : List Int) (A A' : Option Addr) (n c n' c' m : Nat) (w : World) (hd : d.ok) (h1 : Rd w w.heap.size .u8 A seed) (hn1 : seed.length = n) (hc1 : n ≤ c) (hb1 : Bys seed) (h2 : Rd w w.heap.size .u8 A' x) (hn2 : x.length = n') (hc2 : n' ≤ c') (hb2 : Bys x) (hl2 : n' ≤ 300000) (hT : KTab w) (hm : (twO N seed d x).length = m) :
    Calls Tryd.prog 41 #[.int .i64 N, .slice A n c, .agg d.cs, .slice A' n' c'] w (OutR w (twO N seed d x) m) := by
  subst hm
  by_cases hk16 : N = 16
  · by_cases hok : n = 16
    · have e : twO N seed d x = twL 16 seed d x := by
        unfold twO; rw [if_pos ⟨by omega, by omega⟩, show seed.length = 16 by omega]
      rw [e]
      exact (tw_16 seed d x A A' n c n' c' N w hd h1 hn1 hc1 hb1 h2 hn2 hc2 hl2 hb2 hT hk16 hok).mono fun _ _ h => (h.r (twL_len _ _ _ _)).to (twL_len _ _ _ _).symm
    · have e : twO N seed d x = [] := if_neg (by omega)
      rw [e]
      exact (twno_16 seed d x A A' n c n' c' N w hd h1 hn1 hc1 hb1 h2 hn2 hc2 hl2 hb2 hT hk16 hok).mono fun _ _ h => h.r
  by_cases hk24 : N = 24
  · by_cases hok : n = 24
    · have e : twO N seed d x = twL 24 seed d x := by
        unfold twO; rw [if_pos ⟨by omega, by omega⟩, show seed.length = 24 by omega]
      rw [e]
      exact (tw_24 seed d x A A' n c n' c' N w hd h1 hn1 hc1 hb1 h2 hn2 hc2 hl2 hb2 hT hk24 hok).mono fun _ _ h => (h.r (twL_len _ _ _ _)).to (twL_len _ _ _ _).symm
    · have e : twO N seed d x = [] := if_neg (by omega)
      rw [e]
      exact (twno_24 seed d x A A' n c n' c' N w hd h1 hn1 hc1 hb1 h2 hn2 hc2 hl2 hb2 hT hk24 hok).mono fun _ _ h => h.r
  by_cases hk32 : N = 32
  · by_cases hok : n = 32
    · have e : twO N seed d x = twL 32 seed d x := by
        unfold twO; rw [if_pos ⟨by omega, by omega⟩, show seed.length = 32 by omega]
      rw [e]
      exact (tw_32 seed d x A A' n c n' c' N w hd h1 hn1 hc1 hb1 h2 hn2 hc2 hl2 hb2 hT hk32 hok).mono fun _ _ h => (h.r (twL_len _ _ _ _)).to (twL_len _ _ _ _).symm
    · have e : twO N seed d x = [] := if_neg (by omega)
      rw [e]
      exact (twno_32 seed d x A A' n c n' c' N w hd h1 hn1 hc1 hb1 h2 hn2 hc2 hl2 hb2 hT hk32 hok).mono fun _ _ h => h.r
  have e : twO N seed d x = [] := if_neg (by omega)
  rw [e]
  exact (tw_no seed d x A A' n c n' c' N w hd h1 hn1 hc1 hb1 h2 hn2 hc2 hl2 hb2 hT ⟨hk16, hk24, hk32⟩).mono fun _ _ h => h.r
theorem rf_o (seed : List Int) (d : Ad) (x : List Int) (A A' : Option Addr) (n c n' c' m : Nat) (w : World) (hd : d.ok) (h1 : Rd w w.heap.size .u8 A seed) (hn1 : seed.length = n) (hc1 : n ≤ c) (hb1 : Bys seed) (h2 : Rd w w.heap.size .u8 A' x) (hn2 : x.length = n') (hc2 : n' ≤ c') (hb2 : Bys x) (hm : (fO seed d x).length = m) :
    Calls Tryd.prog 38 #[.slice A n c, .agg d.cs, .slice A' n' c'] w (OutR w (fO seed d x) m) := by
  subst hm
  by_cases hok : n = 32 ∧ n' = 32
  · have e : fO seed d x = fL seed d x := if_pos (by omega)
    rw [e]
    exact (rf_any seed d x A A' n c n' c' w hd h1 hn1 hc1 hb1 h2 hn2 hc2 hb2 hok).mono fun _ _ h => (h.r (fL_len _ _ _)).to (fL_len _ _ _).symm
  · have e : fO seed d x = [] := if_neg (by omega)
    rw [e]
    exact (rf_no seed d x A A' n c n' c' w hd h1 hn1 hc1 hb1 h2 hn2 hc2 hb2 hok).mono fun _ _ h => h.r
theorem rh_o (seed : List Int) (d : Ad) (x y : List Int) (A A' A2 : Option Addr) (n c n' c' n2 c2 m : Nat) (w : World) (hd : d.ok) (h1 : Rd w w.heap.size .u8 A seed) (hn1 : seed.length = n) (hc1 : n ≤ c) (hb1 : Bys seed) (h2 : Rd w w.heap.size .u8 A' x) (hn2 : x.length = n') (hc2 : n' ≤ c') (hb2 : Bys x) (h3 : Rd w w.heap.size .u8 A2 y) (hn3 : y.length = n2) (hc3 : n2 ≤ c2) (hb3 : Bys y) (hm : (hO seed d x y).length = m) :
    Calls Tryd.prog 40 #[.slice A n c, .agg d.cs, .slice A' n' c', .slice A2 n2 c2] w (OutR w (hO seed d x y) m) := by
  subst hm
  by_cases hok : n = 32 ∧ n' = 32 ∧ n2 = 32
  · have e : hO seed d x y = hL seed d x y := if_pos (by omega)
    rw [e]
    exact (rh_any seed d x y A A' A2 n c n' c' n2 c2 w hd h1 hn1 hc1 hb1 h2 hn2 hc2 hb2 h3 hn3 hc3 hb3 hok).mono fun _ _ h => (h.r (hL_len _ _ _ _)).to (hL_len _ _ _ _).symm
  · have e : hO seed d x y = [] := if_neg (by omega)
    rw [e]
    exact (rh_no seed d x y A A' A2 n c n' c' n2 c2 w hd h1 hn1 hc1 hb1 h2 hn2 hc2 hb2 h3 hn3 hc3 hb3 hok).mono fun _ _ h => h.r
theorem rtw_o (N : Int) (seed : List Int) (d : Ad) (x : List Int) (A A' : Option Addr) (n c n' c' m : Nat) (w : World) (hd : d.ok) (h1 : Rd w w.heap.size .u8 A seed) (hn1 : seed.length = n) (hc1 : n ≤ c) (hb1 : Bys seed) (h2 : Rd w w.heap.size .u8 A' x) (hn2 : x.length = n') (hc2 : n' ≤ c') (hb2 : Bys x) (hl2 : n' ≤ 300000) (hm : (twO N seed d x).length = m) :
    Calls Tryd.prog 42 #[.int .i64 N, .slice A n c, .agg d.cs, .slice A' n' c'] w (OutR w (twO N seed d x) m) := by
  subst hm
  by_cases hk16 : N = 16
  · by_cases hok : n = 16
    · have e : twO N seed d x = twL 16 seed d x := by
        unfold twO; rw [if_pos ⟨by omega, by omega⟩, show seed.length = 16 by omega]
      rw [e]
      exact (rtw_16 seed d x A A' n c n' c' N w hd h1 hn1 hc1 hb1 h2 hn2 hc2 hl2 hb2 hk16 hok).mono fun _ _ h => h.to (twL_len _ _ _ _).symm
    · have e : twO N seed d x = [] := if_neg (by omega)
      rw [e]
      exact (rtwno_16 seed d x A A' n c n' c' N w hd h1 hn1 hc1 hb1 h2 hn2 hc2 hl2 hb2 hk16 hok).mono fun _ _ h => h.r
  by_cases hk24 : N = 24
  · by_cases hok : n = 24
    · have e : twO N seed d x = twL 24 seed d x := by
        unfold twO; rw [if_pos ⟨by omega, by omega⟩, show seed.length = 24 by omega]
      rw [e]
      exact (rtw_24 seed d x A A' n c n' c' N w hd h1 hn1 hc1 hb1 h2 hn2 hc2 hl2 hb2 hk24 hok).mono fun _ _ h => h.to (twL_len _ _ _ _).symm
    · have e : twO N seed d x = [] := if_neg (by omega)
      rw [e]
      exact (rtwno_24 seed d x A A' n c n' c' N w hd h1 hn1 hc1 hb1 h2 hn2 hc2 hl2 hb2 hk24 hok).mono fun _ _ h => h.r
  by_cases hk32 : N = 32
  · by_cases hok : n = 32
    · have e : twO N seed d x = twL 32 seed d x := by
        unfold twO; rw [if_pos ⟨by omega, by omega⟩, show seed.length = 32 by omega]
      rw [e]
      exact (rtw_32 seed d x A A' n c n' c' N w hd h1 hn1 hc1 hb1 h2 hn2 hc2 hl2 hb2 hk32 hok).mono fun _ _ h => h.to (twL_len _ _ _ _).symm
    · have e : twO N seed d x = [] := if_neg (by omega)
      rw [e]
      exact (rtwno_32 seed d x A A' n c n' c' N w hd h1 hn1 hc1 hb1 h2 hn2 hc2 hl2 hb2 hk32 hok).mono fun _ _ h => h.r
  have e : twO N seed d x = [] := if_neg (by omega)
  rw [e]
  exact (rtw_no seed d x A A' n c n' c' N w hd h1 hn1 hc1 hb1 h2 hn2 hc2 hl2 hb2 ⟨hk16, hk24, hk32⟩).mono fun _ _ h => h.r
end Go.Proofs.YtfaonieaagepjaaDoor
