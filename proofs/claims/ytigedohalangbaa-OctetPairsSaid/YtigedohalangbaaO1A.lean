/- bytes.Equal, octet.Same. Conditions: the slices read as bytes. -/
import Derived.Test.YtigedohalangbaaInf
import Derived.Laws.BytesArg
import Derived.Outline
namespace Go.Proofs.Ytigedohalangbaa
open Go.RowKit
set_option linter.unusedVariables false
set_option linter.unusedSimpArgs false

theorem run_conv_rd {P : Program} (w : World) (src e dst : TypeId) (hs : P.underlying src = some (.slice e)) (he : P.underlying e = some (.int .u8)) (hd : P.underlying dst = some .string) (A : Option Addr) (l : List Int) (B n c : Nat) (hr : Rd w B .u8 A l) (hn : l.length = n) :
    (convert src dst (.slice A n c)).run P w = .ok (.string (strOfNums l)) w := by
  cases A with
  | none =>
    have hl0 : l = [] := by
      rcases Nat.eq_zero_or_pos l.length with h | h
      · exact List.eq_nil_of_length_eq_zero h
      · obtain ⟨ad, h1, _⟩ := hr h; cases h1
    subst hl0
    rw [run_convert_bytes_nil w src e hs he n c dst hd]
    rfl
  | some ad =>
    have hl : (loadCells ad n).run P w = .ok (l.map (Value.int .u8)).toArray w := by
      have := run_loadCells_list (P := P) w ad (l.map (Value.int .u8)) (fun j v hj => by
        have hjl : j < l.length := by
          have := (List.getElem?_eq_some_iff.1 hj).1
          simpa using this
        obtain ⟨ad', e', _, hc⟩ := hr (by omega)
        injection e' with e'
        subst e'
        rw [hc j hjl]
        simp [List.getElem?_eq_getElem hjl] at hj
        subst hj
        simp [gt, hjl])
      simpa [hn] using this
    rw [run_convert_bytes_string w src dst e _ n c hs he hd, run_bytesToString w _ n c l hl, foldl_push_bytes]
    simp [strOfNums, ByteArray.empty, ByteArray.emptyWithCapacity]
    rfl
theorem str_inj {l m : List Int} (hl : Bys l) (hm : Bys m) (h : strOfNums l = strOfNums m) : l = m := by
  have h2 : l.map (fun n => UInt8.ofNat n.toNat) = m.map (fun n => UInt8.ofNat n.toNat) := by
    have := congrArg (fun s : ByteArray => s.data.toList) h
    simpa [strOfNums_data] using this
  have hlen : l.length = m.length := by simpa using congrArg List.length h2
  apply ext_gt _ _ hlen
  intro i hi
  have h3 := congrArg (fun x : List UInt8 => (x.getD i 0).toNat) h2
  have e1 : ((l.map (fun n => UInt8.ofNat n.toNat)).getD i 0).toNat = (gt l i).toNat := by
    have hb := hl.gt i
    simp [gt, List.getD_eq_getElem?_getD, hi]
    simp [gt, List.getD_eq_getElem?_getD, hi] at hb
    have := hb.2; omega
  have hi' : i < m.length := by omega
  have e2 : ((m.map (fun n => UInt8.ofNat n.toNat)).getD i 0).toNat = (gt m i).toNat := by
    have hb := hm.gt i
    simp [gt, List.getD_eq_getElem?_getD, hi']
    simp [gt, List.getD_eq_getElem?_getD, hi'] at hb
    have := hb.2; omega
  have h4 : (gt l i).toNat = (gt m i).toNat := by rw [← e1, ← e2]; exact h3
  have := (hl.gt i).1
  have := (hm.gt i).1
  omega
theorem equal_any (b : Bool) (w : World) (A A' : Option Addr) (l m : List Int) (n n' c c' B B' : Nat) (hA : Rd w B .u8 A l) (hB : Rd w B' .u8 A' m) (hn : l.length = n) (hn' : m.length = n') (hl : Bys l) (hm : Bys m) (hb : decide (l = m) = b) :
    Calls Try.prog 46 #[.slice A n c, .slice A' n' c'] w fun e w' => e = .returned (.bool b) ∧ w = w' := by
  have h1 := run_conv_rd (P := Try.prog) w 22 5 9 Try.underlying22 Try.underlying5 Try.underlying9 A l B n c hA hn
  have h2 := run_conv_rd (P := Try.prog) w 22 5 9 Try.underlying22 Try.underlying5 Try.underlying9 A' m B' n' c' hB hn'
  go_enter Try.func46, Try.ntmps46
  go_wp2_with fail
  go_ret
  refine ⟨?_, rfl⟩
  have h : ((strOfNums l).toList == (strOfNums m).toList) = b := by
    rw [← hb]
    by_cases e : l = m
    · subst e; simp
    · rw [decide_eq_false e, beq_eq_false_iff_ne]
      intro he
      rw [Go.ByteArray.toList_eq, Go.ByteArray.toList_eq] at he
      exact e (str_inj hl hm (by
        have : (strOfNums l).data = (strOfNums m).data := Array.toList_inj.1 he
        cases hh : strOfNums l; cases hh2 : strOfNums m; simp [hh, hh2] at this ⊢; exact this))
  exact congrArg (fun z => Ending.returned (.bool z)) h
theorem osame_any (b : Bool) (w : World) (A A' : Option Addr) (l m : List Int) (n n' c c' B B' : Nat) (hA : Rd w B .u8 A l) (hB : Rd w B' .u8 A' m) (hn : l.length = n) (hn' : m.length = n') (hl : Bys l) (hm : Bys m) (hb : decide (l = m) = b) :
    Calls Try.prog 35 #[.slice A n c, .slice A' n' c'] w fun e w' => e = .returned (.bool b) ∧ w = w' := by
  have hE := equal_any b w A A' l m n n' c c' B B' hA hB hn hn' hl hm hb
  clear hb
  go_enter Try.func35, Try.ntmps35
  go_wp2_with (with_reducible refine hE.mono ?_; rintro e w' ⟨rfl, rfl⟩)
  go_ret
  exact ⟨rfl, rfl⟩

end Go.Proofs.Ytigedohalangbaa
