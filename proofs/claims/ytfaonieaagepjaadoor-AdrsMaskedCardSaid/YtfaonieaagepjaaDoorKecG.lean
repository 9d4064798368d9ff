import Derived.Test.YtfaonieaagepjaaDoorKecF
import Derived.Test.YtfaonieaagepjaaDoorKecInj
import Derived.Test.YtfaonieaagepjaaDoorZA
namespace Go.Proofs.YtfaonieaagepjaaDoor
open Go.RowKit
set_option maxRecDepth 100000
set_option linter.unusedVariables false
set_option linter.unusedSimpArgs false

/-- What a region of a law keeps: the tables, two states' rows, all that was there. -/
structure KSt (w0 : World) (B a b Ta Tb : Nat) (l m : List Int) (w : World) : Prop where
  a : Arr w a Ta .u64 l
  b : Arr w b Tb .u64 m
  k : Kept B (fun _ => False) w0 w
abbrev KS (w0 : World) (B a b : Nat) (l m : List Int) (w : World) : Prop := KSt w0 B a b 100 100 l m w
theorem KSt.below {w0 w w' : World} {B a b Ta Tb : Nat} {l m : List Int} (h : KSt w0 B a b Ta Tb l m w) (hb : Below w.heap.size w w') (hB : B ≤ w.heap.size) : KSt w0 B a b Ta Tb l m w' :=
  ⟨h.a.below hb h.a.lt, h.b.below hb h.b.lt, h.k.trans (S' := fun _ => False) (Kept.of_below hb) hB (fun _ _ h => h)⟩
theorem KSt.le {w0 w : World} {B a b Ta Tb : Nat} {l m : List Int} (h : KSt w0 B a b Ta Tb l m w) (hB : B ≤ w0.heap.size) : B ≤ w.heap.size := Nat.le_trans hB h.k.size

end Go.Proofs.YtfaonieaagepjaaDoor
