/- What the listed variables hold, and that it abides. -/
import Derived.Test.YtomngapjfkmjkaaDoorProg
import Derived.Test.YtomngapjfkmjkaaDoorWWords
import Derived.Test.YtomngapjfkmjkaaDoorWLast
import Derived.Test.YtomngapjfkmjkaaDoorWMore
import Derived.Test.YtomngapjfkmjkaaDoorShelf
import Derived.Lib.LaidTab
import Derived.Lib.AppendIntMem
import Derived.Below
import Derived.WalkKit
import Derived.Lib.OthersKept
import Derived.Laws.RangeAny
import Derived.Tactics
set_option linter.unusedVariables false
set_option linter.unusedSimpArgs false
namespace Go.Proofs.YtomngapjfkmjkaaDoor.PAll
open Go.RowKit Go.Proofs.YtomngapjfkmjkaaDoorW.PrintWords Go.Proofs.YtomngapjfkmjkaaDoorW.PrintLast Go.Proofs.YtomngapjfkmjkaaDoorW.PrintMore
/-- The tables and the two errors lie as their initialisers lay them. -/
structure LaidI (w : World) : Prop where
  pr : Lib.TabIs Tryd.prog w "unicode.properties" .u8 Lib.propertiesTab
  p10 : Lib.TabIs Tryd.prog w "internal/strconv.uint64pow10" .u64 Lib.pow10Tab
  es : ∃ tp p, w.var? Tryd.prog "strconv.ErrSyntax" = some #[.iface tp p]
  er : ∃ tp p, w.var? Tryd.prog "strconv.ErrRange" = some #[.iface tp p]
theorem var_below {w W : World} {name : String} {cs : Array Value} {g : Nat} (hg : Tryd.prog.globalNamed name = some g) (h : w.var? Tryd.prog name = some cs) (hb : Below w.heap.size w W) : W.var? Tryd.prog name = some cs := by
  unfold World.var? at h ⊢
  rw [hg] at h ⊢
  simp only [Option.bind_some] at h ⊢
  cases ho : w.heap[g]? with
  | none => rw [ho] at h; cases h
  | some o =>
    rw [ho] at h
    have hlt : g < w.heap.size := (Array.getElem?_eq_some_iff.1 ho).1
    rw [hb.block g hlt, ho]
    exact h
theorem LaidI.below {w W : World} (h : LaidI w) (hb : Below w.heap.size w W) : LaidI W :=
  ⟨var_below (g := 1) (by kernel_rfl) h.pr hb, var_below (g := 5) (by kernel_rfl) h.p10 hb,
   let ⟨a, b, e⟩ := h.es; ⟨a, b, var_below (g := 3) (by kernel_rfl) e hb⟩, let ⟨a, b, e⟩ := h.er; ⟨a, b, var_below (g := 4) (by kernel_rfl) e hb⟩⟩
end Go.Proofs.YtomngapjfkmjkaaDoor.PAll
