-- By a program of this session (xp.py) over the kit's print, with texts of this session.
import Derived.Test.YtdjljggdbflohaaDoorPAllx0
import Derived.Test.YtdjljggdbflohaaDoorLexLines
namespace Go.Proofs.YtdjljggdbflohaaDoor.PAll
open Go.RowKit Go.Proofs.YtdjljggdbflohaaDoorW.PrintWords Go.Proofs.YtdjljggdbflohaaDoorW.PrintLast Go.Proofs.YtdjljggdbflohaaDoorW.PrintMore
attribute [local go_sem] max2_int min2_int max_two min_two max_three min_three max_four min_four   -- for this text's walks alone
set_option linter.unusedVariables false
set_option linter.unusedSimpArgs false

-- EXTERN
-- XIMPORT Derived.Test.YtdjljggdbflohaaDoorLexLines
/-! ### lex.Lines -/
def lex_Lines.f (a0 : ByteArray) : Option (List ByteArray) := if a0.size ≤ 1099511627776 then some (linesL (a0.size + 1) a0.data.toList) else none
theorem lex_Lines.calls (a0 : ByteArray) (r : List ByteArray) (w : World) (h : lex_Lines.f a0 = some r) :
    Calls Tryd.prog 17 #[.string a0] w fun e w' => ∃ v0_ : Value, e = .returned (v0_) ∧ Kd.R Kd.string 9 w' w.heap.size (fun _ => True) v0_ r ∧ Below w.heap.size w w' := by
  unfold lex_Lines.f at h
  split at h
  · rename_i hb
    obtain rfl := Option.some.inj h
    exact lex_Lines.any a0 w hb
  · cases h

end Go.Proofs.YtdjljggdbflohaaDoor.PAll
