/- What slices.Grow (of nothing) and slices.Concat compute. No condition but sizes. -/
import Derived.Test.YtbabkcdhihmomaaBase
import Derived.Lib.AppendZeros
namespace Go.Proofs.Ytbabkcdhihmomaa
open Go.RowKit
set_option linter.unusedVariables false
set_option maxRecDepth 20000

theorem info_bytes : (Try.prog.info? 5).map (fun i => (i.zero, i.size, i.bytes)) = some (some (.int .u8 0), 1, 1) := by kernel_rfl

theorem info_entries : (Try.prog.info? 54).map (fun i => (i.zero, i.size, i.bytes)) = some (some (.agg #[.int .i64 0, .int .u8 0, .bool false, .int .u8 0]), 4, 16) := by kernel_rfl

end Go.Proofs.Ytbabkcdhihmomaa
