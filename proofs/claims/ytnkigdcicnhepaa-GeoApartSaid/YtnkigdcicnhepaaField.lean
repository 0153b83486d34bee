/- Small facts of this session's own: a field taken of a struct's value (api.Span). -/
import Derived.Test.YtnkigdcicnhepaaProg
import Derived.KernelRfl
import Derived.Tactics
namespace Go.Proofs.YtnkigdcicnhepaaX
theorem field_Span_0 (a b : Int) (w : World) : Sem.run Try.prog (Instr.field 33 (.agg #[.int .i64 a, .int .i64 b]) 0) w = .ok (.int .i64 a) w := by kernel_rfl
theorem field_Span_1 (a b : Int) (w : World) : Sem.run Try.prog (Instr.field 33 (.agg #[.int .i64 a, .int .i64 b]) 1) w = .ok (.int .i64 b) w := by kernel_rfl
attribute [go_sem] field_Span_0 field_Span_1
end Go.Proofs.YtnkigdcicnhepaaX
