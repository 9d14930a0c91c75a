import Derived.Test.YtjdlhgdklmkkhaaGreatG1FTy
set_option linter.unusedVariables false
namespace Go.VI
open Go
def x_sync_atomic_Bool_Load : S_atomic_Bool × Unit → Option ((Bool × Unit) × (S_atomic_Bool × Unit))
  | (a, _) => some ((a.v != 0, ()), (a, ()))
def x_sync_atomic_Int64_Load : S_atomic_Int64 × Unit → Option ((Int × Unit) × (S_atomic_Int64 × Unit))
  | (a, _) => some ((a.v, ()), (a, ()))
def x_sync_atomic_Int64_Add : S_atomic_Int64 × Int × Unit → Option ((Int × Unit) × (S_atomic_Int64 × Unit))
  | (a, d, _) => some ((IntKind.wrap .i64 (a.v + d), ()), (⟨IntKind.wrap .i64 (a.v + d)⟩, ()))
end Go.VI
