import Derived.Test.YtlohkdkgpajkaaaDoorS6Deep
open Go Go.Vc Go.Proofs
set_option autoImplicit false
namespace Go.Vc.S6
def cT : Cod (Int × Int) := ⟨2, fun p => [.int .i64 p.1, .int .i64 p.2], fun _ => rfl, by simp [Value.oneCell']⟩
end Go.Vc.S6
