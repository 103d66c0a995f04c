/- The examples hold. Conditions: none. -/
import Derived.Test.YtbfoamlmlbmmnaaQb
import Derived.KernelRfl
namespace Px
open Go
theorem sane_true : law09_sane 100000 = some true := by kernel_rfl
end Px
