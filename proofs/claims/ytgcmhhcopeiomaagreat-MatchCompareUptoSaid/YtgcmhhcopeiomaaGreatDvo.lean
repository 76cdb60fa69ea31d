/- Plain theory, joined. Conditions: none. -/
import Derived.Test.YtgcmhhcopeiomaaGreatMi
import Derived.Test.YtgcmhhcopeiomaaGreatNt
set_option maxRecDepth 100000
namespace Go.Proofs.YtgcmhhcopeiomaaGreat.Ab
open Go
section
open Go
end
section
open Go
end
section
open Go
end
section
open Go
/-- How many binary digits a number has. -/
def bits (x : Nat) : Nat := if x = 0 then 0 else Nat.log2 x + 1
end
section
open Go
end
section
open Go
end
section
open Go
/-- The product over a list. -/
def pr (f : SRatio → Nat) : List SRatio → Nat
  | [] => 1
  | r :: l => f r * pr f l
end
section
open Go
end
section
open Go
end
section
open Go
end
section
open Go
end
end Go.Proofs.YtgcmhhcopeiomaaGreat.Ab
