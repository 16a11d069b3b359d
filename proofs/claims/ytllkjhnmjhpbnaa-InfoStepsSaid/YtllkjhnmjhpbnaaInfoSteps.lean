/-
  Of any bridge, whatever its ports know, the law InfoSteps returns true: a port's machine of what is known does next what the document says. Conditions: none.
-/
import Derived.Test.YtllkjhnmjhpbnaaInfoSteps1
import Derived.Test.YtllkjhnmjhpbnaaInfoSteps2
import Derived.Test.YtllkjhnmjhpbnaaInfoSteps3
import Derived.Test.YtllkjhnmjhpbnaaInfoSteps4
import Derived.Test.YtllkjhnmjhpbnaaInfoSteps5
import Derived.Test.YtllkjhnmjhpbnaaInfoSteps6
import Derived.Test.YtllkjhnmjhpbnaaInfoSteps7
import Derived.Test.YtllkjhnmjhpbnaaInfoSteps8
import Derived.Test.YtllkjhnmjhpbnaaInfoSteps9
import Derived.Test.YtllkjhnmjhpbnaaInfoSteps10
import Derived.Test.YtllkjhnmjhpbnaaInfoSteps11
import Derived.Test.YtllkjhnmjhpbnaaInfoSteps12
import Derived.Test.YtllkjhnmjhpbnaaInfoSteps13
import Derived.Test.YtllkjhnmjhpbnaaInfoSteps14
import Derived.Test.YtllkjhnmjhpbnaaInfoSteps15
import Derived.Test.YtllkjhnmjhpbnaaInfoSteps16
import Derived.Test.YtllkjhnmjhpbnaaInfoSteps17
import Derived.Test.YtllkjhnmjhpbnaaInfoSteps18
import Derived.Test.YtllkjhnmjhpbnaaInfoSteps19
import Derived.Test.YtllkjhnmjhpbnaaInfoSteps20
import Derived.Test.YtllkjhnmjhpbnaaInfoSteps21
import Derived.Test.YtllkjhnmjhpbnaaInfoSteps22
namespace Go.Proofs.Ytllkjhnmjhpbnaa
open Go.SX
def infoStepsTree : List (List Bool × Sp) :=
  [([true], (.node (.ltI (.lit (20)) (.var 0))
   .leaf
   (.node (.eqI (.var 0) (.lit (0)))
   .leaf
   (.node (.ltI (.cell 1000000 (.lit (0)) 18) (.var 0))
   (.node (.ltI (.cell 1000000 (.lit (0)) 18) (.lit (0)))
   .leaf
   (.node (.eqI (qT 86) (.lit (2)))
   (.node (qB 31)
   (.node (qB 43)
   .leaf
   (.node (qB 2)
   (.node (.eqI (qT 72) (.lit (1)))
   (.node (.eqI (.wrap .u64 (qT 56)) (.wrap .u64 (qT 74)))
   (.node (.eqI (.wrap .u32 (qT 57)) (.wrap .u32 (qT 75)))
   (.node (.eqI (.wrap .u64 (qT 58)) (.wrap .u64 (qT 76)))
   (.node (.eqI (.wrap .u16 (qT 59)) (.wrap .u16 (qT 77)))
   (.node (.eqI (qT 69) (.bin .quo (.wrap .u16 (qT 79)) (.lit (256))))
   (.node (.eqI (qT 71) (.bin .quo (.wrap .u16 (qT 81)) (.lit (256))))
   (.node (.eqI (qT 44) (.lit (3)))
   .leaf
   .leaf)
   (.node (.eqI (qT 44) (.lit (3)))
   .leaf
   .leaf))
   (.node (.eqI (qT 44) (.lit (3)))
   .leaf
   .leaf))
   (.node (.ltI (.wrap .u16 (qT 59)) (.wrap .u16 (qT 77)))
   (.node (.eqI (.bin .rem (.wrap .u16 (qT 59)) (.lit (4096))) (.bin .rem (.wrap .u16 (qT 77)) (.lit (4096))))
   (.node (.all 999983 (.lit (1)) (.and (.eqI (.bin .rem (.bin .quo (.wrap .u64 (qT 58)) (.lit (1099511627776))) (.lit (256))) (.bin .rem (.bin .quo (.wrap .u64 (qT 76)) (.lit (1099511627776))) (.lit (256)))) (.and (.eqI (.bin .rem (.bin .quo (.wrap .u64 (qT 58)) (.lit (4294967296))) (.lit (256))) (.bin .rem (.bin .quo (.wrap .u64 (qT 76)) (.lit (4294967296))) (.lit (256)))) (.and (.eqI (.bin .rem (.bin .quo (.wrap .u64 (qT 58)) (.lit (16777216))) (.lit (256))) (.bin .rem (.bin .quo (.wrap .u64 (qT 76)) (.lit (16777216))) (.lit (256)))) (.and (.eqI (.bin .rem (.bin .quo (.wrap .u64 (qT 58)) (.lit (65536))) (.lit (256))) (.bin .rem (.bin .quo (.wrap .u64 (qT 76)) (.lit (65536))) (.lit (256)))) (.and (.eqI (.bin .rem (.bin .quo (.wrap .u64 (qT 58)) (.lit (256))) (.lit (256))) (.bin .rem (.bin .quo (.wrap .u64 (qT 76)) (.lit (256))) (.lit (256)))) (.eqI (.bin .rem (.wrap .u64 (qT 58)) (.lit (256))) (.bin .rem (.wrap .u64 (qT 76)) (.lit (256))))))))))
   .leaf
   .leaf)
   .leaf)
   .leaf))
   (.node (.ltI (.wrap .u64 (qT 58)) (.wrap .u64 (qT 76)))
   (.node (.eqI (.bin .rem (.wrap .u16 (qT 59)) (.lit (4096))) (.bin .rem (.wrap .u16 (qT 77)) (.lit (4096))))
   (.node (.all 999983 (.lit (1)) (.and (.eqI (.bin .rem (.bin .quo (.wrap .u64 (qT 58)) (.lit (1099511627776))) (.lit (256))) (.bin .rem (.bin .quo (.wrap .u64 (qT 76)) (.lit (1099511627776))) (.lit (256)))) (.and (.eqI (.bin .rem (.bin .quo (.wrap .u64 (qT 58)) (.lit (4294967296))) (.lit (256))) (.bin .rem (.bin .quo (.wrap .u64 (qT 76)) (.lit (4294967296))) (.lit (256)))) (.and (.eqI (.bin .rem (.bin .quo (.wrap .u64 (qT 58)) (.lit (16777216))) (.lit (256))) (.bin .rem (.bin .quo (.wrap .u64 (qT 76)) (.lit (16777216))) (.lit (256)))) (.and (.eqI (.bin .rem (.bin .quo (.wrap .u64 (qT 58)) (.lit (65536))) (.lit (256))) (.bin .rem (.bin .quo (.wrap .u64 (qT 76)) (.lit (65536))) (.lit (256)))) (.and (.eqI (.bin .rem (.bin .quo (.wrap .u64 (qT 58)) (.lit (256))) (.lit (256))) (.bin .rem (.bin .quo (.wrap .u64 (qT 76)) (.lit (256))) (.lit (256)))) (.eqI (.bin .rem (.wrap .u64 (qT 58)) (.lit (256))) (.bin .rem (.wrap .u64 (qT 76)) (.lit (256))))))))))
   .leaf
   .leaf)
   .leaf)
   .leaf))
   (.node (.ltI (.wrap .u32 (qT 57)) (.wrap .u32 (qT 75)))
   (.node (.eqI (.bin .rem (.wrap .u16 (qT 59)) (.lit (4096))) (.bin .rem (.wrap .u16 (qT 77)) (.lit (4096))))
   (.node (.all 999983 (.lit (1)) (.and (.eqI (.bin .rem (.bin .quo (.wrap .u64 (qT 58)) (.lit (1099511627776))) (.lit (256))) (.bin .rem (.bin .quo (.wrap .u64 (qT 76)) (.lit (1099511627776))) (.lit (256)))) (.and (.eqI (.bin .rem (.bin .quo (.wrap .u64 (qT 58)) (.lit (4294967296))) (.lit (256))) (.bin .rem (.bin .quo (.wrap .u64 (qT 76)) (.lit (4294967296))) (.lit (256)))) (.and (.eqI (.bin .rem (.bin .quo (.wrap .u64 (qT 58)) (.lit (16777216))) (.lit (256))) (.bin .rem (.bin .quo (.wrap .u64 (qT 76)) (.lit (16777216))) (.lit (256)))) (.and (.eqI (.bin .rem (.bin .quo (.wrap .u64 (qT 58)) (.lit (65536))) (.lit (256))) (.bin .rem (.bin .quo (.wrap .u64 (qT 76)) (.lit (65536))) (.lit (256)))) (.and (.eqI (.bin .rem (.bin .quo (.wrap .u64 (qT 58)) (.lit (256))) (.lit (256))) (.bin .rem (.bin .quo (.wrap .u64 (qT 76)) (.lit (256))) (.lit (256)))) (.eqI (.bin .rem (.wrap .u64 (qT 58)) (.lit (256))) (.bin .rem (.wrap .u64 (qT 76)) (.lit (256))))))))))
   .leaf
   .leaf)
   .leaf)
   .leaf))
   (.node (.ltI (.wrap .u64 (qT 56)) (.wrap .u64 (qT 74)))
   (.node (.eqI (.bin .rem (.wrap .u16 (qT 59)) (.lit (4096))) (.bin .rem (.wrap .u16 (qT 77)) (.lit (4096))))
   (.node (.all 999983 (.lit (1)) (.and (.eqI (.bin .rem (.bin .quo (.wrap .u64 (qT 58)) (.lit (1099511627776))) (.lit (256))) (.bin .rem (.bin .quo (.wrap .u64 (qT 76)) (.lit (1099511627776))) (.lit (256)))) (.and (.eqI (.bin .rem (.bin .quo (.wrap .u64 (qT 58)) (.lit (4294967296))) (.lit (256))) (.bin .rem (.bin .quo (.wrap .u64 (qT 76)) (.lit (4294967296))) (.lit (256)))) (.and (.eqI (.bin .rem (.bin .quo (.wrap .u64 (qT 58)) (.lit (16777216))) (.lit (256))) (.bin .rem (.bin .quo (.wrap .u64 (qT 76)) (.lit (16777216))) (.lit (256)))) (.and (.eqI (.bin .rem (.bin .quo (.wrap .u64 (qT 58)) (.lit (65536))) (.lit (256))) (.bin .rem (.bin .quo (.wrap .u64 (qT 76)) (.lit (65536))) (.lit (256)))) (.and (.eqI (.bin .rem (.bin .quo (.wrap .u64 (qT 58)) (.lit (256))) (.lit (256))) (.bin .rem (.bin .quo (.wrap .u64 (qT 76)) (.lit (256))) (.lit (256)))) (.eqI (.bin .rem (.wrap .u64 (qT 58)) (.lit (256))) (.bin .rem (.wrap .u64 (qT 76)) (.lit (256))))))))))
   .leaf
   .leaf)
   .leaf)
   .leaf))
   (.node (.eqI (qT 72) (.lit (3)))
   (.node (.eqI (.bin .rem (.bin .quo (.wrap .u8 (qT 73)) (.lit (4))) (.lit (4))) (.lit (3)))
   (.node (.eqI (.wrap .u64 (qT 56)) (.wrap .u64 (qT 74)))
   (.node (.eqI (.wrap .u32 (qT 57)) (.wrap .u32 (qT 75)))
   (.node (.eqI (.wrap .u64 (qT 58)) (.wrap .u64 (qT 76)))
   (.node (.eqI (.wrap .u16 (qT 59)) (.wrap .u16 (qT 77)))
   (.node (.eqI (qT 69) (.bin .quo (.wrap .u16 (qT 79)) (.lit (256))))
   (.node (.eqI (qT 71) (.bin .quo (.wrap .u16 (qT 81)) (.lit (256))))
   (.node (.eqI (qT 44) (.lit (3)))
   .leaf
   .leaf)
   (.node (.eqI (qT 44) (.lit (3)))
   .leaf
   .leaf))
   (.node (.eqI (qT 44) (.lit (3)))
   .leaf
   .leaf))
   (.node (.ltI (.wrap .u16 (qT 59)) (.wrap .u16 (qT 77)))
   (.node (.eqI (.bin .rem (.wrap .u16 (qT 59)) (.lit (4096))) (.bin .rem (.wrap .u16 (qT 77)) (.lit (4096))))
   (.node (.all 999983 (.lit (1)) (.and (.eqI (.bin .rem (.bin .quo (.wrap .u64 (qT 58)) (.lit (1099511627776))) (.lit (256))) (.bin .rem (.bin .quo (.wrap .u64 (qT 76)) (.lit (1099511627776))) (.lit (256)))) (.and (.eqI (.bin .rem (.bin .quo (.wrap .u64 (qT 58)) (.lit (4294967296))) (.lit (256))) (.bin .rem (.bin .quo (.wrap .u64 (qT 76)) (.lit (4294967296))) (.lit (256)))) (.and (.eqI (.bin .rem (.bin .quo (.wrap .u64 (qT 58)) (.lit (16777216))) (.lit (256))) (.bin .rem (.bin .quo (.wrap .u64 (qT 76)) (.lit (16777216))) (.lit (256)))) (.and (.eqI (.bin .rem (.bin .quo (.wrap .u64 (qT 58)) (.lit (65536))) (.lit (256))) (.bin .rem (.bin .quo (.wrap .u64 (qT 76)) (.lit (65536))) (.lit (256)))) (.and (.eqI (.bin .rem (.bin .quo (.wrap .u64 (qT 58)) (.lit (256))) (.lit (256))) (.bin .rem (.bin .quo (.wrap .u64 (qT 76)) (.lit (256))) (.lit (256)))) (.eqI (.bin .rem (.wrap .u64 (qT 58)) (.lit (256))) (.bin .rem (.wrap .u64 (qT 76)) (.lit (256))))))))))
   .leaf
   .leaf)
   .leaf)
   .leaf))
   (.node (.ltI (.wrap .u64 (qT 58)) (.wrap .u64 (qT 76)))
   (.node (.eqI (.bin .rem (.wrap .u16 (qT 59)) (.lit (4096))) (.bin .rem (.wrap .u16 (qT 77)) (.lit (4096))))
   (.node (.all 999983 (.lit (1)) (.and (.eqI (.bin .rem (.bin .quo (.wrap .u64 (qT 58)) (.lit (1099511627776))) (.lit (256))) (.bin .rem (.bin .quo (.wrap .u64 (qT 76)) (.lit (1099511627776))) (.lit (256)))) (.and (.eqI (.bin .rem (.bin .quo (.wrap .u64 (qT 58)) (.lit (4294967296))) (.lit (256))) (.bin .rem (.bin .quo (.wrap .u64 (qT 76)) (.lit (4294967296))) (.lit (256)))) (.and (.eqI (.bin .rem (.bin .quo (.wrap .u64 (qT 58)) (.lit (16777216))) (.lit (256))) (.bin .rem (.bin .quo (.wrap .u64 (qT 76)) (.lit (16777216))) (.lit (256)))) (.and (.eqI (.bin .rem (.bin .quo (.wrap .u64 (qT 58)) (.lit (65536))) (.lit (256))) (.bin .rem (.bin .quo (.wrap .u64 (qT 76)) (.lit (65536))) (.lit (256)))) (.and (.eqI (.bin .rem (.bin .quo (.wrap .u64 (qT 58)) (.lit (256))) (.lit (256))) (.bin .rem (.bin .quo (.wrap .u64 (qT 76)) (.lit (256))) (.lit (256)))) (.eqI (.bin .rem (.wrap .u64 (qT 58)) (.lit (256))) (.bin .rem (.wrap .u64 (qT 76)) (.lit (256))))))))))
   .leaf
   .leaf)
   .leaf)
   .leaf))
   (.node (.ltI (.wrap .u32 (qT 57)) (.wrap .u32 (qT 75)))
   (.node (.eqI (.bin .rem (.wrap .u16 (qT 59)) (.lit (4096))) (.bin .rem (.wrap .u16 (qT 77)) (.lit (4096))))
   (.node (.all 999983 (.lit (1)) (.and (.eqI (.bin .rem (.bin .quo (.wrap .u64 (qT 58)) (.lit (1099511627776))) (.lit (256))) (.bin .rem (.bin .quo (.wrap .u64 (qT 76)) (.lit (1099511627776))) (.lit (256)))) (.and (.eqI (.bin .rem (.bin .quo (.wrap .u64 (qT 58)) (.lit (4294967296))) (.lit (256))) (.bin .rem (.bin .quo (.wrap .u64 (qT 76)) (.lit (4294967296))) (.lit (256)))) (.and (.eqI (.bin .rem (.bin .quo (.wrap .u64 (qT 58)) (.lit (16777216))) (.lit (256))) (.bin .rem (.bin .quo (.wrap .u64 (qT 76)) (.lit (16777216))) (.lit (256)))) (.and (.eqI (.bin .rem (.bin .quo (.wrap .u64 (qT 58)) (.lit (65536))) (.lit (256))) (.bin .rem (.bin .quo (.wrap .u64 (qT 76)) (.lit (65536))) (.lit (256)))) (.and (.eqI (.bin .rem (.bin .quo (.wrap .u64 (qT 58)) (.lit (256))) (.lit (256))) (.bin .rem (.bin .quo (.wrap .u64 (qT 76)) (.lit (256))) (.lit (256)))) (.eqI (.bin .rem (.wrap .u64 (qT 58)) (.lit (256))) (.bin .rem (.wrap .u64 (qT 76)) (.lit (256))))))))))
   .leaf
   .leaf)
   .leaf)
   .leaf))
   (.node (.ltI (.wrap .u64 (qT 56)) (.wrap .u64 (qT 74)))
   (.node (.eqI (.bin .rem (.wrap .u16 (qT 59)) (.lit (4096))) (.bin .rem (.wrap .u16 (qT 77)) (.lit (4096))))
   (.node (.all 999983 (.lit (1)) (.and (.eqI (.bin .rem (.bin .quo (.wrap .u64 (qT 58)) (.lit (1099511627776))) (.lit (256))) (.bin .rem (.bin .quo (.wrap .u64 (qT 76)) (.lit (1099511627776))) (.lit (256)))) (.and (.eqI (.bin .rem (.bin .quo (.wrap .u64 (qT 58)) (.lit (4294967296))) (.lit (256))) (.bin .rem (.bin .quo (.wrap .u64 (qT 76)) (.lit (4294967296))) (.lit (256)))) (.and (.eqI (.bin .rem (.bin .quo (.wrap .u64 (qT 58)) (.lit (16777216))) (.lit (256))) (.bin .rem (.bin .quo (.wrap .u64 (qT 76)) (.lit (16777216))) (.lit (256)))) (.and (.eqI (.bin .rem (.bin .quo (.wrap .u64 (qT 58)) (.lit (65536))) (.lit (256))) (.bin .rem (.bin .quo (.wrap .u64 (qT 76)) (.lit (65536))) (.lit (256)))) (.and (.eqI (.bin .rem (.bin .quo (.wrap .u64 (qT 58)) (.lit (256))) (.lit (256))) (.bin .rem (.bin .quo (.wrap .u64 (qT 76)) (.lit (256))) (.lit (256)))) (.eqI (.bin .rem (.wrap .u64 (qT 58)) (.lit (256))) (.bin .rem (.wrap .u64 (qT 76)) (.lit (256))))))))))
   .leaf
   .leaf)
   .leaf)
   .leaf))
   (.node (.eqI (.bin .rem (.bin .quo (.wrap .u8 (qT 73)) (.lit (4))) (.lit (4))) (.lit (1)))
   (.node (.eqI (.wrap .u64 (qT 56)) (.wrap .u64 (qT 74)))
   (.node (.eqI (.wrap .u32 (qT 57)) (.wrap .u32 (qT 75)))
   (.node (.eqI (.wrap .u64 (qT 58)) (.wrap .u64 (qT 76)))
   (.node (.ltI (.wrap .u16 (qT 59)) (.wrap .u16 (qT 77)))
   .leaf
   .leaf)
   (.node (.ltI (.wrap .u64 (qT 58)) (.wrap .u64 (qT 76)))
   .leaf
   .leaf))
   (.node (.ltI (.wrap .u32 (qT 57)) (.wrap .u32 (qT 75)))
   .leaf
   .leaf))
   (.node (.ltI (.wrap .u64 (qT 56)) (.wrap .u64 (qT 74)))
   .leaf
   .leaf))
   (.node (.eqI (.bin .rem (.bin .quo (.wrap .u8 (qT 73)) (.lit (4))) (.lit (4))) (.lit (2)))
   (.node (.eqI (.wrap .u64 (qT 56)) (.wrap .u64 (qT 74)))
   (.node (.eqI (.wrap .u32 (qT 57)) (.wrap .u32 (qT 75)))
   (.node (.eqI (.wrap .u64 (qT 58)) (.wrap .u64 (qT 76)))
   (.node (.ltI (.wrap .u16 (qT 59)) (.wrap .u16 (qT 77)))
   .leaf
   .leaf)
   (.node (.ltI (.wrap .u64 (qT 58)) (.wrap .u64 (qT 76)))
   .leaf
   .leaf))
   (.node (.ltI (.wrap .u32 (qT 57)) (.wrap .u32 (qT 75)))
   .leaf
   .leaf))
   (.node (.ltI (.wrap .u64 (qT 56)) (.wrap .u64 (qT 74)))
   .leaf
   .leaf))
   .leaf)))
   .leaf))
   (.node (.eqI (qT 44) (.lit (0)))
   (.node (.eqI (qT 72) (.lit (1)))
   (.node (.eqI (.wrap .u64 (qT 56)) (.wrap .u64 (qT 74)))
   (.node (.eqI (.wrap .u32 (qT 57)) (.wrap .u32 (qT 75)))
   (.node (.eqI (.wrap .u64 (qT 58)) (.wrap .u64 (qT 76)))
   (.node (.eqI (.wrap .u16 (qT 59)) (.wrap .u16 (qT 77)))
   (.node (.eqI (qT 69) (.bin .quo (.wrap .u16 (qT 79)) (.lit (256))))
   (.node (.eqI (qT 71) (.bin .quo (.wrap .u16 (qT 81)) (.lit (256))))
   .leaf
   .leaf)
   .leaf)
   (.node (.ltI (.wrap .u16 (qT 59)) (.wrap .u16 (qT 77)))
   (.node (.eqI (.bin .rem (.wrap .u16 (qT 59)) (.lit (4096))) (.bin .rem (.wrap .u16 (qT 77)) (.lit (4096))))
   (.node (.all 999983 (.lit (1)) (.and (.eqI (.bin .rem (.bin .quo (.wrap .u64 (qT 58)) (.lit (1099511627776))) (.lit (256))) (.bin .rem (.bin .quo (.wrap .u64 (qT 76)) (.lit (1099511627776))) (.lit (256)))) (.and (.eqI (.bin .rem (.bin .quo (.wrap .u64 (qT 58)) (.lit (4294967296))) (.lit (256))) (.bin .rem (.bin .quo (.wrap .u64 (qT 76)) (.lit (4294967296))) (.lit (256)))) (.and (.eqI (.bin .rem (.bin .quo (.wrap .u64 (qT 58)) (.lit (16777216))) (.lit (256))) (.bin .rem (.bin .quo (.wrap .u64 (qT 76)) (.lit (16777216))) (.lit (256)))) (.and (.eqI (.bin .rem (.bin .quo (.wrap .u64 (qT 58)) (.lit (65536))) (.lit (256))) (.bin .rem (.bin .quo (.wrap .u64 (qT 76)) (.lit (65536))) (.lit (256)))) (.and (.eqI (.bin .rem (.bin .quo (.wrap .u64 (qT 58)) (.lit (256))) (.lit (256))) (.bin .rem (.bin .quo (.wrap .u64 (qT 76)) (.lit (256))) (.lit (256)))) (.eqI (.bin .rem (.wrap .u64 (qT 58)) (.lit (256))) (.bin .rem (.wrap .u64 (qT 76)) (.lit (256))))))))))
   .leaf
   .leaf)
   .leaf)
   .leaf))
   (.node (.ltI (.wrap .u64 (qT 58)) (.wrap .u64 (qT 76)))
   (.node (.eqI (.bin .rem (.wrap .u16 (qT 59)) (.lit (4096))) (.bin .rem (.wrap .u16 (qT 77)) (.lit (4096))))
   (.node (.all 999983 (.lit (1)) (.and (.eqI (.bin .rem (.bin .quo (.wrap .u64 (qT 58)) (.lit (1099511627776))) (.lit (256))) (.bin .rem (.bin .quo (.wrap .u64 (qT 76)) (.lit (1099511627776))) (.lit (256)))) (.and (.eqI (.bin .rem (.bin .quo (.wrap .u64 (qT 58)) (.lit (4294967296))) (.lit (256))) (.bin .rem (.bin .quo (.wrap .u64 (qT 76)) (.lit (4294967296))) (.lit (256)))) (.and (.eqI (.bin .rem (.bin .quo (.wrap .u64 (qT 58)) (.lit (16777216))) (.lit (256))) (.bin .rem (.bin .quo (.wrap .u64 (qT 76)) (.lit (16777216))) (.lit (256)))) (.and (.eqI (.bin .rem (.bin .quo (.wrap .u64 (qT 58)) (.lit (65536))) (.lit (256))) (.bin .rem (.bin .quo (.wrap .u64 (qT 76)) (.lit (65536))) (.lit (256)))) (.and (.eqI (.bin .rem (.bin .quo (.wrap .u64 (qT 58)) (.lit (256))) (.lit (256))) (.bin .rem (.bin .quo (.wrap .u64 (qT 76)) (.lit (256))) (.lit (256)))) (.eqI (.bin .rem (.wrap .u64 (qT 58)) (.lit (256))) (.bin .rem (.wrap .u64 (qT 76)) (.lit (256))))))))))
   .leaf
   .leaf)
   .leaf)
   .leaf))
   (.node (.ltI (.wrap .u32 (qT 57)) (.wrap .u32 (qT 75)))
   (.node (.eqI (.bin .rem (.wrap .u16 (qT 59)) (.lit (4096))) (.bin .rem (.wrap .u16 (qT 77)) (.lit (4096))))
   (.node (.all 999983 (.lit (1)) (.and (.eqI (.bin .rem (.bin .quo (.wrap .u64 (qT 58)) (.lit (1099511627776))) (.lit (256))) (.bin .rem (.bin .quo (.wrap .u64 (qT 76)) (.lit (1099511627776))) (.lit (256)))) (.and (.eqI (.bin .rem (.bin .quo (.wrap .u64 (qT 58)) (.lit (4294967296))) (.lit (256))) (.bin .rem (.bin .quo (.wrap .u64 (qT 76)) (.lit (4294967296))) (.lit (256)))) (.and (.eqI (.bin .rem (.bin .quo (.wrap .u64 (qT 58)) (.lit (16777216))) (.lit (256))) (.bin .rem (.bin .quo (.wrap .u64 (qT 76)) (.lit (16777216))) (.lit (256)))) (.and (.eqI (.bin .rem (.bin .quo (.wrap .u64 (qT 58)) (.lit (65536))) (.lit (256))) (.bin .rem (.bin .quo (.wrap .u64 (qT 76)) (.lit (65536))) (.lit (256)))) (.and (.eqI (.bin .rem (.bin .quo (.wrap .u64 (qT 58)) (.lit (256))) (.lit (256))) (.bin .rem (.bin .quo (.wrap .u64 (qT 76)) (.lit (256))) (.lit (256)))) (.eqI (.bin .rem (.wrap .u64 (qT 58)) (.lit (256))) (.bin .rem (.wrap .u64 (qT 76)) (.lit (256))))))))))
   .leaf
   .leaf)
   .leaf)
   .leaf))
   (.node (.ltI (.wrap .u64 (qT 56)) (.wrap .u64 (qT 74)))
   (.node (.eqI (.bin .rem (.wrap .u16 (qT 59)) (.lit (4096))) (.bin .rem (.wrap .u16 (qT 77)) (.lit (4096))))
   (.node (.all 999983 (.lit (1)) (.and (.eqI (.bin .rem (.bin .quo (.wrap .u64 (qT 58)) (.lit (1099511627776))) (.lit (256))) (.bin .rem (.bin .quo (.wrap .u64 (qT 76)) (.lit (1099511627776))) (.lit (256)))) (.and (.eqI (.bin .rem (.bin .quo (.wrap .u64 (qT 58)) (.lit (4294967296))) (.lit (256))) (.bin .rem (.bin .quo (.wrap .u64 (qT 76)) (.lit (4294967296))) (.lit (256)))) (.and (.eqI (.bin .rem (.bin .quo (.wrap .u64 (qT 58)) (.lit (16777216))) (.lit (256))) (.bin .rem (.bin .quo (.wrap .u64 (qT 76)) (.lit (16777216))) (.lit (256)))) (.and (.eqI (.bin .rem (.bin .quo (.wrap .u64 (qT 58)) (.lit (65536))) (.lit (256))) (.bin .rem (.bin .quo (.wrap .u64 (qT 76)) (.lit (65536))) (.lit (256)))) (.and (.eqI (.bin .rem (.bin .quo (.wrap .u64 (qT 58)) (.lit (256))) (.lit (256))) (.bin .rem (.bin .quo (.wrap .u64 (qT 76)) (.lit (256))) (.lit (256)))) (.eqI (.bin .rem (.wrap .u64 (qT 58)) (.lit (256))) (.bin .rem (.wrap .u64 (qT 76)) (.lit (256))))))))))
   .leaf
   .leaf)
   .leaf)
   .leaf))
   (.node (.eqI (qT 72) (.lit (3)))
   (.node (.eqI (.bin .rem (.bin .quo (.wrap .u8 (qT 73)) (.lit (4))) (.lit (4))) (.lit (3)))
   (.node (.eqI (.wrap .u64 (qT 56)) (.wrap .u64 (qT 74)))
   (.node (.eqI (.wrap .u32 (qT 57)) (.wrap .u32 (qT 75)))
   (.node (.eqI (.wrap .u64 (qT 58)) (.wrap .u64 (qT 76)))
   (.node (.eqI (.wrap .u16 (qT 59)) (.wrap .u16 (qT 77)))
   (.node (.eqI (qT 69) (.bin .quo (.wrap .u16 (qT 79)) (.lit (256))))
   (.node (.eqI (qT 71) (.bin .quo (.wrap .u16 (qT 81)) (.lit (256))))
   .leaf
   .leaf)
   .leaf)
   (.node (.ltI (.wrap .u16 (qT 59)) (.wrap .u16 (qT 77)))
   (.node (.eqI (.bin .rem (.wrap .u16 (qT 59)) (.lit (4096))) (.bin .rem (.wrap .u16 (qT 77)) (.lit (4096))))
   (.node (.all 999983 (.lit (1)) (.and (.eqI (.bin .rem (.bin .quo (.wrap .u64 (qT 58)) (.lit (1099511627776))) (.lit (256))) (.bin .rem (.bin .quo (.wrap .u64 (qT 76)) (.lit (1099511627776))) (.lit (256)))) (.and (.eqI (.bin .rem (.bin .quo (.wrap .u64 (qT 58)) (.lit (4294967296))) (.lit (256))) (.bin .rem (.bin .quo (.wrap .u64 (qT 76)) (.lit (4294967296))) (.lit (256)))) (.and (.eqI (.bin .rem (.bin .quo (.wrap .u64 (qT 58)) (.lit (16777216))) (.lit (256))) (.bin .rem (.bin .quo (.wrap .u64 (qT 76)) (.lit (16777216))) (.lit (256)))) (.and (.eqI (.bin .rem (.bin .quo (.wrap .u64 (qT 58)) (.lit (65536))) (.lit (256))) (.bin .rem (.bin .quo (.wrap .u64 (qT 76)) (.lit (65536))) (.lit (256)))) (.and (.eqI (.bin .rem (.bin .quo (.wrap .u64 (qT 58)) (.lit (256))) (.lit (256))) (.bin .rem (.bin .quo (.wrap .u64 (qT 76)) (.lit (256))) (.lit (256)))) (.eqI (.bin .rem (.wrap .u64 (qT 58)) (.lit (256))) (.bin .rem (.wrap .u64 (qT 76)) (.lit (256))))))))))
   .leaf
   .leaf)
   .leaf)
   .leaf))
   (.node (.ltI (.wrap .u64 (qT 58)) (.wrap .u64 (qT 76)))
   (.node (.eqI (.bin .rem (.wrap .u16 (qT 59)) (.lit (4096))) (.bin .rem (.wrap .u16 (qT 77)) (.lit (4096))))
   (.node (.all 999983 (.lit (1)) (.and (.eqI (.bin .rem (.bin .quo (.wrap .u64 (qT 58)) (.lit (1099511627776))) (.lit (256))) (.bin .rem (.bin .quo (.wrap .u64 (qT 76)) (.lit (1099511627776))) (.lit (256)))) (.and (.eqI (.bin .rem (.bin .quo (.wrap .u64 (qT 58)) (.lit (4294967296))) (.lit (256))) (.bin .rem (.bin .quo (.wrap .u64 (qT 76)) (.lit (4294967296))) (.lit (256)))) (.and (.eqI (.bin .rem (.bin .quo (.wrap .u64 (qT 58)) (.lit (16777216))) (.lit (256))) (.bin .rem (.bin .quo (.wrap .u64 (qT 76)) (.lit (16777216))) (.lit (256)))) (.and (.eqI (.bin .rem (.bin .quo (.wrap .u64 (qT 58)) (.lit (65536))) (.lit (256))) (.bin .rem (.bin .quo (.wrap .u64 (qT 76)) (.lit (65536))) (.lit (256)))) (.and (.eqI (.bin .rem (.bin .quo (.wrap .u64 (qT 58)) (.lit (256))) (.lit (256))) (.bin .rem (.bin .quo (.wrap .u64 (qT 76)) (.lit (256))) (.lit (256)))) (.eqI (.bin .rem (.wrap .u64 (qT 58)) (.lit (256))) (.bin .rem (.wrap .u64 (qT 76)) (.lit (256))))))))))
   .leaf
   .leaf)
   .leaf)
   .leaf))
   (.node (.ltI (.wrap .u32 (qT 57)) (.wrap .u32 (qT 75)))
   (.node (.eqI (.bin .rem (.wrap .u16 (qT 59)) (.lit (4096))) (.bin .rem (.wrap .u16 (qT 77)) (.lit (4096))))
   (.node (.all 999983 (.lit (1)) (.and (.eqI (.bin .rem (.bin .quo (.wrap .u64 (qT 58)) (.lit (1099511627776))) (.lit (256))) (.bin .rem (.bin .quo (.wrap .u64 (qT 76)) (.lit (1099511627776))) (.lit (256)))) (.and (.eqI (.bin .rem (.bin .quo (.wrap .u64 (qT 58)) (.lit (4294967296))) (.lit (256))) (.bin .rem (.bin .quo (.wrap .u64 (qT 76)) (.lit (4294967296))) (.lit (256)))) (.and (.eqI (.bin .rem (.bin .quo (.wrap .u64 (qT 58)) (.lit (16777216))) (.lit (256))) (.bin .rem (.bin .quo (.wrap .u64 (qT 76)) (.lit (16777216))) (.lit (256)))) (.and (.eqI (.bin .rem (.bin .quo (.wrap .u64 (qT 58)) (.lit (65536))) (.lit (256))) (.bin .rem (.bin .quo (.wrap .u64 (qT 76)) (.lit (65536))) (.lit (256)))) (.and (.eqI (.bin .rem (.bin .quo (.wrap .u64 (qT 58)) (.lit (256))) (.lit (256))) (.bin .rem (.bin .quo (.wrap .u64 (qT 76)) (.lit (256))) (.lit (256)))) (.eqI (.bin .rem (.wrap .u64 (qT 58)) (.lit (256))) (.bin .rem (.wrap .u64 (qT 76)) (.lit (256))))))))))
   .leaf
   .leaf)
   .leaf)
   .leaf))
   (.node (.ltI (.wrap .u64 (qT 56)) (.wrap .u64 (qT 74)))
   (.node (.eqI (.bin .rem (.wrap .u16 (qT 59)) (.lit (4096))) (.bin .rem (.wrap .u16 (qT 77)) (.lit (4096))))
   (.node (.all 999983 (.lit (1)) (.and (.eqI (.bin .rem (.bin .quo (.wrap .u64 (qT 58)) (.lit (1099511627776))) (.lit (256))) (.bin .rem (.bin .quo (.wrap .u64 (qT 76)) (.lit (1099511627776))) (.lit (256)))) (.and (.eqI (.bin .rem (.bin .quo (.wrap .u64 (qT 58)) (.lit (4294967296))) (.lit (256))) (.bin .rem (.bin .quo (.wrap .u64 (qT 76)) (.lit (4294967296))) (.lit (256)))) (.and (.eqI (.bin .rem (.bin .quo (.wrap .u64 (qT 58)) (.lit (16777216))) (.lit (256))) (.bin .rem (.bin .quo (.wrap .u64 (qT 76)) (.lit (16777216))) (.lit (256)))) (.and (.eqI (.bin .rem (.bin .quo (.wrap .u64 (qT 58)) (.lit (65536))) (.lit (256))) (.bin .rem (.bin .quo (.wrap .u64 (qT 76)) (.lit (65536))) (.lit (256)))) (.and (.eqI (.bin .rem (.bin .quo (.wrap .u64 (qT 58)) (.lit (256))) (.lit (256))) (.bin .rem (.bin .quo (.wrap .u64 (qT 76)) (.lit (256))) (.lit (256)))) (.eqI (.bin .rem (.wrap .u64 (qT 58)) (.lit (256))) (.bin .rem (.wrap .u64 (qT 76)) (.lit (256))))))))))
   .leaf
   .leaf)
   .leaf)
   .leaf))
   (.node (.eqI (.bin .rem (.bin .quo (.wrap .u8 (qT 73)) (.lit (4))) (.lit (4))) (.lit (1)))
   (.node (.eqI (.wrap .u64 (qT 56)) (.wrap .u64 (qT 74)))
   (.node (.eqI (.wrap .u32 (qT 57)) (.wrap .u32 (qT 75)))
   (.node (.eqI (.wrap .u64 (qT 58)) (.wrap .u64 (qT 76)))
   (.node (.ltI (.wrap .u16 (qT 59)) (.wrap .u16 (qT 77)))
   .leaf
   .leaf)
   (.node (.ltI (.wrap .u64 (qT 58)) (.wrap .u64 (qT 76)))
   .leaf
   .leaf))
   (.node (.ltI (.wrap .u32 (qT 57)) (.wrap .u32 (qT 75)))
   .leaf
   .leaf))
   (.node (.ltI (.wrap .u64 (qT 56)) (.wrap .u64 (qT 74)))
   .leaf
   .leaf))
   (.node (.eqI (.bin .rem (.bin .quo (.wrap .u8 (qT 73)) (.lit (4))) (.lit (4))) (.lit (2)))
   (.node (.eqI (.wrap .u64 (qT 56)) (.wrap .u64 (qT 74)))
   (.node (.eqI (.wrap .u32 (qT 57)) (.wrap .u32 (qT 75)))
   (.node (.eqI (.wrap .u64 (qT 58)) (.wrap .u64 (qT 76)))
   (.node (.ltI (.wrap .u16 (qT 59)) (.wrap .u16 (qT 77)))
   .leaf
   .leaf)
   (.node (.ltI (.wrap .u64 (qT 58)) (.wrap .u64 (qT 76)))
   .leaf
   .leaf))
   (.node (.ltI (.wrap .u32 (qT 57)) (.wrap .u32 (qT 75)))
   .leaf
   .leaf))
   (.node (.ltI (.wrap .u64 (qT 56)) (.wrap .u64 (qT 74)))
   .leaf
   .leaf))
   .leaf)))
   .leaf))
   .leaf)))
   .leaf)
   (.node (.eqI (qT 86) (.lit (1)))
   (.node (qB 2)
   .leaf
   .leaf)
   (.node (qB 2)
   .leaf
   .leaf))))
   .leaf)))),
  ([false], .leaf)]
theorem infoSteps_tree : splitOk Try.checked.prog [34, 3] infoStepsTree = true := by kernel_rfl
theorem infoSteps_all : allLeaves infoStepsTree = [infoStepsL0, infoStepsL1, infoStepsL2, infoStepsL3, infoStepsL4, infoStepsL5, infoStepsL6, infoStepsL7, infoStepsL8, infoStepsL9, infoStepsL10, infoStepsL11, infoStepsL12, infoStepsL13, infoStepsL14, infoStepsL15, infoStepsL16, infoStepsL17, infoStepsL18, infoStepsL19, infoStepsL20, infoStepsL21, infoStepsL22, infoStepsL23, infoStepsL24, infoStepsL25, infoStepsL26, infoStepsL27, infoStepsL28, infoStepsL29, infoStepsL30, infoStepsL31, infoStepsL32, infoStepsL33, infoStepsL34, infoStepsL35, infoStepsL36, infoStepsL37, infoStepsL38, infoStepsL39, infoStepsL40, infoStepsL41, infoStepsL42, infoStepsL43, infoStepsL44, infoStepsL45, infoStepsL46, infoStepsL47, infoStepsL48, infoStepsL49, infoStepsL50, infoStepsL51, infoStepsL52, infoStepsL53, infoStepsL54, infoStepsL55, infoStepsL56, infoStepsL57, infoStepsL58, infoStepsL59, infoStepsL60, infoStepsL61, infoStepsL62, infoStepsL63, infoStepsL64, infoStepsL65, infoStepsL66, infoStepsL67, infoStepsL68, infoStepsL69, infoStepsL70, infoStepsL71, infoStepsL72, infoStepsL73, infoStepsL74, infoStepsL75, infoStepsL76, infoStepsL77, infoStepsL78, infoStepsL79, infoStepsL80, infoStepsL81, infoStepsL82, infoStepsL83, infoStepsL84, infoStepsL85, infoStepsL86, infoStepsL87, infoStepsL88, infoStepsL89, infoStepsL90, infoStepsL91, infoStepsL92, infoStepsL93, infoStepsL94, infoStepsL95, infoStepsL96, infoStepsL97, infoStepsL98, infoStepsL99, infoStepsL100, infoStepsL101, infoStepsL102, infoStepsL103, infoStepsL104, infoStepsL105, infoStepsL106, infoStepsL107, infoStepsL108, infoStepsL109, infoStepsL110, infoStepsL111, infoStepsL112, infoStepsL113, infoStepsL114, infoStepsL115, infoStepsL116, infoStepsL117, infoStepsL118, infoStepsL119, infoStepsL120, infoStepsL121, infoStepsL122, infoStepsL123, infoStepsL124, infoStepsL125, infoStepsL126, infoStepsL127, infoStepsL128, infoStepsL129] := by kernel_rfl
set_option maxRecDepth 100000 in
theorem infoSteps_leaves : ∀ x ∈ allLeaves infoStepsTree, LeafOk Try.checked.prog 9 [34, 3] x := by
  rw [infoSteps_all]
  exact (List.forall_mem_cons.2 ⟨infoSteps_ok0, (List.forall_mem_cons.2 ⟨infoSteps_ok1, (List.forall_mem_cons.2 ⟨infoSteps_ok2, (List.forall_mem_cons.2 ⟨infoSteps_ok3, (List.forall_mem_cons.2 ⟨infoSteps_ok4, (List.forall_mem_cons.2 ⟨infoSteps_ok5, (List.forall_mem_cons.2 ⟨infoSteps_ok6, (List.forall_mem_cons.2 ⟨infoSteps_ok7, (List.forall_mem_cons.2 ⟨infoSteps_ok8, (List.forall_mem_cons.2 ⟨infoSteps_ok9, (List.forall_mem_cons.2 ⟨infoSteps_ok10, (List.forall_mem_cons.2 ⟨infoSteps_ok11, (List.forall_mem_cons.2 ⟨infoSteps_ok12, (List.forall_mem_cons.2 ⟨infoSteps_ok13, (List.forall_mem_cons.2 ⟨infoSteps_ok14, (List.forall_mem_cons.2 ⟨infoSteps_ok15, (List.forall_mem_cons.2 ⟨infoSteps_ok16, (List.forall_mem_cons.2 ⟨infoSteps_ok17, (List.forall_mem_cons.2 ⟨infoSteps_ok18, (List.forall_mem_cons.2 ⟨infoSteps_ok19, (List.forall_mem_cons.2 ⟨infoSteps_ok20, (List.forall_mem_cons.2 ⟨infoSteps_ok21, (List.forall_mem_cons.2 ⟨infoSteps_ok22, (List.forall_mem_cons.2 ⟨infoSteps_ok23, (List.forall_mem_cons.2 ⟨infoSteps_ok24, (List.forall_mem_cons.2 ⟨infoSteps_ok25, (List.forall_mem_cons.2 ⟨infoSteps_ok26, (List.forall_mem_cons.2 ⟨infoSteps_ok27, (List.forall_mem_cons.2 ⟨infoSteps_ok28, (List.forall_mem_cons.2 ⟨infoSteps_ok29, (List.forall_mem_cons.2 ⟨infoSteps_ok30, (List.forall_mem_cons.2 ⟨infoSteps_ok31, (List.forall_mem_cons.2 ⟨infoSteps_ok32, (List.forall_mem_cons.2 ⟨infoSteps_ok33, (List.forall_mem_cons.2 ⟨infoSteps_ok34, (List.forall_mem_cons.2 ⟨infoSteps_ok35, (List.forall_mem_cons.2 ⟨infoSteps_ok36, (List.forall_mem_cons.2 ⟨infoSteps_ok37, (List.forall_mem_cons.2 ⟨infoSteps_ok38, (List.forall_mem_cons.2 ⟨infoSteps_ok39, (List.forall_mem_cons.2 ⟨infoSteps_ok40, (List.forall_mem_cons.2 ⟨infoSteps_ok41, (List.forall_mem_cons.2 ⟨infoSteps_ok42, (List.forall_mem_cons.2 ⟨infoSteps_ok43, (List.forall_mem_cons.2 ⟨infoSteps_ok44, (List.forall_mem_cons.2 ⟨infoSteps_ok45, (List.forall_mem_cons.2 ⟨infoSteps_ok46, (List.forall_mem_cons.2 ⟨infoSteps_ok47, (List.forall_mem_cons.2 ⟨infoSteps_ok48, (List.forall_mem_cons.2 ⟨infoSteps_ok49, (List.forall_mem_cons.2 ⟨infoSteps_ok50, (List.forall_mem_cons.2 ⟨infoSteps_ok51, (List.forall_mem_cons.2 ⟨infoSteps_ok52, (List.forall_mem_cons.2 ⟨infoSteps_ok53, (List.forall_mem_cons.2 ⟨infoSteps_ok54, (List.forall_mem_cons.2 ⟨infoSteps_ok55, (List.forall_mem_cons.2 ⟨infoSteps_ok56, (List.forall_mem_cons.2 ⟨infoSteps_ok57, (List.forall_mem_cons.2 ⟨infoSteps_ok58, (List.forall_mem_cons.2 ⟨infoSteps_ok59, (List.forall_mem_cons.2 ⟨infoSteps_ok60, (List.forall_mem_cons.2 ⟨infoSteps_ok61, (List.forall_mem_cons.2 ⟨infoSteps_ok62, (List.forall_mem_cons.2 ⟨infoSteps_ok63, (List.forall_mem_cons.2 ⟨infoSteps_ok64, (List.forall_mem_cons.2 ⟨infoSteps_ok65, (List.forall_mem_cons.2 ⟨infoSteps_ok66, (List.forall_mem_cons.2 ⟨infoSteps_ok67, (List.forall_mem_cons.2 ⟨infoSteps_ok68, (List.forall_mem_cons.2 ⟨infoSteps_ok69, (List.forall_mem_cons.2 ⟨infoSteps_ok70, (List.forall_mem_cons.2 ⟨infoSteps_ok71, (List.forall_mem_cons.2 ⟨infoSteps_ok72, (List.forall_mem_cons.2 ⟨infoSteps_ok73, (List.forall_mem_cons.2 ⟨infoSteps_ok74, (List.forall_mem_cons.2 ⟨infoSteps_ok75, (List.forall_mem_cons.2 ⟨infoSteps_ok76, (List.forall_mem_cons.2 ⟨infoSteps_ok77, (List.forall_mem_cons.2 ⟨infoSteps_ok78, (List.forall_mem_cons.2 ⟨infoSteps_ok79, (List.forall_mem_cons.2 ⟨infoSteps_ok80, (List.forall_mem_cons.2 ⟨infoSteps_ok81, (List.forall_mem_cons.2 ⟨infoSteps_ok82, (List.forall_mem_cons.2 ⟨infoSteps_ok83, (List.forall_mem_cons.2 ⟨infoSteps_ok84, (List.forall_mem_cons.2 ⟨infoSteps_ok85, (List.forall_mem_cons.2 ⟨infoSteps_ok86, (List.forall_mem_cons.2 ⟨infoSteps_ok87, (List.forall_mem_cons.2 ⟨infoSteps_ok88, (List.forall_mem_cons.2 ⟨infoSteps_ok89, (List.forall_mem_cons.2 ⟨infoSteps_ok90, (List.forall_mem_cons.2 ⟨infoSteps_ok91, (List.forall_mem_cons.2 ⟨infoSteps_ok92, (List.forall_mem_cons.2 ⟨infoSteps_ok93, (List.forall_mem_cons.2 ⟨infoSteps_ok94, (List.forall_mem_cons.2 ⟨infoSteps_ok95, (List.forall_mem_cons.2 ⟨infoSteps_ok96, (List.forall_mem_cons.2 ⟨infoSteps_ok97, (List.forall_mem_cons.2 ⟨infoSteps_ok98, (List.forall_mem_cons.2 ⟨infoSteps_ok99, (List.forall_mem_cons.2 ⟨infoSteps_ok100, (List.forall_mem_cons.2 ⟨infoSteps_ok101, (List.forall_mem_cons.2 ⟨infoSteps_ok102, (List.forall_mem_cons.2 ⟨infoSteps_ok103, (List.forall_mem_cons.2 ⟨infoSteps_ok104, (List.forall_mem_cons.2 ⟨infoSteps_ok105, (List.forall_mem_cons.2 ⟨infoSteps_ok106, (List.forall_mem_cons.2 ⟨infoSteps_ok107, (List.forall_mem_cons.2 ⟨infoSteps_ok108, (List.forall_mem_cons.2 ⟨infoSteps_ok109, (List.forall_mem_cons.2 ⟨infoSteps_ok110, (List.forall_mem_cons.2 ⟨infoSteps_ok111, (List.forall_mem_cons.2 ⟨infoSteps_ok112, (List.forall_mem_cons.2 ⟨infoSteps_ok113, (List.forall_mem_cons.2 ⟨infoSteps_ok114, (List.forall_mem_cons.2 ⟨infoSteps_ok115, (List.forall_mem_cons.2 ⟨infoSteps_ok116, (List.forall_mem_cons.2 ⟨infoSteps_ok117, (List.forall_mem_cons.2 ⟨infoSteps_ok118, (List.forall_mem_cons.2 ⟨infoSteps_ok119, (List.forall_mem_cons.2 ⟨infoSteps_ok120, (List.forall_mem_cons.2 ⟨infoSteps_ok121, (List.forall_mem_cons.2 ⟨infoSteps_ok122, (List.forall_mem_cons.2 ⟨infoSteps_ok123, (List.forall_mem_cons.2 ⟨infoSteps_ok124, (List.forall_mem_cons.2 ⟨infoSteps_ok125, (List.forall_mem_cons.2 ⟨infoSteps_ok126, (List.forall_mem_cons.2 ⟨infoSteps_ok127, (List.forall_mem_cons.2 ⟨infoSteps_ok128, (List.forall_mem_cons.2 ⟨infoSteps_ok129, (fun _ h => by cases h)⟩)⟩)⟩)⟩)⟩)⟩)⟩)⟩)⟩)⟩)⟩)⟩)⟩)⟩)⟩)⟩)⟩)⟩)⟩)⟩)⟩)⟩)⟩)⟩)⟩)⟩)⟩)⟩)⟩)⟩)⟩)⟩)⟩)⟩)⟩)⟩)⟩)⟩)⟩)⟩)⟩)⟩)⟩)⟩)⟩)⟩)⟩)⟩)⟩)⟩)⟩)⟩)⟩)⟩)⟩)⟩)⟩)⟩)⟩)⟩)⟩)⟩)⟩)⟩)⟩)⟩)⟩)⟩)⟩)⟩)⟩)⟩)⟩)⟩)⟩)⟩)⟩)⟩)⟩)⟩)⟩)⟩)⟩)⟩)⟩)⟩)⟩)⟩)⟩)⟩)⟩)⟩)⟩)⟩)⟩)⟩)⟩)⟩)⟩)⟩)⟩)⟩)⟩)⟩)⟩)⟩)⟩)⟩)⟩)⟩)⟩)⟩)⟩)⟩)⟩)⟩)⟩)⟩)⟩)⟩)⟩)⟩)⟩)⟩)⟩)⟩)⟩)⟩)⟩)⟩)
theorem infoSteps_fn (H : Type) : ∀ ds : List (DataW H), ds.length = 2 → Rows.infoStepsSpec.fn H ds = { results := [.lit (.bool true)], args := ds }
  | [_, _], _ => rfl
set_option maxRecDepth 100000 in
theorem infoSteps_lifted (os : Os) (started : os.Started) (H : Type) (enc : TypeId × Value → H) :
    ReturnsInHanded {} Try.checked os 9 .any (Rows.infoStepsSpec.pre6 enc Try.prog Try.f9 Rows.infoStepsRow.domain false) (Rows.infoStepsSpec.post enc Try.prog Try.f9 false true false false) := by
  refine returnsInHanded_of_change (C := Try.checked) Try.own started (by kernel_rfl) Try.func9
    (ChangeSpec.witness6 (enc := enc) (C := Try.checked) false ⟨#[], #[zeroV Try.prog 34, zeroV Try.prog 3], []⟩ 8 (by kernel_rfl) (by kernel_rfl) (by kernel_rfl) (by kernel_rfl)) ?_
  intro W base args ds gs before hval hW _ _
  have hA := hW.choose_spec.choose_spec.1
  refine (law_split_any infoSteps_tree infoSteps_leaves (us := Try.f9.params.toList) rfl (fun j t v h1 h2 => hval j t v (by rw [Array.getElem?_toList] at h1; exact h1) h2) hA).mono fun e W' ⟨he, hb⟩ => ?_
  exact ⟨_, he, law_post rfl rfl (by kernel_rfl) Try.laidOut (by kernel_rfl) (infoSteps_fn H ds (trodAll_len hA)) hW hb⟩
set_option maxRecDepth 100000 in
theorem infoSteps_holds : Rows.InfoStepsSaid :=
  OpenClaim.holds_of_wide 9 Try.f9 rfl rfl rfl rfl rfl rfl rfl ⟨rfl, rfl, rfl, rfl, rfl⟩ rfl rfl rfl rfl rfl (by kernel_rfl) Try.func9 (by kernel_rfl)
    (of_decide_eq_true (by kernel_rfl)) (by unfold Func.isWrapper; first | (rw [if_pos (by decide +kernel)]; kernel_rfl) | (rw [if_neg (by decide +kernel)]; exact ⟨rfl, rfl⟩))
    (fun os started H enc _ => infoSteps_lifted os started H enc)
end Go.Proofs.Ytllkjhnmjhpbnaa
