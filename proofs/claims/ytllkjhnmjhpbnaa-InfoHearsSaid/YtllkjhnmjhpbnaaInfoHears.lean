/-
  Of any bridge whose port is Current and was told something, the law InfoHears returns true: it hears what the document says, whatever the message is. Conditions: none.
-/
import Derived.Test.YtllkjhnmjhpbnaaInfoHears1
import Derived.Test.YtllkjhnmjhpbnaaInfoHears2
import Derived.Test.YtllkjhnmjhpbnaaInfoHears3
import Derived.Test.YtllkjhnmjhpbnaaInfoHears4
import Derived.Test.YtllkjhnmjhpbnaaInfoHears5
import Derived.Test.YtllkjhnmjhpbnaaInfoHears6
import Derived.Test.YtllkjhnmjhpbnaaInfoHears7
import Derived.Test.YtllkjhnmjhpbnaaInfoHears8
import Derived.Test.YtllkjhnmjhpbnaaInfoHears9
import Derived.Test.YtllkjhnmjhpbnaaInfoHears10
import Derived.Test.YtllkjhnmjhpbnaaInfoHears11
import Derived.Test.YtllkjhnmjhpbnaaInfoHears12
import Derived.Test.YtllkjhnmjhpbnaaInfoHears13
import Derived.Test.YtllkjhnmjhpbnaaInfoHears14
import Derived.Test.YtllkjhnmjhpbnaaInfoHears15
import Derived.Test.YtllkjhnmjhpbnaaInfoHears16
import Derived.Test.YtllkjhnmjhpbnaaInfoHears17
import Derived.Test.YtllkjhnmjhpbnaaInfoHears18
import Derived.Test.YtllkjhnmjhpbnaaInfoHears19
import Derived.Test.YtllkjhnmjhpbnaaInfoHears20
namespace Go.Proofs.Ytllkjhnmjhpbnaa
open Go.SX
def infoHearsTree : List (List Bool × Sp) :=
  [([true], (.node (.ltI (.lit (20)) (.var 0))
   .leaf
   (.node (.eqI (.var 0) (.lit (0)))
   .leaf
   (.node (.ltI (.cell 1000000 (.lit (0)) 18) (.var 0))
   (.node (.ltI (.cell 1000000 (.lit (0)) 18) (.lit (0)))
   .leaf
   (.node (.eqI (.cell 1000000 (.lit (0)) 19) (.lit (1)))
   (.node (.eqI (.wrap .u64 (qT 56)) (.wrap .u64 (.cell 1000000 (.lit (0)) 21)))
   (.node (.eqI (.wrap .u32 (qT 57)) (.wrap .u32 (.cell 1000000 (.lit (0)) 22)))
   (.node (.eqI (.wrap .u64 (qT 58)) (.wrap .u64 (.cell 1000000 (.lit (0)) 23)))
   (.node (.eqI (.wrap .u16 (qT 59)) (.wrap .u16 (.cell 1000000 (.lit (0)) 24)))
   (.node (.eqI (qT 69) (.bin .quo (.wrap .u16 (.cell 1000000 (.lit (0)) 26)) (.lit (256))))
   (.node (.eqI (qT 71) (.bin .quo (.wrap .u16 (.cell 1000000 (.lit (0)) 28)) (.lit (256))))
   (.node (.eqI (qT 44) (.lit (3)))
   .leaf
   .leaf)
   (.node (.eqI (qT 44) (.lit (3)))
   .leaf
   .leaf))
   (.node (.eqI (qT 44) (.lit (3)))
   .leaf
   .leaf))
   (.node (.ltI (.wrap .u16 (qT 59)) (.wrap .u16 (.cell 1000000 (.lit (0)) 24)))
   (.node (.eqI (.bin .rem (.wrap .u16 (qT 59)) (.lit (4096))) (.bin .rem (.wrap .u16 (.cell 1000000 (.lit (0)) 24)) (.lit (4096))))
   (.node (.all 999983 (.lit (1)) (.and (.eqI (.bin .rem (.bin .quo (.wrap .u64 (qT 58)) (.lit (1099511627776))) (.lit (256))) (.bin .rem (.bin .quo (.wrap .u64 (.cell 1000000 (.lit (0)) 23)) (.lit (1099511627776))) (.lit (256)))) (.and (.eqI (.bin .rem (.bin .quo (.wrap .u64 (qT 58)) (.lit (4294967296))) (.lit (256))) (.bin .rem (.bin .quo (.wrap .u64 (.cell 1000000 (.lit (0)) 23)) (.lit (4294967296))) (.lit (256)))) (.and (.eqI (.bin .rem (.bin .quo (.wrap .u64 (qT 58)) (.lit (16777216))) (.lit (256))) (.bin .rem (.bin .quo (.wrap .u64 (.cell 1000000 (.lit (0)) 23)) (.lit (16777216))) (.lit (256)))) (.and (.eqI (.bin .rem (.bin .quo (.wrap .u64 (qT 58)) (.lit (65536))) (.lit (256))) (.bin .rem (.bin .quo (.wrap .u64 (.cell 1000000 (.lit (0)) 23)) (.lit (65536))) (.lit (256)))) (.and (.eqI (.bin .rem (.bin .quo (.wrap .u64 (qT 58)) (.lit (256))) (.lit (256))) (.bin .rem (.bin .quo (.wrap .u64 (.cell 1000000 (.lit (0)) 23)) (.lit (256))) (.lit (256)))) (.eqI (.bin .rem (.wrap .u64 (qT 58)) (.lit (256))) (.bin .rem (.wrap .u64 (.cell 1000000 (.lit (0)) 23)) (.lit (256))))))))))
   .leaf
   .leaf)
   .leaf)
   .leaf))
   (.node (.ltI (.wrap .u64 (qT 58)) (.wrap .u64 (.cell 1000000 (.lit (0)) 23)))
   (.node (.eqI (.bin .rem (.wrap .u16 (qT 59)) (.lit (4096))) (.bin .rem (.wrap .u16 (.cell 1000000 (.lit (0)) 24)) (.lit (4096))))
   (.node (.all 999983 (.lit (1)) (.and (.eqI (.bin .rem (.bin .quo (.wrap .u64 (qT 58)) (.lit (1099511627776))) (.lit (256))) (.bin .rem (.bin .quo (.wrap .u64 (.cell 1000000 (.lit (0)) 23)) (.lit (1099511627776))) (.lit (256)))) (.and (.eqI (.bin .rem (.bin .quo (.wrap .u64 (qT 58)) (.lit (4294967296))) (.lit (256))) (.bin .rem (.bin .quo (.wrap .u64 (.cell 1000000 (.lit (0)) 23)) (.lit (4294967296))) (.lit (256)))) (.and (.eqI (.bin .rem (.bin .quo (.wrap .u64 (qT 58)) (.lit (16777216))) (.lit (256))) (.bin .rem (.bin .quo (.wrap .u64 (.cell 1000000 (.lit (0)) 23)) (.lit (16777216))) (.lit (256)))) (.and (.eqI (.bin .rem (.bin .quo (.wrap .u64 (qT 58)) (.lit (65536))) (.lit (256))) (.bin .rem (.bin .quo (.wrap .u64 (.cell 1000000 (.lit (0)) 23)) (.lit (65536))) (.lit (256)))) (.and (.eqI (.bin .rem (.bin .quo (.wrap .u64 (qT 58)) (.lit (256))) (.lit (256))) (.bin .rem (.bin .quo (.wrap .u64 (.cell 1000000 (.lit (0)) 23)) (.lit (256))) (.lit (256)))) (.eqI (.bin .rem (.wrap .u64 (qT 58)) (.lit (256))) (.bin .rem (.wrap .u64 (.cell 1000000 (.lit (0)) 23)) (.lit (256))))))))))
   .leaf
   .leaf)
   .leaf)
   .leaf))
   (.node (.ltI (.wrap .u32 (qT 57)) (.wrap .u32 (.cell 1000000 (.lit (0)) 22)))
   (.node (.eqI (.bin .rem (.wrap .u16 (qT 59)) (.lit (4096))) (.bin .rem (.wrap .u16 (.cell 1000000 (.lit (0)) 24)) (.lit (4096))))
   (.node (.all 999983 (.lit (1)) (.and (.eqI (.bin .rem (.bin .quo (.wrap .u64 (qT 58)) (.lit (1099511627776))) (.lit (256))) (.bin .rem (.bin .quo (.wrap .u64 (.cell 1000000 (.lit (0)) 23)) (.lit (1099511627776))) (.lit (256)))) (.and (.eqI (.bin .rem (.bin .quo (.wrap .u64 (qT 58)) (.lit (4294967296))) (.lit (256))) (.bin .rem (.bin .quo (.wrap .u64 (.cell 1000000 (.lit (0)) 23)) (.lit (4294967296))) (.lit (256)))) (.and (.eqI (.bin .rem (.bin .quo (.wrap .u64 (qT 58)) (.lit (16777216))) (.lit (256))) (.bin .rem (.bin .quo (.wrap .u64 (.cell 1000000 (.lit (0)) 23)) (.lit (16777216))) (.lit (256)))) (.and (.eqI (.bin .rem (.bin .quo (.wrap .u64 (qT 58)) (.lit (65536))) (.lit (256))) (.bin .rem (.bin .quo (.wrap .u64 (.cell 1000000 (.lit (0)) 23)) (.lit (65536))) (.lit (256)))) (.and (.eqI (.bin .rem (.bin .quo (.wrap .u64 (qT 58)) (.lit (256))) (.lit (256))) (.bin .rem (.bin .quo (.wrap .u64 (.cell 1000000 (.lit (0)) 23)) (.lit (256))) (.lit (256)))) (.eqI (.bin .rem (.wrap .u64 (qT 58)) (.lit (256))) (.bin .rem (.wrap .u64 (.cell 1000000 (.lit (0)) 23)) (.lit (256))))))))))
   .leaf
   .leaf)
   .leaf)
   .leaf))
   (.node (.ltI (.wrap .u64 (qT 56)) (.wrap .u64 (.cell 1000000 (.lit (0)) 21)))
   (.node (.eqI (.bin .rem (.wrap .u16 (qT 59)) (.lit (4096))) (.bin .rem (.wrap .u16 (.cell 1000000 (.lit (0)) 24)) (.lit (4096))))
   (.node (.all 999983 (.lit (1)) (.and (.eqI (.bin .rem (.bin .quo (.wrap .u64 (qT 58)) (.lit (1099511627776))) (.lit (256))) (.bin .rem (.bin .quo (.wrap .u64 (.cell 1000000 (.lit (0)) 23)) (.lit (1099511627776))) (.lit (256)))) (.and (.eqI (.bin .rem (.bin .quo (.wrap .u64 (qT 58)) (.lit (4294967296))) (.lit (256))) (.bin .rem (.bin .quo (.wrap .u64 (.cell 1000000 (.lit (0)) 23)) (.lit (4294967296))) (.lit (256)))) (.and (.eqI (.bin .rem (.bin .quo (.wrap .u64 (qT 58)) (.lit (16777216))) (.lit (256))) (.bin .rem (.bin .quo (.wrap .u64 (.cell 1000000 (.lit (0)) 23)) (.lit (16777216))) (.lit (256)))) (.and (.eqI (.bin .rem (.bin .quo (.wrap .u64 (qT 58)) (.lit (65536))) (.lit (256))) (.bin .rem (.bin .quo (.wrap .u64 (.cell 1000000 (.lit (0)) 23)) (.lit (65536))) (.lit (256)))) (.and (.eqI (.bin .rem (.bin .quo (.wrap .u64 (qT 58)) (.lit (256))) (.lit (256))) (.bin .rem (.bin .quo (.wrap .u64 (.cell 1000000 (.lit (0)) 23)) (.lit (256))) (.lit (256)))) (.eqI (.bin .rem (.wrap .u64 (qT 58)) (.lit (256))) (.bin .rem (.wrap .u64 (.cell 1000000 (.lit (0)) 23)) (.lit (256))))))))))
   .leaf
   .leaf)
   .leaf)
   .leaf))
   (.node (.eqI (.cell 1000000 (.lit (0)) 19) (.lit (3)))
   (.node (.eqI (.bin .rem (.bin .quo (.wrap .u8 (.cell 1000000 (.lit (0)) 20)) (.lit (4))) (.lit (4))) (.lit (3)))
   (.node (.eqI (.wrap .u64 (qT 56)) (.wrap .u64 (.cell 1000000 (.lit (0)) 21)))
   (.node (.eqI (.wrap .u32 (qT 57)) (.wrap .u32 (.cell 1000000 (.lit (0)) 22)))
   (.node (.eqI (.wrap .u64 (qT 58)) (.wrap .u64 (.cell 1000000 (.lit (0)) 23)))
   (.node (.eqI (.wrap .u16 (qT 59)) (.wrap .u16 (.cell 1000000 (.lit (0)) 24)))
   (.node (.eqI (qT 69) (.bin .quo (.wrap .u16 (.cell 1000000 (.lit (0)) 26)) (.lit (256))))
   (.node (.eqI (qT 71) (.bin .quo (.wrap .u16 (.cell 1000000 (.lit (0)) 28)) (.lit (256))))
   (.node (.eqI (qT 44) (.lit (3)))
   .leaf
   .leaf)
   (.node (.eqI (qT 44) (.lit (3)))
   .leaf
   .leaf))
   (.node (.eqI (qT 44) (.lit (3)))
   .leaf
   .leaf))
   (.node (.ltI (.wrap .u16 (qT 59)) (.wrap .u16 (.cell 1000000 (.lit (0)) 24)))
   (.node (.eqI (.bin .rem (.wrap .u16 (qT 59)) (.lit (4096))) (.bin .rem (.wrap .u16 (.cell 1000000 (.lit (0)) 24)) (.lit (4096))))
   (.node (.all 999983 (.lit (1)) (.and (.eqI (.bin .rem (.bin .quo (.wrap .u64 (qT 58)) (.lit (1099511627776))) (.lit (256))) (.bin .rem (.bin .quo (.wrap .u64 (.cell 1000000 (.lit (0)) 23)) (.lit (1099511627776))) (.lit (256)))) (.and (.eqI (.bin .rem (.bin .quo (.wrap .u64 (qT 58)) (.lit (4294967296))) (.lit (256))) (.bin .rem (.bin .quo (.wrap .u64 (.cell 1000000 (.lit (0)) 23)) (.lit (4294967296))) (.lit (256)))) (.and (.eqI (.bin .rem (.bin .quo (.wrap .u64 (qT 58)) (.lit (16777216))) (.lit (256))) (.bin .rem (.bin .quo (.wrap .u64 (.cell 1000000 (.lit (0)) 23)) (.lit (16777216))) (.lit (256)))) (.and (.eqI (.bin .rem (.bin .quo (.wrap .u64 (qT 58)) (.lit (65536))) (.lit (256))) (.bin .rem (.bin .quo (.wrap .u64 (.cell 1000000 (.lit (0)) 23)) (.lit (65536))) (.lit (256)))) (.and (.eqI (.bin .rem (.bin .quo (.wrap .u64 (qT 58)) (.lit (256))) (.lit (256))) (.bin .rem (.bin .quo (.wrap .u64 (.cell 1000000 (.lit (0)) 23)) (.lit (256))) (.lit (256)))) (.eqI (.bin .rem (.wrap .u64 (qT 58)) (.lit (256))) (.bin .rem (.wrap .u64 (.cell 1000000 (.lit (0)) 23)) (.lit (256))))))))))
   .leaf
   .leaf)
   .leaf)
   .leaf))
   (.node (.ltI (.wrap .u64 (qT 58)) (.wrap .u64 (.cell 1000000 (.lit (0)) 23)))
   (.node (.eqI (.bin .rem (.wrap .u16 (qT 59)) (.lit (4096))) (.bin .rem (.wrap .u16 (.cell 1000000 (.lit (0)) 24)) (.lit (4096))))
   (.node (.all 999983 (.lit (1)) (.and (.eqI (.bin .rem (.bin .quo (.wrap .u64 (qT 58)) (.lit (1099511627776))) (.lit (256))) (.bin .rem (.bin .quo (.wrap .u64 (.cell 1000000 (.lit (0)) 23)) (.lit (1099511627776))) (.lit (256)))) (.and (.eqI (.bin .rem (.bin .quo (.wrap .u64 (qT 58)) (.lit (4294967296))) (.lit (256))) (.bin .rem (.bin .quo (.wrap .u64 (.cell 1000000 (.lit (0)) 23)) (.lit (4294967296))) (.lit (256)))) (.and (.eqI (.bin .rem (.bin .quo (.wrap .u64 (qT 58)) (.lit (16777216))) (.lit (256))) (.bin .rem (.bin .quo (.wrap .u64 (.cell 1000000 (.lit (0)) 23)) (.lit (16777216))) (.lit (256)))) (.and (.eqI (.bin .rem (.bin .quo (.wrap .u64 (qT 58)) (.lit (65536))) (.lit (256))) (.bin .rem (.bin .quo (.wrap .u64 (.cell 1000000 (.lit (0)) 23)) (.lit (65536))) (.lit (256)))) (.and (.eqI (.bin .rem (.bin .quo (.wrap .u64 (qT 58)) (.lit (256))) (.lit (256))) (.bin .rem (.bin .quo (.wrap .u64 (.cell 1000000 (.lit (0)) 23)) (.lit (256))) (.lit (256)))) (.eqI (.bin .rem (.wrap .u64 (qT 58)) (.lit (256))) (.bin .rem (.wrap .u64 (.cell 1000000 (.lit (0)) 23)) (.lit (256))))))))))
   .leaf
   .leaf)
   .leaf)
   .leaf))
   (.node (.ltI (.wrap .u32 (qT 57)) (.wrap .u32 (.cell 1000000 (.lit (0)) 22)))
   (.node (.eqI (.bin .rem (.wrap .u16 (qT 59)) (.lit (4096))) (.bin .rem (.wrap .u16 (.cell 1000000 (.lit (0)) 24)) (.lit (4096))))
   (.node (.all 999983 (.lit (1)) (.and (.eqI (.bin .rem (.bin .quo (.wrap .u64 (qT 58)) (.lit (1099511627776))) (.lit (256))) (.bin .rem (.bin .quo (.wrap .u64 (.cell 1000000 (.lit (0)) 23)) (.lit (1099511627776))) (.lit (256)))) (.and (.eqI (.bin .rem (.bin .quo (.wrap .u64 (qT 58)) (.lit (4294967296))) (.lit (256))) (.bin .rem (.bin .quo (.wrap .u64 (.cell 1000000 (.lit (0)) 23)) (.lit (4294967296))) (.lit (256)))) (.and (.eqI (.bin .rem (.bin .quo (.wrap .u64 (qT 58)) (.lit (16777216))) (.lit (256))) (.bin .rem (.bin .quo (.wrap .u64 (.cell 1000000 (.lit (0)) 23)) (.lit (16777216))) (.lit (256)))) (.and (.eqI (.bin .rem (.bin .quo (.wrap .u64 (qT 58)) (.lit (65536))) (.lit (256))) (.bin .rem (.bin .quo (.wrap .u64 (.cell 1000000 (.lit (0)) 23)) (.lit (65536))) (.lit (256)))) (.and (.eqI (.bin .rem (.bin .quo (.wrap .u64 (qT 58)) (.lit (256))) (.lit (256))) (.bin .rem (.bin .quo (.wrap .u64 (.cell 1000000 (.lit (0)) 23)) (.lit (256))) (.lit (256)))) (.eqI (.bin .rem (.wrap .u64 (qT 58)) (.lit (256))) (.bin .rem (.wrap .u64 (.cell 1000000 (.lit (0)) 23)) (.lit (256))))))))))
   .leaf
   .leaf)
   .leaf)
   .leaf))
   (.node (.ltI (.wrap .u64 (qT 56)) (.wrap .u64 (.cell 1000000 (.lit (0)) 21)))
   (.node (.eqI (.bin .rem (.wrap .u16 (qT 59)) (.lit (4096))) (.bin .rem (.wrap .u16 (.cell 1000000 (.lit (0)) 24)) (.lit (4096))))
   (.node (.all 999983 (.lit (1)) (.and (.eqI (.bin .rem (.bin .quo (.wrap .u64 (qT 58)) (.lit (1099511627776))) (.lit (256))) (.bin .rem (.bin .quo (.wrap .u64 (.cell 1000000 (.lit (0)) 23)) (.lit (1099511627776))) (.lit (256)))) (.and (.eqI (.bin .rem (.bin .quo (.wrap .u64 (qT 58)) (.lit (4294967296))) (.lit (256))) (.bin .rem (.bin .quo (.wrap .u64 (.cell 1000000 (.lit (0)) 23)) (.lit (4294967296))) (.lit (256)))) (.and (.eqI (.bin .rem (.bin .quo (.wrap .u64 (qT 58)) (.lit (16777216))) (.lit (256))) (.bin .rem (.bin .quo (.wrap .u64 (.cell 1000000 (.lit (0)) 23)) (.lit (16777216))) (.lit (256)))) (.and (.eqI (.bin .rem (.bin .quo (.wrap .u64 (qT 58)) (.lit (65536))) (.lit (256))) (.bin .rem (.bin .quo (.wrap .u64 (.cell 1000000 (.lit (0)) 23)) (.lit (65536))) (.lit (256)))) (.and (.eqI (.bin .rem (.bin .quo (.wrap .u64 (qT 58)) (.lit (256))) (.lit (256))) (.bin .rem (.bin .quo (.wrap .u64 (.cell 1000000 (.lit (0)) 23)) (.lit (256))) (.lit (256)))) (.eqI (.bin .rem (.wrap .u64 (qT 58)) (.lit (256))) (.bin .rem (.wrap .u64 (.cell 1000000 (.lit (0)) 23)) (.lit (256))))))))))
   .leaf
   .leaf)
   .leaf)
   .leaf))
   (.node (.eqI (.bin .rem (.bin .quo (.wrap .u8 (.cell 1000000 (.lit (0)) 20)) (.lit (4))) (.lit (4))) (.lit (1)))
   (.node (.eqI (.wrap .u64 (qT 56)) (.wrap .u64 (.cell 1000000 (.lit (0)) 21)))
   (.node (.eqI (.wrap .u32 (qT 57)) (.wrap .u32 (.cell 1000000 (.lit (0)) 22)))
   (.node (.eqI (.wrap .u64 (qT 58)) (.wrap .u64 (.cell 1000000 (.lit (0)) 23)))
   (.node (.ltI (.wrap .u16 (qT 59)) (.wrap .u16 (.cell 1000000 (.lit (0)) 24)))
   .leaf
   .leaf)
   (.node (.ltI (.wrap .u64 (qT 58)) (.wrap .u64 (.cell 1000000 (.lit (0)) 23)))
   .leaf
   .leaf))
   (.node (.ltI (.wrap .u32 (qT 57)) (.wrap .u32 (.cell 1000000 (.lit (0)) 22)))
   .leaf
   .leaf))
   (.node (.ltI (.wrap .u64 (qT 56)) (.wrap .u64 (.cell 1000000 (.lit (0)) 21)))
   .leaf
   .leaf))
   (.node (.eqI (.bin .rem (.bin .quo (.wrap .u8 (.cell 1000000 (.lit (0)) 20)) (.lit (4))) (.lit (4))) (.lit (2)))
   (.node (.eqI (.wrap .u64 (qT 56)) (.wrap .u64 (.cell 1000000 (.lit (0)) 21)))
   (.node (.eqI (.wrap .u32 (qT 57)) (.wrap .u32 (.cell 1000000 (.lit (0)) 22)))
   (.node (.eqI (.wrap .u64 (qT 58)) (.wrap .u64 (.cell 1000000 (.lit (0)) 23)))
   (.node (.ltI (.wrap .u16 (qT 59)) (.wrap .u16 (.cell 1000000 (.lit (0)) 24)))
   .leaf
   .leaf)
   (.node (.ltI (.wrap .u64 (qT 58)) (.wrap .u64 (.cell 1000000 (.lit (0)) 23)))
   .leaf
   .leaf))
   (.node (.ltI (.wrap .u32 (qT 57)) (.wrap .u32 (.cell 1000000 (.lit (0)) 22)))
   .leaf
   .leaf))
   (.node (.ltI (.wrap .u64 (qT 56)) (.wrap .u64 (.cell 1000000 (.lit (0)) 21)))
   .leaf
   .leaf))
   .leaf)))
   .leaf)))
   .leaf)))),
  ([false], .leaf)]
theorem infoHears_tree : splitOk Try.checked.prog [34, 3, 47] infoHearsTree = true := by kernel_rfl
theorem infoHears_all : allLeaves infoHearsTree = [infoHearsL0, infoHearsL1, infoHearsL2, infoHearsL3, infoHearsL4, infoHearsL5, infoHearsL6, infoHearsL7, infoHearsL8, infoHearsL9, infoHearsL10, infoHearsL11, infoHearsL12, infoHearsL13, infoHearsL14, infoHearsL15, infoHearsL16, infoHearsL17, infoHearsL18, infoHearsL19, infoHearsL20, infoHearsL21, infoHearsL22, infoHearsL23, infoHearsL24, infoHearsL25, infoHearsL26, infoHearsL27, infoHearsL28, infoHearsL29, infoHearsL30, infoHearsL31, infoHearsL32, infoHearsL33, infoHearsL34, infoHearsL35, infoHearsL36, infoHearsL37, infoHearsL38, infoHearsL39, infoHearsL40, infoHearsL41, infoHearsL42, infoHearsL43, infoHearsL44, infoHearsL45, infoHearsL46, infoHearsL47, infoHearsL48, infoHearsL49, infoHearsL50, infoHearsL51, infoHearsL52, infoHearsL53, infoHearsL54, infoHearsL55, infoHearsL56, infoHearsL57, infoHearsL58, infoHearsL59, infoHearsL60, infoHearsL61, infoHearsL62, infoHearsL63, infoHearsL64, infoHearsL65, infoHearsL66] := by kernel_rfl
theorem infoHears_leaves : ∀ x ∈ allLeaves infoHearsTree, LeafOk Try.checked.prog 10 [34, 3, 47] x := by
  rw [infoHears_all]
  exact (List.forall_mem_cons.2 ⟨infoHears_ok0, (List.forall_mem_cons.2 ⟨infoHears_ok1, (List.forall_mem_cons.2 ⟨infoHears_ok2, (List.forall_mem_cons.2 ⟨infoHears_ok3, (List.forall_mem_cons.2 ⟨infoHears_ok4, (List.forall_mem_cons.2 ⟨infoHears_ok5, (List.forall_mem_cons.2 ⟨infoHears_ok6, (List.forall_mem_cons.2 ⟨infoHears_ok7, (List.forall_mem_cons.2 ⟨infoHears_ok8, (List.forall_mem_cons.2 ⟨infoHears_ok9, (List.forall_mem_cons.2 ⟨infoHears_ok10, (List.forall_mem_cons.2 ⟨infoHears_ok11, (List.forall_mem_cons.2 ⟨infoHears_ok12, (List.forall_mem_cons.2 ⟨infoHears_ok13, (List.forall_mem_cons.2 ⟨infoHears_ok14, (List.forall_mem_cons.2 ⟨infoHears_ok15, (List.forall_mem_cons.2 ⟨infoHears_ok16, (List.forall_mem_cons.2 ⟨infoHears_ok17, (List.forall_mem_cons.2 ⟨infoHears_ok18, (List.forall_mem_cons.2 ⟨infoHears_ok19, (List.forall_mem_cons.2 ⟨infoHears_ok20, (List.forall_mem_cons.2 ⟨infoHears_ok21, (List.forall_mem_cons.2 ⟨infoHears_ok22, (List.forall_mem_cons.2 ⟨infoHears_ok23, (List.forall_mem_cons.2 ⟨infoHears_ok24, (List.forall_mem_cons.2 ⟨infoHears_ok25, (List.forall_mem_cons.2 ⟨infoHears_ok26, (List.forall_mem_cons.2 ⟨infoHears_ok27, (List.forall_mem_cons.2 ⟨infoHears_ok28, (List.forall_mem_cons.2 ⟨infoHears_ok29, (List.forall_mem_cons.2 ⟨infoHears_ok30, (List.forall_mem_cons.2 ⟨infoHears_ok31, (List.forall_mem_cons.2 ⟨infoHears_ok32, (List.forall_mem_cons.2 ⟨infoHears_ok33, (List.forall_mem_cons.2 ⟨infoHears_ok34, (List.forall_mem_cons.2 ⟨infoHears_ok35, (List.forall_mem_cons.2 ⟨infoHears_ok36, (List.forall_mem_cons.2 ⟨infoHears_ok37, (List.forall_mem_cons.2 ⟨infoHears_ok38, (List.forall_mem_cons.2 ⟨infoHears_ok39, (List.forall_mem_cons.2 ⟨infoHears_ok40, (List.forall_mem_cons.2 ⟨infoHears_ok41, (List.forall_mem_cons.2 ⟨infoHears_ok42, (List.forall_mem_cons.2 ⟨infoHears_ok43, (List.forall_mem_cons.2 ⟨infoHears_ok44, (List.forall_mem_cons.2 ⟨infoHears_ok45, (List.forall_mem_cons.2 ⟨infoHears_ok46, (List.forall_mem_cons.2 ⟨infoHears_ok47, (List.forall_mem_cons.2 ⟨infoHears_ok48, (List.forall_mem_cons.2 ⟨infoHears_ok49, (List.forall_mem_cons.2 ⟨infoHears_ok50, (List.forall_mem_cons.2 ⟨infoHears_ok51, (List.forall_mem_cons.2 ⟨infoHears_ok52, (List.forall_mem_cons.2 ⟨infoHears_ok53, (List.forall_mem_cons.2 ⟨infoHears_ok54, (List.forall_mem_cons.2 ⟨infoHears_ok55, (List.forall_mem_cons.2 ⟨infoHears_ok56, (List.forall_mem_cons.2 ⟨infoHears_ok57, (List.forall_mem_cons.2 ⟨infoHears_ok58, (List.forall_mem_cons.2 ⟨infoHears_ok59, (List.forall_mem_cons.2 ⟨infoHears_ok60, (List.forall_mem_cons.2 ⟨infoHears_ok61, (List.forall_mem_cons.2 ⟨infoHears_ok62, (List.forall_mem_cons.2 ⟨infoHears_ok63, (List.forall_mem_cons.2 ⟨infoHears_ok64, (List.forall_mem_cons.2 ⟨infoHears_ok65, (List.forall_mem_cons.2 ⟨infoHears_ok66, (fun _ h => by cases h)⟩)⟩)⟩)⟩)⟩)⟩)⟩)⟩)⟩)⟩)⟩)⟩)⟩)⟩)⟩)⟩)⟩)⟩)⟩)⟩)⟩)⟩)⟩)⟩)⟩)⟩)⟩)⟩)⟩)⟩)⟩)⟩)⟩)⟩)⟩)⟩)⟩)⟩)⟩)⟩)⟩)⟩)⟩)⟩)⟩)⟩)⟩)⟩)⟩)⟩)⟩)⟩)⟩)⟩)⟩)⟩)⟩)⟩)⟩)⟩)⟩)⟩)⟩)⟩)⟩)⟩)⟩)
theorem infoHears_fn (H : Type) : ∀ ds : List (DataW H), ds.length = 3 → Rows.infoHearsSpec.fn H ds = { results := [.lit (.bool true)], args := ds }
  | [_, _, _], _ => rfl
set_option maxRecDepth 100000 in
theorem infoHears_lifted (os : Os) (started : os.Started) (H : Type) (enc : TypeId × Value → H) :
    ReturnsInHanded {} Try.checked os 10 .any (Rows.infoHearsSpec.pre6 enc Try.prog Try.f10 Rows.infoHearsRow.domain false) (Rows.infoHearsSpec.post enc Try.prog Try.f10 false true false false) := by
  refine returnsInHanded_of_change (C := Try.checked) Try.own started (by kernel_rfl) Try.func10
    (ChangeSpec.witness6 (enc := enc) (C := Try.checked) false ⟨#[], #[zeroV Try.prog 34, zeroV Try.prog 3, zeroV Try.prog 47], []⟩ 8 (by kernel_rfl) (by kernel_rfl) (by kernel_rfl) (by kernel_rfl)) ?_
  intro W base args ds gs before hval hW _ _
  have hA := hW.choose_spec.choose_spec.1
  refine (law_split_any infoHears_tree infoHears_leaves (us := Try.f10.params.toList) rfl (fun j t v h1 h2 => hval j t v (by rw [Array.getElem?_toList] at h1; exact h1) h2) hA).mono fun e W' ⟨he, hb⟩ => ?_
  exact ⟨_, he, law_post rfl rfl (by kernel_rfl) Try.laidOut (by kernel_rfl) (infoHears_fn H ds (trodAll_len hA)) hW hb⟩
set_option maxRecDepth 100000 in
theorem infoHears_holds : Rows.InfoHearsSaid :=
  OpenClaim.holds_of_wide 10 Try.f10 rfl rfl rfl rfl rfl rfl rfl ⟨rfl, rfl, rfl, rfl, rfl⟩ rfl rfl rfl rfl rfl (by kernel_rfl) Try.func10 (by kernel_rfl)
    (of_decide_eq_true (by kernel_rfl)) (by unfold Func.isWrapper; first | (rw [if_pos (by decide +kernel)]; kernel_rfl) | (rw [if_neg (by decide +kernel)]; exact ⟨rfl, rfl⟩))
    (fun os started H enc _ => infoHears_lifted os started H enc)
end Go.Proofs.Ytllkjhnmjhpbnaa
