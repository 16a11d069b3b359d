/-
  Terms that stand often in the memos of the law AddrNumbers.
-/
import Derived.Test.YtpkfeinnhdnfiaaAddrNumbers0
namespace Go.Proofs.Ytpkfeinnhdnfiaa
open Go.SX
def addrNumbersQ0 : List SV := [(.int .u8 (.cell 1000000 (.lit (0)) 0)), (.int .u8 (.cell 1000000 (.lit (0)) 1)), (.int .u8 (.cell 1000000 (.lit (0)) 2)), (.int .u8 (.cell 1000000 (.lit (0)) 3)), (.int .u8 (.cell 1000000 (.lit (0)) 4)), (.int .u8 (.cell 1000000 (.lit (0)) 5))]
def addrNumbersQ1 : List SV := [(.int .u8 (.cell 1000000 (.lit (0)) 6)), (.int .u8 (.cell 1000000 (.lit (0)) 7)), (.int .u8 (.cell 1000000 (.lit (0)) 8)), (.int .u8 (.cell 1000000 (.lit (0)) 9)), (.int .u8 (.cell 1000000 (.lit (0)) 10)), (.int .u8 (.cell 1000000 (.lit (0)) 11))]
def addrNumbersQ2 : T := (.wrap .u8 (.cell 1000000 (.lit (0)) 0))
def addrNumbersQ3 : T := (.wrap .u8 (.cell 1000000 (.lit (0)) 1))
def addrNumbersQ4 : T := (.bin .add (.bin .mul addrNumbersQ2 (.lit (256))) addrNumbersQ3)
def addrNumbersQ5 : T := (.wrap .u8 (.cell 1000000 (.lit (0)) 2))
def addrNumbersQ6 : T := (.wrap .u8 (.cell 1000000 (.lit (0)) 3))
def addrNumbersQ7 : T := (.wrap .u8 (.cell 1000000 (.lit (0)) 4))
def addrNumbersQ8 : T := (.wrap .u8 (.cell 1000000 (.lit (0)) 5))
def addrNumbersQ9 : T := (.bin .add (.bin .mul (.bin .add (.bin .mul (.bin .add (.bin .mul (.bin .add (.bin .mul addrNumbersQ4 (.lit (256))) addrNumbersQ5) (.lit (256))) addrNumbersQ6) (.lit (256))) addrNumbersQ7) (.lit (256))) addrNumbersQ8)
def addrNumbersQ10 : T := (.bin .add (.bin .mul (.bin .add (.bin .mul (.bin .add (.bin .mul (.bin .add (.bin .mul (.bin .add (.bin .mul (.wrap .u8 (.cell 1000000 (.lit (0)) 6)) (.lit (256))) (.wrap .u8 (.cell 1000000 (.lit (0)) 7))) (.lit (256))) (.wrap .u8 (.cell 1000000 (.lit (0)) 8))) (.lit (256))) (.wrap .u8 (.cell 1000000 (.lit (0)) 9))) (.lit (256))) (.wrap .u8 (.cell 1000000 (.lit (0)) 10))) (.lit (256))) (.wrap .u8 (.cell 1000000 (.lit (0)) 11)))
def addrNumbersQ11 : B := (.ltI addrNumbersQ9 addrNumbersQ10)
def addrNumbersQ12 : List SV := [(.int .u8 addrNumbersQ2), (.int .u8 addrNumbersQ3), (.int .u8 addrNumbersQ5), (.int .u8 addrNumbersQ6), (.int .u8 addrNumbersQ7), (.int .u8 addrNumbersQ8)]
def addrNumbersQ13 : List SV := [(.agg addrNumbersQ12), (.int .i64 (.lit (0)))]
def addrNumbersQ14 : List SV := [(.int .u64 addrNumbersQ9)]
def addrNumbersQ15 : T := (.bin .quo addrNumbersQ4 (.lit (256)))
def addrNumbersQ16 : T := (.bin .rem (.bin .add addrNumbersQ4 (.bin .quo addrNumbersQ5 (.lit (256)))) (.lit (256)))
def addrNumbersQ17 : List SV := [(.int .u8 addrNumbersQ15), (.int .u8 addrNumbersQ16), (.int .u8 addrNumbersQ5), (.int .u8 addrNumbersQ6), (.int .u8 addrNumbersQ7), (.int .u8 addrNumbersQ8)]
def addrNumbersQ18 : List SV := [(.int .u64 (.cell 1000000 (.lit (0)) 12))]
def addrNumbersQ19 : B := (.all 999983 (.lit (1)) (.and (.eqI addrNumbersQ2 addrNumbersQ15) (.eqI addrNumbersQ3 addrNumbersQ16)))
def addrNumbersQ20 : T := (.wrap .u64 (.cell 1000000 (.lit (0)) 12))
def addrNumbersQ21 : List SV := [(.int .u8 (.bin .rem (.bin .quo addrNumbersQ20 (.lit (1099511627776))) (.lit (256)))), (.int .u8 (.bin .rem (.bin .quo addrNumbersQ20 (.lit (4294967296))) (.lit (256)))), (.int .u8 (.bin .rem (.bin .quo addrNumbersQ20 (.lit (16777216))) (.lit (256)))), (.int .u8 (.bin .rem (.bin .quo addrNumbersQ20 (.lit (65536))) (.lit (256)))), (.int .u8 (.bin .rem (.bin .quo addrNumbersQ20 (.lit (256))) (.lit (256)))), (.int .u8 (.bin .rem addrNumbersQ20 (.lit (256))))]
def addrNumbersQ22 : B := (.eqI addrNumbersQ2 (.lit (1)))
def addrNumbersQ23 : B := (.eqI addrNumbersQ3 (.lit (128)))
def addrNumbersQ24 : B := (.eqI addrNumbersQ5 (.lit (194)))
def addrNumbersQ25 : B := (.not (.ltI addrNumbersQ5 (.lit (194))))
def addrNumbersQ26 : B := (.not (.ltI addrNumbersQ3 (.lit (128))))
def addrNumbersQ27 : B := (.ite addrNumbersQ22 (.ite addrNumbersQ23 (.ite addrNumbersQ24 (.lit true) addrNumbersQ25) addrNumbersQ26) (.lit true))
def addrNumbersQ28 : B := (.eqI addrNumbersQ2 (.lit (0)))
def addrNumbersQ29 : B := (.ite addrNumbersQ22 (.ite addrNumbersQ23 addrNumbersQ25 addrNumbersQ26) (.lit true))
def addrNumbersQ30 : PC := [(addrNumbersQ27, true), (addrNumbersQ28, false), (addrNumbersQ29, true), (addrNumbersQ19, true), (addrNumbersQ11, true)]
def addrNumbersQ31 : B := (.ite addrNumbersQ22 (.ite addrNumbersQ23 (.ite addrNumbersQ24 (.ite (.eqI addrNumbersQ6 (.lit (0))) (.ite (.eqI addrNumbersQ7 (.lit (0))) (.not (.ltI addrNumbersQ8 (.lit (16)))) (.lit true)) (.lit true)) (.lit true)) (.lit true)) (.lit true))
def addrNumbersQ32 : B := (.ite addrNumbersQ28 (.lit false) addrNumbersQ29)
def addrNumbersQ33 : PC := [(addrNumbersQ31, true), (addrNumbersQ32, false), (addrNumbersQ19, true), (addrNumbersQ11, true)]
def addrNumbersQ34 : B := (.eqI addrNumbersQ9 addrNumbersQ10)
def addrNumbersQ35 : PC := [(addrNumbersQ34, true), (addrNumbersQ11, false)]
def addrNumbersQ36 : PC := [(addrNumbersQ27, true), (addrNumbersQ28, false), (addrNumbersQ29, true), (addrNumbersQ19, true), (addrNumbersQ34, true), (addrNumbersQ11, false)]
def addrNumbersQ37 : PC := [(addrNumbersQ31, true), (addrNumbersQ32, false), (addrNumbersQ19, true), (addrNumbersQ34, true), (addrNumbersQ11, false)]
def addrNumbersQ38 : PC := [(addrNumbersQ34, false), (addrNumbersQ11, false)]
def addrNumbersQ39 : PC := [(addrNumbersQ27, true), (addrNumbersQ28, false), (addrNumbersQ29, true), (addrNumbersQ19, true), (addrNumbersQ34, false), (addrNumbersQ11, false)]
def addrNumbersQ40 : PC := [(addrNumbersQ31, true), (addrNumbersQ32, false), (addrNumbersQ19, true), (addrNumbersQ34, false), (addrNumbersQ11, false)]
end Go.Proofs.Ytpkfeinnhdnfiaa
