/-
  Terms that stand often in the memos of the law AddrTexts.
-/
import Derived.Test.YtjlghikadokcbaaAddrTexts0
namespace Go.Proofs.Ytjlghikadokcbaa
open Go.SX
def addrTextsQ0 : T := (.lit (9982748476797594485687712743424))
def addrTextsQ1 : T := (.wrap .u8 (.cell 1000001 (.lit (16)) 0))
def addrTextsQ2 : B := (.eqI (.bin .rem (.wrap .u8 (.bin (.shr 256) addrTextsQ0 addrTextsQ1)) (.lit (2))) (.lit (1)))
def addrTextsQ3 : T := (.wrap .u8 (.cell 1000001 (.lit (15)) 0))
def addrTextsQ4 : B := (.eqI (.bin .rem (.wrap .u8 (.bin (.shr 256) addrTextsQ0 addrTextsQ3)) (.lit (2))) (.lit (1)))
def addrTextsQ5 : B := (.eqI (.wrap .u8 (.cell 1000001 (.lit (14)) 0)) (.lit (58)))
def addrTextsQ6 : T := (.wrap .u8 (.cell 1000001 (.lit (13)) 0))
def addrTextsQ7 : B := (.eqI (.bin .rem (.wrap .u8 (.bin (.shr 256) addrTextsQ0 addrTextsQ6)) (.lit (2))) (.lit (1)))
def addrTextsQ8 : T := (.wrap .u8 (.cell 1000001 (.lit (12)) 0))
def addrTextsQ9 : B := (.eqI (.bin .rem (.wrap .u8 (.bin (.shr 256) addrTextsQ0 addrTextsQ8)) (.lit (2))) (.lit (1)))
def addrTextsQ10 : B := (.eqI (.wrap .u8 (.cell 1000001 (.lit (11)) 0)) (.lit (58)))
def addrTextsQ11 : T := (.wrap .u8 (.cell 1000001 (.lit (10)) 0))
def addrTextsQ12 : B := (.eqI (.bin .rem (.wrap .u8 (.bin (.shr 256) addrTextsQ0 addrTextsQ11)) (.lit (2))) (.lit (1)))
def addrTextsQ13 : T := (.wrap .u8 (.cell 1000001 (.lit (9)) 0))
def addrTextsQ14 : B := (.eqI (.bin .rem (.wrap .u8 (.bin (.shr 256) addrTextsQ0 addrTextsQ13)) (.lit (2))) (.lit (1)))
def addrTextsQ15 : B := (.eqI (.wrap .u8 (.cell 1000001 (.lit (8)) 0)) (.lit (58)))
def addrTextsQ16 : T := (.wrap .u8 (.cell 1000001 (.lit (7)) 0))
def addrTextsQ17 : B := (.eqI (.bin .rem (.wrap .u8 (.bin (.shr 256) addrTextsQ0 addrTextsQ16)) (.lit (2))) (.lit (1)))
def addrTextsQ18 : T := (.wrap .u8 (.cell 1000001 (.lit (6)) 0))
def addrTextsQ19 : B := (.eqI (.bin .rem (.wrap .u8 (.bin (.shr 256) addrTextsQ0 addrTextsQ18)) (.lit (2))) (.lit (1)))
def addrTextsQ20 : B := (.eqI (.wrap .u8 (.cell 1000001 (.lit (5)) 0)) (.lit (58)))
def addrTextsQ21 : T := (.wrap .u8 (.cell 1000001 (.lit (4)) 0))
def addrTextsQ22 : B := (.eqI (.bin .rem (.wrap .u8 (.bin (.shr 256) addrTextsQ0 addrTextsQ21)) (.lit (2))) (.lit (1)))
def addrTextsQ23 : T := (.wrap .u8 (.cell 1000001 (.lit (3)) 0))
def addrTextsQ24 : B := (.eqI (.bin .rem (.wrap .u8 (.bin (.shr 256) addrTextsQ0 addrTextsQ23)) (.lit (2))) (.lit (1)))
def addrTextsQ25 : B := (.eqI (.wrap .u8 (.cell 1000001 (.lit (2)) 0)) (.lit (58)))
def addrTextsQ26 : T := (.wrap .u8 (.cell 1000001 (.lit (1)) 0))
def addrTextsQ27 : B := (.eqI (.bin .rem (.wrap .u8 (.bin (.shr 256) addrTextsQ0 addrTextsQ26)) (.lit (2))) (.lit (1)))
def addrTextsQ28 : T := (.wrap .u8 (.cell 1000001 (.lit (0)) 0))
def addrTextsQ29 : B := (.eqI (.bin .rem (.wrap .u8 (.bin (.shr 256) addrTextsQ0 addrTextsQ28)) (.lit (2))) (.lit (1)))
def addrTextsQ30 : T := (.wrap .u64 (.cell 1000000 (.lit (0)) 0))
def addrTextsQ31 : B := (.eqI addrTextsQ30 (.lit (17)))
def addrTextsQ32 : B := (.ltI (.lit (100)) addrTextsQ30)
def addrTextsQ33 : PC := [(addrTextsQ2, true), (addrTextsQ4, true), (addrTextsQ5, true), (addrTextsQ7, true), (addrTextsQ9, true), (addrTextsQ10, true), (addrTextsQ12, true), (addrTextsQ14, true), (addrTextsQ15, true), (addrTextsQ17, true), (addrTextsQ19, true), (addrTextsQ20, true), (addrTextsQ22, true), (addrTextsQ24, true), (addrTextsQ25, true), (addrTextsQ27, true), (addrTextsQ29, true), (addrTextsQ31, true), (addrTextsQ32, false)]
def addrTextsQ34 : T := (.lit (6578910069699635851641993512122042424065600406631272768606254500708233365870095294877870131615834096747376784805631874649394170554326659921695057459136355637110429301999730754636954619203059230845643055791212869182660473279855016791900224088965120))
def addrTextsQ35 : List SV := [(.int .u8 (.bin .add (.bin .mul (.bin .rem (.wrap .u8 (.bin (.shr 2048) addrTextsQ34 (.bin .mul addrTextsQ28 (.lit (8))))) (.lit (16))) (.lit (16))) (.bin .rem (.wrap .u8 (.bin (.shr 2048) addrTextsQ34 (.bin .mul addrTextsQ26 (.lit (8))))) (.lit (16))))), (.int .u8 (.bin .add (.bin .mul (.bin .rem (.wrap .u8 (.bin (.shr 2048) addrTextsQ34 (.bin .mul addrTextsQ23 (.lit (8))))) (.lit (16))) (.lit (16))) (.bin .rem (.wrap .u8 (.bin (.shr 2048) addrTextsQ34 (.bin .mul addrTextsQ21 (.lit (8))))) (.lit (16))))), (.int .u8 (.bin .add (.bin .mul (.bin .rem (.wrap .u8 (.bin (.shr 2048) addrTextsQ34 (.bin .mul addrTextsQ18 (.lit (8))))) (.lit (16))) (.lit (16))) (.bin .rem (.wrap .u8 (.bin (.shr 2048) addrTextsQ34 (.bin .mul addrTextsQ16 (.lit (8))))) (.lit (16))))), (.int .u8 (.bin .add (.bin .mul (.bin .rem (.wrap .u8 (.bin (.shr 2048) addrTextsQ34 (.bin .mul addrTextsQ13 (.lit (8))))) (.lit (16))) (.lit (16))) (.bin .rem (.wrap .u8 (.bin (.shr 2048) addrTextsQ34 (.bin .mul addrTextsQ11 (.lit (8))))) (.lit (16))))), (.int .u8 (.bin .add (.bin .mul (.bin .rem (.wrap .u8 (.bin (.shr 2048) addrTextsQ34 (.bin .mul addrTextsQ8 (.lit (8))))) (.lit (16))) (.lit (16))) (.bin .rem (.wrap .u8 (.bin (.shr 2048) addrTextsQ34 (.bin .mul addrTextsQ6 (.lit (8))))) (.lit (16))))), (.int .u8 (.bin .add (.bin .mul (.bin .rem (.wrap .u8 (.bin (.shr 2048) addrTextsQ34 (.bin .mul addrTextsQ3 (.lit (8))))) (.lit (16))) (.lit (16))) (.bin .rem (.wrap .u8 (.bin (.shr 2048) addrTextsQ34 (.bin .mul addrTextsQ1 (.lit (8))))) (.lit (16)))))]
def addrTextsQ36 : PC := [(addrTextsQ2, false), (addrTextsQ4, true), (addrTextsQ5, true), (addrTextsQ7, true), (addrTextsQ9, true), (addrTextsQ10, true), (addrTextsQ12, true), (addrTextsQ14, true), (addrTextsQ15, true), (addrTextsQ17, true), (addrTextsQ19, true), (addrTextsQ20, true), (addrTextsQ22, true), (addrTextsQ24, true), (addrTextsQ25, true), (addrTextsQ27, true), (addrTextsQ29, true), (addrTextsQ31, true), (addrTextsQ32, false)]
def addrTextsQ37 : List SV := [(.int .u8 (.lit (0))), (.int .u8 (.lit (0))), (.int .u8 (.lit (0))), (.int .u8 (.lit (0))), (.int .u8 (.lit (0))), (.int .u8 (.lit (0)))]
def addrTextsQ38 : List SV := [(.agg addrTextsQ37), (.int .i64 (.lit (3)))]
def addrTextsQ39 : List SV := [(.agg addrTextsQ37), (.bool (.lit false))]
def addrTextsQ40 : PC := [(addrTextsQ4, false), (addrTextsQ5, true), (addrTextsQ7, true), (addrTextsQ9, true), (addrTextsQ10, true), (addrTextsQ12, true), (addrTextsQ14, true), (addrTextsQ15, true), (addrTextsQ17, true), (addrTextsQ19, true), (addrTextsQ20, true), (addrTextsQ22, true), (addrTextsQ24, true), (addrTextsQ25, true), (addrTextsQ27, true), (addrTextsQ29, true), (addrTextsQ31, true), (addrTextsQ32, false)]
def addrTextsQ41 : PC := [(addrTextsQ5, false), (addrTextsQ7, true), (addrTextsQ9, true), (addrTextsQ10, true), (addrTextsQ12, true), (addrTextsQ14, true), (addrTextsQ15, true), (addrTextsQ17, true), (addrTextsQ19, true), (addrTextsQ20, true), (addrTextsQ22, true), (addrTextsQ24, true), (addrTextsQ25, true), (addrTextsQ27, true), (addrTextsQ29, true), (addrTextsQ31, true), (addrTextsQ32, false)]
def addrTextsQ42 : PC := [(addrTextsQ7, false), (addrTextsQ9, true), (addrTextsQ10, true), (addrTextsQ12, true), (addrTextsQ14, true), (addrTextsQ15, true), (addrTextsQ17, true), (addrTextsQ19, true), (addrTextsQ20, true), (addrTextsQ22, true), (addrTextsQ24, true), (addrTextsQ25, true), (addrTextsQ27, true), (addrTextsQ29, true), (addrTextsQ31, true), (addrTextsQ32, false)]
def addrTextsQ43 : PC := [(addrTextsQ9, false), (addrTextsQ10, true), (addrTextsQ12, true), (addrTextsQ14, true), (addrTextsQ15, true), (addrTextsQ17, true), (addrTextsQ19, true), (addrTextsQ20, true), (addrTextsQ22, true), (addrTextsQ24, true), (addrTextsQ25, true), (addrTextsQ27, true), (addrTextsQ29, true), (addrTextsQ31, true), (addrTextsQ32, false)]
def addrTextsQ44 : PC := [(addrTextsQ12, false), (addrTextsQ14, true), (addrTextsQ15, true), (addrTextsQ17, true), (addrTextsQ19, true), (addrTextsQ20, true), (addrTextsQ22, true), (addrTextsQ24, true), (addrTextsQ25, true), (addrTextsQ27, true), (addrTextsQ29, true), (addrTextsQ31, true), (addrTextsQ32, false)]
def addrTextsQ45 : PC := [(addrTextsQ14, false), (addrTextsQ15, true), (addrTextsQ17, true), (addrTextsQ19, true), (addrTextsQ20, true), (addrTextsQ22, true), (addrTextsQ24, true), (addrTextsQ25, true), (addrTextsQ27, true), (addrTextsQ29, true), (addrTextsQ31, true), (addrTextsQ32, false)]
end Go.Proofs.Ytjlghikadokcbaa
