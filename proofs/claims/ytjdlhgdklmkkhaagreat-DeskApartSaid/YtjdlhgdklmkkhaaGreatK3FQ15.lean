import Derived.Test.YtjdlhgdklmkkhaaGreatK3FH
set_option linter.unusedVariables false
set_option linter.unusedSimpArgs false
set_option maxRecDepth 1000000
set_option maxHeartbeats 4000000
namespace Go.VI
open Go Go.Proofs
theorem dA3:ch5 () =
 some (((cr5.mk ([]:List UInt8) ([114,105,112]:List UInt8) ([110,103]:List UInt8) ([114,114,101,113]:List UInt8) ([114,114,101,112]:List UInt8) ([114,101,114,114]:List UInt8) ([114,114,101,112,97,99,107]:List UInt8) ([97,99,107,114,101,113]:List UInt8) ([97,99,107]:List UInt8) ([104,101,108,108,111]:List UInt8) ([105,104,117]:List UInt8) ([117,112,100,97,116,101]:List UInt8) ([114,111,117,116,101,114,101,113]:List UInt8) ([115,101,113,110,111,114,101,113]:List UInt8) ([111,112,97,113,117,101]:List UInt8)),()),()):=by kernel_rfl
theorem dJ1 (a0:Int):cv3 (a0,()) =
 if (decide (a0 < 1))=true then some ((([]:List UInt8),()),()) else (if (decide (14 < a0))=true then some ((([]:List UInt8),()),()) else ((ch5 ()).bind fun r1=>(if 0≤a0∧a0 < 15 then some (((if a0=0 then r1.1.1.c0 else (if a0=1 then r1.1.1.c1 else (if a0=2 then r1.1.1.c2 else (if a0=3 then r1.1.1.c3 else (if a0=4 then r1.1.1.c4 else (if a0=5 then r1.1.1.c5 else (if a0=6 then r1.1.1.c6 else (if a0=7 then r1.1.1.c7 else (if a0=8 then r1.1.1.c8 else (if a0=9 then r1.1.1.c9 else (if a0=10 then r1.1.1.c10 else (if a0=11 then r1.1.1.c11 else (if a0=12 then r1.1.1.c12 else (if a0=13 then r1.1.1.c13 else r1.1.1.c14)))))))))))))),()),()) else none))):=by kernel_rfl
end Go.VI
