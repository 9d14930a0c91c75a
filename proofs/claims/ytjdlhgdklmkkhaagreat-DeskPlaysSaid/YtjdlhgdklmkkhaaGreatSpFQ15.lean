import Derived.Test.YtjdlhgdklmkkhaaGreatSpFH
set_option linter.unusedVariables false
set_option linter.unusedSimpArgs false
set_option maxRecDepth 1000000
set_option maxHeartbeats 4000000
namespace Go.VI
open Go Go.Proofs
theorem el1:Ic () =
 some (((Do.mk ([]:at1) ([114,105,112]:at1) ([110,103]:at1) ([114,114,101,113]:at1) ([114,114,101,112]:at1) ([114,101,114,114]:at1) ([114,114,101,112,97,99,107]:at1) ([97,99,107,114,101,113]:at1) ([97,99,107]:at1) ([104,101,108,108,111]:at1) ([105,104,117]:at1) ([117,112,100,97,116,101]:at1) ([114,111,117,116,101,114,101,113]:at1) ([115,101,113,110,111,114,101,113]:at1) ([111,112,97,113,117,101]:at1)),()),()):=by kernel_rfl
theorem ez1 (a0:Int):B9 (a0,()) =
 if decide (a0 < 1) then some ((([]:at1),()),()) else if decide (14 < a0) then some ((([]:at1),()),()) else (Ic ()).bind fun r1=>if 0<=a0/\a0 < 15 then some (((if a0=0 then r1.1.1.c0 else if a0=1 then r1.1.1.c1 else if a0=2 then r1.1.1.c2 else if a0=3 then r1.1.1.c3 else if a0=4 then r1.1.1.c4 else if a0=5 then r1.1.1.c5 else if a0=6 then r1.1.1.c6 else if a0=7 then r1.1.1.c7 else if a0=8 then r1.1.1.c8 else if a0=9 then r1.1.1.c9 else if a0=10 then r1.1.1.c10 else if a0=11 then r1.1.1.c11 else if a0=12 then r1.1.1.c12 else if a0=13 then r1.1.1.c13 else r1.1.1.c14),()),()) else none:=by kernel_rfl
end Go.VI
