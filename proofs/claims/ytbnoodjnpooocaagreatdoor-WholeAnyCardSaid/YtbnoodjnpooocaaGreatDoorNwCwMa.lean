/- What this claim is proved with: no condition. -/
import Derived.Test.YtbnoodjnpooocaaGreatDoorNw14
import Derived.Test.YtbnoodjnpooocaaGreatDoorNw15
set_option linter.unusedVariables false
set_option linter.unusedSimpArgs false
namespace Go.Proofs.YtbnoodjnpooocaaGreatDoor.Pw
open Go
abbrev kI (n:Int):PV:=.lit .i64 n
abbrev kB (n:Int):PV:=.lit .u8 n
abbrev kU (n:Int):PV:=.lit .u32 n
abbrev kV (n:Int):PV:=.lit .u64 n
def pW:PV:=.sl 1 [kB 101,kB 120,kB 112,kB 111,kB 114,kB 116,kB 32,kB 102,kB 110,kB 32,kB 102,kB 40,kB 120,kB 58,kB 32,kB 117,kB 51,kB 50,kB 41,kB 32,kB 45,kB 62,kB 32,kB 117,kB 51,kB 50,kB 32,kB 123,kB 32,kB 114,kB 101,kB 116,kB 117,kB 114,kB 110,kB 32,kB 120,kB 32,kB 43,kB 32,kB 49,kB 59,kB 32,kB 125]
def X0:PV:=.agg [lp [102],.tt,kI 2,kI 1,.sl 3 [.agg [lp [120],kI 2,kI 0]],.sl 7 [.agg [lp [114,101,116,117,114,110],kI (-1),kI 0,.sl 6 [.agg [lp [43],kI 2,kU 0,kI (-1),.sl 6 [.agg [lp [118,97,114],kI 2,kU 0,kI 0,.nil,kI 36],.agg [lp [110,117,109],kI 1,kU 1,kI (-1),.nil,kI 40]],kI 38]],.nil,.nil,kI 29]]]
def wE:PV:=.sl 6 [X0]
def yC:PV:=.agg [wE]
def LQ:PV:=.sl 1 [kI 0]
def MM:PV:=.agg [lp [102],.tt,kI 2,kI 1,.sl 3 [.agg [lp [120],kI 2,kI 0]],.sl 7 [.agg [lp [114,101,116,117,114,110],kI (-1),kI 0,.sl 6 [.agg [lp [43],kI 2,kU 0,kI (-1),.sl 6 [.agg [lp [118,97,114],kI 2,kU 0,kI 0,.nil,kI 36],.agg [lp [110,117,109],kI 1,kU 1,kI (-1),.nil,kI 40]],kI 38]],.nil,.nil,kI 29]]]
def YV:PV:=.agg [.sl 3 [.agg [kI 0,kU 0,.nil]],.nil,.sl 1 [kU 0,kU 0,kU 0,kU 0],.sl 1 [kU 4294967295,kU 4294967295,kU 4294967295,kU 4294967295]]
def YW:PV:=.agg [.sl 1 [kI 0],.nil,kI 4,kI 8]
def cmL:PV:=.sl 19 [.agg [kI 1,.sl 8 [.agg [kI 2,kI 0,kI (-1),kI (-1),kI (-1),kI (-1),kI (-1),kU 0],.agg [kI 1,kI 1,kI (-1),kI (-1),kI (-1),kI (-1),kI (-1),kU 1],.agg [kI 10,kI 2,kI (-1),kI 0,kI 1,kI (-1),kI (-1),kU 0],.agg [kI 3,kI (-1),kI (-1),kI 2,kI (-1),kI (-1),kI (-1),kU 4]],.nil,.nil,.nil,.nil,.nil,kI 0,kU 0,.nil,kI 0,kU 0,.nil,kI 0,kU 0,.nil,kI 0,.nil,.nil]]
def cmY:PV:=.agg [.sl 15 [.agg [kI 4,kI 0,kI 0,kI 0,kI 0,kI 0,kI 0,kI 0,kI 0,kI 0,kI 0,kI 0,kI 0,kI 0,kI 16],.agg [kI 3,kI 0,kI 0,kI 0,kI 0,kI 0,kI 0,kI 0,kI 0,kI 0,kI 0,kI 0,kI 0,kI 1,kI 0],.agg [kI 1,kI 42,kI 0,kI 0,kI 0,kI 0,kI 0,kI 0,kI 0,kI 0,kI 0,kI 16624,kI 0,kI 0,kI 0],.agg [kI 1,kI 41,kI 0,kI 0,kI 0,kI 0,kI 8,kI 0,kI 0,kI 0,kI 0,kI 0,kI 0,kI 0,kI 0],.agg [kI 1,kI 37,kI 0,kI 0,kI 0,kI 0,kI 0,kI 0,kI 0,kI 0,kI 0,kI 0,kI 0,kI 0,kI 0],.agg [kI 1,kI 38,kI 0,kI 0,kI 0,kI 0,kI 0,kI 0,kI 0,kI 0,kI 0,kI 0,kI 0,kI 0,kI 0],.agg [kI 1,kI 8,kI 1,kI 0,kI 0,kI 0,kI 1,kI 0,kI 0,kI 0,kI 0,kI 0,kI 0,kI 0,kI 0],.agg [kI 1,kI 4,kI 2,kI 0,kI 1,kI 0,kI 0,kI 0,kI 0,kI 0,kI 0,kI 0,kI 0,kI 0,kI 0],.agg [kI 1,kI 37,kI 2,kI 0,kI 0,kI 0,kI 4,kI 0,kI 0,kI 0,kI 0,kI 0,kI 0,kI 0,kI 0],.agg [kI 1,kI 38,kI 0,kI 0,kI 0,kI 0,kI 4,kI 0,kI 0,kI 0,kI 0,kI 0,kI 0,kI 0,kI 0],.agg [kI 1,kI 40,kI 0,kI 0,kI 0,kI 0,kI 8,kI 0,kI 0,kI 0,kI 0,kI 0,kI 0,kI 0,kI 0],.agg [kI 1,kI 43,kI 0,kI 0,kI 0,kI 0,kI 0,kI 0,kI 0,kI 0,kI 0,kI 33008,kI 0,kI 0,kI 0],.agg [kI 3,kI 0,kI 0,kI 0,kI 0,kI 0,kI 0,kI 0,kI 0,kI 0,kI 0,kI 0,kI 0,kI 2,kI 0],.agg [kI 1,kI 45,kI 0,kI 0,kI 0,kI 0,kI 1,kI 0,kI 0,kI 0,kI 0,kI 0,kI 0,kI 0,kI 0],.agg [kI 3,kI 0,kI 0,kI 0,kI 0,kI 0,kI 0,kI 0,kI 0,kI 0,kI 0,kI 0,kI 0,kI 3,kI 0],.agg [kI 1,kI 45,kI 0,kI 0,kI 0,kI 0,kI 2,kI 0,kI 0,kI 0,kI 0,kI 0,kI 0,kI 0,kI 0]],.sl 17 [.agg [kI 1,kI 2,kI 12,kI 0,kI (-1),kI 0,kI 0,kI 0,kU 0,.nil,kI 0,kU 0,.nil,.nil,.nil,.nil,.nil]],kI 8,kI 0,kI 4]
end Go.Proofs.YtbnoodjnpooocaaGreatDoor.Pw
