/- Lemmas. -/
import Derived.Test.YtplmgfkghomelaaGreatDoorIns
set_option linter.unusedSimpArgs false
namespace Go.Proofs.YtplmgfkghomelaaGreatDoor
open Go.Sx
set_option linter.unusedVariables false
structure zC where
 Sk:Int
 in_:List Int
def Cj:Rp (List Int):=lM 3 (zx .i64) 1 (λ_=>rfl) (by decide)
def nv:Rp zC:=qo (λ(x:zC)vs=>[.int .i64 x.Sk,vs.getD 0 undef]) 2 (λ_ _=>rfl) (λx=>x.in_) (Cj)
def cH:Rp zC:=vl 231 nv
structure qO where
 A:Int
 B:Int
def nw(x:qO):List Value:=[.int .u64 x.A,.int .u64 x.B]
structure zZ where
 N:Int
 Ra:qO
def xw(x:zZ):List Value:=[.int .i64 x.N,.int .u64 x.Ra.A,.int .u64 x.Ra.B]
structure xx where
 Sf:Int
 Sn:Int
 SP:Int
 Sq:Int
 Sl:Int
structure zw where
 room:Int
 SO:Bool
 waiting:List zZ
 counts:xx
def NR:Rp (List zZ):=lM 193 (xw) 3 (λ_=>rfl) (by decide)
def pC(fx:Value):Rp zw:=qo (λ(x:zw)vs=>[fx,.int .i64 x.room,.bool x.SO,vs.getD 0 undef,.int .i64 x.counts.Sf,.int .i64 x.counts.Sn,.int .i64 x.counts.SP,.int .i64 x.counts.Sq,.int .i64 x.counts.Sl]) 9 (λ_ _=>rfl) (λx=>x.waiting) (NR)
def cI(fx:Value):Rp zw:=vl 178 (pC fx)
structure xz where
 last:Int
structure xd where
 Rt:Int
 prog:Int
def gu(x:xd):List Value:=[.int .i64 x.Rt,.int .i64 x.prog]
structure zz where
 Rq:xz
 QS:List xd
structure zU where
 maps:Int
 held:List (Int×(List Int))
structure zf where
 Op:Int
 D:Int
 A:Int
 B:Int
 RA:Int
def qb(x:zf):List Value:=[.int .i64 x.Op,.int .i64 x.D,.int .i64 x.A,.int .i64 x.B,.int .i64 x.RA]
structure zH where
 Maps:List Int
 Code:List zf
structure zX where
 module:zH
 RE:Int
structure zb where
 Rg:zz
 RN:zU
 Rb:zC
 QS:Int
 maps:Int
 given:Int
 Re:List (Int×zX)
 waiting:List Int
structure qq where
 QU:Int
 Sh:Int
def ny(x:qq):List Value:=[.int .i64 x.QU,.int .i64 x.Sh]
structure zo where
 QN:List qq
 LE:Int
structure je where
 QJ:Int
 Th:Int
def xc(x:je):List Value:=[.int .i64 x.QJ,.int .i64 x.Th]
structure zR where
 QM:Int
 QP:Int
 QY:Int
 RJ:Int
 Maps:List je
structure zh where
 Rv:Int
 Op:Int
 RH:Int
 Rz:Int
def qn(x:zh):List Value:=[.int .i64 x.Rv,.int .i64 x.Op,.int .u64 x.RH,.int .u64 x.Rz]
structure zI where
 QJ:Int
 Item:zh
 Rk:List zh
 Rv:Int
 Ry:Int
 RM:Int
 Ra:qO
 Rf:List Int
structure zk where
 E:Int
 Found:Bool
 Rz:Int
 Ti:Bool
 Sc:Int
 Sd:Int
def qa(x:zk):List Value:=[.int .i64 x.E,.bool x.Found,.int .u64 x.Rz,.bool x.Ti,.int .u64 x.Sc,.int .u64 x.Sd]
structure zq where
 RH:Int
 Rz:Int
def zL(x:zq):List Value:=[.int .u64 x.RH,.int .u64 x.Rz]
structure zA where
 E:Int
 N:Int
 Rs:List zk
 Pairs:List zq
structure ze where
 Ro:List zI
 Rj:Int
 waits:Bool
 QT:Int
 Fn:zA
 parts:List (List zq)
 QR:List zA
structure qL where
 Rc:Nat->Int
structure jj where
 counts:Nat->Int
structure zl where
 RF:qL
 Rl:jj
def xn(x:zl):List Value:=[.int .u64 (x.RF.Rc 0),.int .u64 (x.RF.Rc 1),.int .u64 (x.RF.Rc 2),.int .u64 (x.RF.Rc 3),.int .u64 (x.RF.Rc 4),.int .u64 (x.RF.Rc 5),.int .u64 (x.RF.Rc 6),.int .u64 (x.RF.Rc 7),.int .u64 (x.RF.Rc 8),.int .u64 (x.RF.Rc 9),.int .u64 (x.RF.Rc 10),.int .u64 (x.RF.Rc 11),.int .u64 (x.RF.Rc 12),.int .u64 (x.RF.Rc 13),.int .u64 (x.RF.Rc 14),.int .u64 (x.RF.Rc 15),.int .u64 (x.Rl.counts 0),.int .u64 (x.Rl.counts 1),.int .u64 (x.Rl.counts 2),.int .u64 (x.Rl.counts 3),.int .u64 (x.Rl.counts 4),.int .u64 (x.Rl.counts 5),.int .u64 (x.Rl.counts 6),.int .u64 (x.Rl.counts 7),.int .u64 (x.Rl.counts 8),.int .u64 (x.Rl.counts 9),.int .u64 (x.Rl.counts 10),.int .u64 (x.Rl.counts 11),.int .u64 (x.Rl.counts 12),.int .u64 (x.Rl.counts 13),.int .u64 (x.Rl.counts 14),.int .u64 (x.Rl.counts 15)]
structure qB where
 SQ:Int
 RY:Int
 Sz:Int
 Calls:Int
 Sum:Int
def cg(x:qB):List Value:=[.int .u64 x.SQ,.int .u64 x.RY,.int .u64 x.Sz,.int .u64 x.Calls,.int .u64 x.Sum]
structure zW where
 QS:Nat->qB
def dQ(x:zW):List Value:=[.int .u64 (x.QS 0).SQ,.int .u64 (x.QS 0).RY,.int .u64 (x.QS 0).Sz,.int .u64 (x.QS 0).Calls,.int .u64 (x.QS 0).Sum,.int .u64 (x.QS 1).SQ,.int .u64 (x.QS 1).RY,.int .u64 (x.QS 1).Sz,.int .u64 (x.QS 1).Calls,.int .u64 (x.QS 1).Sum,.int .u64 (x.QS 2).SQ,.int .u64 (x.QS 2).RY,.int .u64 (x.QS 2).Sz,.int .u64 (x.QS 2).Calls,.int .u64 (x.QS 2).Sum,.int .u64 (x.QS 3).SQ,.int .u64 (x.QS 3).RY,.int .u64 (x.QS 3).Sz,.int .u64 (x.QS 3).Calls,.int .u64 (x.QS 3).Sum]
structure zp where
 Ra:qO
 module:zH
 regs:Nat->Int
 LE:Nat->Int
 Rj:Int
 steps:Int
 state:Int
structure bf where
 hook:Int
 RB:zZ
 Rt:Int
 prog:Int
 calls:Int
 SR:Option zp
structure zn where
 RG:zl
 Su:zW
 QU:Int
 Ru:bf
structure zJ where
 QL:zn
 Rw:Int
 pc:Int
 Sg:Option zk
 QV:Bool
structure ql where
 cap:Int
 QK:List zq
structure qy where
 RS:ql
 Sa:List Int
abbrev qj:Type:=ql⊕qy
structure zr where
 RT:Int
 SD:Int
 Sj:Bool
 Item:zh
def qH(x:zr):List Value:=[.int .i64 x.RT,.int .i64 x.SD,.bool x.Sj,.int .i64 x.Item.Rv,.int .i64 x.Item.Op,.int .u64 x.Item.RH,.int .u64 x.Item.Rz]
structure zc where
 Si:Int
 RL:Int
 maps:List qj
 QO:List zr
 QV:Bool
structure zE where
 Rn:Int
 cmd:zI
 Sv:Int
structure zd where
 Tz:Int
 Te:Int
 RT:Int
 TH:Int
 SD:Int
 Ra:Int
 Ry:Int
 RM:Int
 Tb:Int
 Pc:Int
 Item:zh
 Rs:zk
 Rz:Int
 E:Int
def zD(x:zd):List Value:=[.int .i64 x.Tz,.int .i64 x.Te,.int .i64 x.RT,.int .i64 x.TH,.int .i64 x.SD,.int .i64 x.Ra,.int .i64 x.Ry,.int .i64 x.RM,.int .i64 x.Tb,.int .i64 x.Pc,.int .i64 x.Item.Rv,.int .i64 x.Item.Op,.int .u64 x.Item.RH,.int .u64 x.Item.Rz,.int .i64 x.Rs.E,.bool x.Rs.Found,.int .u64 x.Rs.Rz,.bool x.Rs.Ti,.int .u64 x.Rs.Sc,.int .u64 x.Rs.Sd,.int .u64 x.Rz,.int .i64 x.E]
structure zO where
 last:Int
def dp(x:zO):List Value:=[.int .i64 x.last]
structure za where
 Fd:zb
 QX:zo
 QZ:zR
 or:List ze
 LT:List zJ
 Id:List zc
 QI:List zw
 QO:List zE
 held:List zE
 QQ:Int
 closed:Bool
 over:Bool
 Ri:List zd
 Rx:zO
def NS:Rp (List xd):=lM 294 (gu) 2 (λ_=>rfl) (by decide)
def pD:Rp zz:=qo (λ(x:zz)vs=>[.int .i64 x.Rq.last,vs.getD 0 undef]) 2 (λ_ _=>rfl) (λx=>x.QS) (NS)
def vE:Rp zz:=vl 229 pD
def NT:Rp (List (Int×(List Int))):=Bs Cj
def mr:Rp zU:=qo (λ(x:zU)vs=>[.int .i64 x.maps,vs.getD 0 undef]) 2 (λ_ _=>rfl) (λx=>x.held) (NT)
def dG:Rp zU:=vl 223 mr
def NU:Rp (List zf):=lM 160 (qb) 5 (λ_=>rfl) (by decide)
def mu:Rp zX:=qo (λ(x:zX)vs=>[vs.getD 0 undef,vs.getD 1 undef,.int .i64 x.RE]) 3 (λ_ _=>rfl) (λx=>(x.module.Maps,x.module.Code)) (qw Cj NU)
def kU:Rp zX:=vl 299 mu
def NV:Rp (List (Int×zX)):=Bs kU
def vm:Rp zb:=qo (λ(x:zb)vs=>[vs.getD 0 undef,vs.getD 1 undef,vs.getD 2 undef,.int .i64 x.QS,.int .i64 x.maps,.int .i64 x.given,vs.getD 3 undef,vs.getD 4 undef]) 8 (λ_ _=>rfl) (λx=>(x.Rg,(x.RN,(x.Rb,(x.Re,x.waiting))))) (qw vE (qw dG (qw cH (qw NV Cj))))
def xZ:Rp zb:=vl 169 vm
def NW:Rp (List qq):=lM 210 (ny) 2 (λ_=>rfl) (by decide)
def fg:Rp zo:=qo (λ(x:zo)vs=>[vs.getD 0 undef,.int .i64 x.LE]) 2 (λ_ _=>rfl) (λx=>x.QN) (NW)
def xu:Rp zo:=vl 203 fg
def NX:Rp (List zh):=lM 46 (qn) 4 (λ_=>rfl) (by decide)
def NY:Rp (List Int):=lM 5 (zx .u8) 1 (λ_=>rfl) (by decide)
def iI:Rp zI:=qo (λ(x:zI)vs=>[.int .i64 x.QJ,.int .i64 x.Item.Rv,.int .i64 x.Item.Op,.int .u64 x.Item.RH,.int .u64 x.Item.Rz,vs.getD 0 undef,.int .i64 x.Rv,.int .i64 x.Ry,.int .i64 x.RM,.int .u64 x.Ra.A,.int .u64 x.Ra.B,vs.getD 1 undef]) 12 (λ_ _=>rfl) (λx=>(x.Rk,x.Rf)) (qw NX NY)
def oM:Rp (List zI):=iA 71 iI (by decide)
def LU:Rp (List zk):=lM 48 (qa) 6 (λ_=>rfl) (by decide)
def sb:Rp (List zq):=lM 86 (zL) 2 (λ_=>rfl) (by decide)
def KU:Rp (List (List zq)):=iA 76 sb (by decide)
def mc:Rp zA:=qo (λ(x:zA)vs=>[.int .i64 x.E,.int .i64 x.N,vs.getD 0 undef,vs.getD 1 undef]) 4 (λ_ _=>rfl) (λx=>(x.Rs,x.Pairs)) (qw LU sb)
def NZ:Rp (List zA):=iA 96 mc (by decide)
def aL(wb:World)(Sb:List Nat):Rp ze:=qo (λ(x:ze)vs=>[vs.getD 0 undef,.int .i64 x.Rj,.bool x.waits,.int .i64 x.QT,.int .i64 x.Fn.E,.int .i64 x.Fn.N,vs.getD 1 undef,vs.getD 2 undef,vs.getD 3 undef,vs.getD 4 undef]) 10 (λ_ _=>rfl) (λx=>(x.Ro,(x.Fn.Rs,(x.Fn.Pairs,(x.parts,x.QR))))) (qw (rdP (oM) wb Sb) (qw LU (qw sb (qw KU NZ))))
def kV(wb:World)(Sb:List Nat):Rp ze:=vl 135 (aL wb Sb)
def KV(wb:World)(Sb:List Nat):Rp (List ze):=iA 131 (kV wb Sb) (q7 rfl)
def N0:Rp zl:=tU (xn) 32 (λ_=>rfl)
def gX:Rp zl:=vl 244 N0
def N1:Rp zW:=tU (dQ) 20 (λ_=>rfl)
def pE:Rp zW:=vl 247 N1
def vw(fx:Value):Rp zp:=qo (λ(x:zp)vs=>[.int .u64 x.Ra.A,.int .u64 x.Ra.B,vs.getD 0 undef,vs.getD 1 undef,fx,.int .u64 (x.regs 0),.int .u64 (x.regs 1),.int .u64 (x.regs 2),.int .u64 (x.regs 3),.int .u64 (x.regs 4),.int .u64 (x.regs 5),.int .u64 (x.regs 6),.int .u64 (x.regs 7),.int .i64 (x.LE 0),.int .i64 (x.LE 1),.int .i64 (x.LE 2),.int .i64 (x.LE 3),.int .i64 (x.LE 4),.int .i64 (x.LE 5),.int .i64 (x.LE 6),.int .i64 (x.LE 7),.int .i64 (x.LE 8),.int .i64 (x.LE 9),.int .i64 (x.LE 10),.int .i64 (x.LE 11),.int .i64 (x.LE 12),.int .i64 (x.LE 13),.int .i64 (x.LE 14),.int .i64 (x.LE 15),.int .i64 (x.LE 16),.int .i64 (x.LE 17),.int .i64 (x.LE 18),.int .i64 (x.LE 19),.int .i64 (x.LE 20),.int .i64 (x.LE 21),.int .i64 (x.LE 22),.int .i64 (x.LE 23),.int .i64 (x.LE 24),.int .i64 (x.LE 25),.int .i64 (x.LE 26),.int .i64 (x.LE 27),.int .i64 (x.LE 28),.int .i64 (x.LE 29),.int .i64 (x.LE 30),.int .i64 (x.LE 31),.int .i64 (x.LE 32),.int .i64 (x.LE 33),.int .i64 (x.LE 34),.int .i64 (x.LE 35),.int .i64 (x.LE 36),.int .i64 (x.LE 37),.int .i64 (x.LE 38),.int .i64 (x.LE 39),.int .i64 (x.LE 40),.int .i64 (x.LE 41),.int .i64 (x.LE 42),.int .i64 (x.LE 43),.int .i64 (x.LE 44),.int .i64 (x.LE 45),.int .i64 (x.LE 46),.int .i64 (x.LE 47),.int .i64 (x.LE 48),.int .i64 (x.LE 49),.int .i64 (x.LE 50),.int .i64 (x.LE 51),.int .i64 (x.LE 52),.int .i64 (x.LE 53),.int .i64 (x.LE 54),.int .i64 (x.LE 55),.int .i64 (x.LE 56),.int .i64 (x.LE 57),.int .i64 (x.LE 58),.int .i64 (x.LE 59),.int .i64 (x.LE 60),.int .i64 (x.LE 61),.int .i64 (x.LE 62),.int .i64 (x.LE 63),.int .i64 x.Rj,.int .i64 x.steps,.int .i64 x.state]) 80 (λ_ _=>rfl) (λx=>(x.module.Maps,x.module.Code)) (qw Cj NU)
def eC:Rp zn:=qo (λ(x:zn)vs=>[vs.getD 0 undef,vs.getD 1 undef,.int .i64 x.QU,.int .i64 x.Ru.hook,.int .i64 x.Ru.RB.N,.int .u64 x.Ru.RB.Ra.A,.int .u64 x.Ru.RB.Ra.B,.int .i64 x.Ru.Rt,.int .i64 x.Ru.prog,.int .u64 x.Ru.calls,vs.getD 2 undef]) 11 (λ_ _=>rfl) (λx=>(x.RG,x.Su,x.Ru.SR)) (O5 gX pE (λfx=>(Dj 330 (vw fx))) 1 (λ_=>rfl))
def fh:Rp zn:=vl 198 eC
def dR:Rp zJ:=qo (λ(x:zJ)vs=>[vs.getD 0 undef,.int .i64 x.Rw,.int .i64 x.pc,vs.getD 1 undef,.bool x.QV]) 5 (λ_ _=>rfl) (λx=>(x.QL,x.Sg)) (qw fh (Ji 268 qa))
def kG:Rp zJ:=vl 130 dR
def KW:Rp (List zJ):=iA 125 kG (by decide)
def mw:Rp ql:=qo (λ(x:ql)vs=>[.int .i64 x.cap,vs.getD 0 undef]) 2 (λ_ _=>rfl) (λx=>x.QK) (sb)
def av:Rp ql:=vl 280 mw
def N2:Rp (List Int):=lM 44 (zx .u64) 1 (λ_=>rfl) (by decide)
def nA:Rp qy:=qo (λ(x:qy)vs=>[vs.getD 0 undef,vs.getD 1 undef]) 2 (λ_ _=>rfl) (λx=>(x.RS,x.Sa)) (qw av N2)
def cX:Rp qy:=vl 283 nA
def fj:Rp qj:=L6 (F8 232 av) (F8 235 cX) rfl rfl
def N3:Rp (List qj):=iA 184 fj (by decide)
def N4:Rp (List zr):=lM 286 (qH) 7 (λ_=>rfl) (by decide)
def eD:Rp zc:=qo (λ(x:zc)vs=>[.int .i64 x.Si,.int .i64 x.RL,vs.getD 0 undef,vs.getD 1 undef,.bool x.QV]) 5 (λ_ _=>rfl) (λx=>(x.maps,x.QO)) (qw N3 N4)
def xv:Rp zc:=vl 182 eD
def KX:Rp (List zc):=iA 122 xv (by decide)
def KY(fx:Value):Rp (List zw):=iA 119 (cI fx) (q7 rfl)
def gv(wb:World)(Sb:List Nat):Rp zE:=qo (λ(x:zE)vs=>[.int .i64 x.Rn,.int .i64 x.cmd.QJ,.int .i64 x.cmd.Item.Rv,.int .i64 x.cmd.Item.Op,.int .u64 x.cmd.Item.RH,.int .u64 x.cmd.Item.Rz,vs.getD 0 undef,.int .i64 x.cmd.Rv,.int .i64 x.cmd.Ry,.int .i64 x.cmd.RM,.int .u64 x.cmd.Ra.A,.int .u64 x.cmd.Ra.B,vs.getD 1 undef,.int .i64 x.Sv]) 14 (λ_ _=>rfl) (λx=>(x.cmd.Rk,x.cmd.Rf)) (qw (Iz wb Sb (qn) 4) (Iz wb Sb (zx .u8) 1))
def GE(wb:World)(Sb:List Nat):Rp (List zE):=iA 272 (gv wb Sb) (q7 rfl)
def N5:Rp (List zd):=lM 50 (zD) 22 (λ_=>rfl) (by decide)
def N6:Rp zO:=tU (dp) 1 (λ_=>rfl)
def dS:Rp zO:=vl 118 N6
def qD(wb:World)(Sb:List Nat):Rp za:=qo (λ(x:za)vs=>[vs.getD 0 undef,vs.getD 1 undef,.int .i64 x.QZ.QM,.int .i64 x.QZ.QP,.int .i64 x.QZ.QY,.int .i64 x.QZ.RJ,vs.getD 2 undef,vs.getD 3 undef,vs.getD 4 undef,vs.getD 5 undef,vs.getD 6 undef,vs.getD 7 undef,vs.getD 8 undef,.int .i64 x.QQ,.bool x.closed,.bool x.over,vs.getD 9 undef]) 17 (λ_ _=>rfl) (λx=>(x.Rx,(x.Fd,(x.QX,(x.QZ.Maps,(x.or,(x.LT,(x.Id,(x.QI,(x.QO,(x.held,x.Ri))))))))))) (L5 dS (λfx=>qw xZ (qw xu (qw (KZ je) (qw (KV wb Sb) (qw KW (qw KX (qw (KY fx) (qw (GE wb Sb) (qw (GE wb Sb) N5))))))))) 10 (λ_=>rfl))
def jP(wb:World)(Sb:List Nat):Rp za:=vl 115 (qD wb Sb)
def PG:Rp zk:=tU (qa) 6 (λ_=>rfl)
def uO:Rp ze:=qo (λ(x:ze)vs=>[vs.getD 0 undef,.int .i64 x.Rj,.bool x.waits,.int .i64 x.QT,.int .i64 x.Fn.E,.int .i64 x.Fn.N,vs.getD 1 undef,vs.getD 2 undef,vs.getD 3 undef,vs.getD 4 undef]) 10 (λ_ _=>rfl) (λx=>(x.Ro,(x.Fn.Rs,(x.Fn.Pairs,(x.parts,x.QR))))) (qw oM (qw LU (qw sb (qw KU NZ))))
def ij:Rp ze:=vl 135 uO
def uP:Rp zE:=qo (λ(x:zE)vs=>[.int .i64 x.Rn,.int .i64 x.cmd.QJ,.int .i64 x.cmd.Item.Rv,.int .i64 x.cmd.Item.Op,.int .u64 x.cmd.Item.RH,.int .u64 x.cmd.Item.Rz,vs.getD 0 undef,.int .i64 x.cmd.Rv,.int .i64 x.cmd.Ry,.int .i64 x.cmd.RM,.int .u64 x.cmd.Ra.A,.int .u64 x.cmd.Ra.B,vs.getD 1 undef,.int .i64 x.Sv]) 14 (λ_ _=>rfl) (λx=>(x.cmd.Rk,x.cmd.Rf)) (qw NX NY)
def GF:Rp (List ze):=iA 131 ij (by decide)
def Ck:Rp (List zE):=iA 272 uP (by decide)
def Cl:Rp za:=qo (λ(x:za)vs=>[vs.getD 0 undef,vs.getD 1 undef,.int .i64 x.QZ.QM,.int .i64 x.QZ.QP,.int .i64 x.QZ.QY,.int .i64 x.QZ.RJ,vs.getD 2 undef,vs.getD 3 undef,vs.getD 4 undef,vs.getD 5 undef,vs.getD 6 undef,vs.getD 7 undef,vs.getD 8 undef,.int .i64 x.QQ,.bool x.closed,.bool x.over,vs.getD 9 undef]) 17 (λ_ _=>rfl) (λx=>(x.Rx,(x.Fd,(x.QX,(x.QZ.Maps,(x.or,(x.LT,(x.Id,(x.QI,(x.QO,(x.held,x.Ri))))))))))) (L5 dS (λfx=>qw xZ (qw xu (qw (KZ je) (qw GF (qw KW (qw KX (qw (KY fx) (qw Ck (qw Ck N5))))))))) 10 (λ_=>rfl))
def N7:Rp za:=vl 115 Cl
structure qW where
 name:ByteArray
 RD:ByteArray
def zV(x:qW):List Value:=[.string x.name,.string x.RD]
def xR:List qW:=[(qW.mk (⟨[115,101,116].toArray⟩) (⟨[100,115].toArray⟩)),
 (qW.mk (⟨[97,100,100].toArray⟩) (⟨[100,97,115].toArray⟩)),
 (qW.mk (⟨[115,117,98].toArray⟩) (⟨[100,97,115].toArray⟩)),
 (qW.mk (⟨[109,117,108].toArray⟩) (⟨[100,97,115].toArray⟩)),
 (qW.mk (⟨[100,105,118].toArray⟩) (⟨[100,97,115].toArray⟩)),
 (qW.mk (⟨[114,101,109].toArray⟩) (⟨[100,97,115].toArray⟩)),
 (qW.mk (⟨[97,110,100].toArray⟩) (⟨[100,97,115].toArray⟩)),
 (qW.mk (⟨[111,114].toArray⟩) (⟨[100,97,115].toArray⟩)),
 (qW.mk (⟨[120,111,114].toArray⟩) (⟨[100,97,115].toArray⟩)),
 (qW.mk (⟨[115,104,108].toArray⟩) (⟨[100,97,115].toArray⟩)),
 (qW.mk (⟨[115,104,114].toArray⟩) (⟨[100,97,115].toArray⟩)),
 (qW.mk (⟨[108,111,97,100].toArray⟩) (⟨[100,115].toArray⟩)),
 (qW.mk (⟨[115,116,111,114,101].toArray⟩) (⟨[97,115].toArray⟩)),
 (qW.mk (⟨[102,105,101,108,100].toArray⟩) (⟨[100,102].toArray⟩)),
 (qW.mk (⟨[109,97,112].toArray⟩) (⟨[100,109].toArray⟩)),
 (qW.mk (⟨[106,117,109,112].toArray⟩) (⟨[106].toArray⟩)),
 (qW.mk (⟨[106,101,113].toArray⟩) (⟨[106,97,115].toArray⟩)),
 (qW.mk (⟨[106,110,101].toArray⟩) (⟨[106,97,115].toArray⟩)),
 (qW.mk (⟨[106,108,116].toArray⟩) (⟨[106,97,115].toArray⟩)),
 (qW.mk (⟨[106,103,101].toArray⟩) (⟨[106,97,115].toArray⟩)),
 (qW.mk (⟨[108,111,111,112].toArray⟩) (⟨[98,97,110].toArray⟩)),
 (qW.mk (⟨[99,97,108,108].toArray⟩) (⟨[104].toArray⟩)),
 (qW.mk (⟨[101,120,105,116].toArray⟩) (⟨[97].toArray⟩))]
structure qx where
 RU:Int
 At:Int
 Sw:Int
def va(x:qx):List Value:=[.int .i64 x.RU,.int .i64 x.At,.int .i64 x.Sw]
structure zg where
 Lo:Int
 Hi:Int
def dH(x:zg):List Value:=[.int .u64 x.Lo,.int .u64 x.Hi]
structure zi where
 QJ:Int
 Rh:zg
 Rv:Int
def zt(x:zi):List Value:=[.int .i64 x.QJ,.int .u64 x.Rh.Lo,.int .u64 x.Rh.Hi,.int .i64 x.Rv]
structure zj where
 Rf:zH
 came:List (Nat->zi)
 any:List Bool
 loops:List qx
def N8:Rp (List (Nat->zi)):=lM 379 (eB (zt) 8) 32 (λ_=>rfl) (by decide)
def N9:Rp (List Bool):=lM 4 (iz) 1 (λ_=>rfl) (by decide)
def Oa:Rp (List qx):=lM 400 (va) 3 (λ_=>rfl) (by decide)
def dI(wb:World)(Sb:List Nat):Rp zj:=qo (λ(x:zj)vs=>[vs.getD 0 undef,vs.getD 1 undef,vs.getD 2 undef,vs.getD 3 undef,vs.getD 4 undef]) 5 (λ_ _=>rfl) (λx=>(x.Rf.Maps,(x.Rf.Code,(x.came,(x.any,x.loops))))) (qw (Iz wb Sb (zx .i64) 1) (qw (Iz wb Sb (qb) 5) (qw N8 (qw N9 Oa))))
def cY(wb:World)(Sb:List Nat):Rp zj:=vl 370 (dI wb Sb)
structure bA where
 name:ByteArray
 SM:ByteArray
 most:Int
 asks:Int
 SE:Bool
def qk(x:bA):List Value:=[.string x.name,.string x.SM,.int .u64 x.most,.int .i64 x.asks,.bool x.SE]
def aw:List bA:=[(bA.mk (⟨[103,101,116].toArray⟩) (⟨[104,110].toArray⟩) 18446744073709551615 0 true),
 (bA.mk (⟨[104,97,115].toArray⟩) (⟨[104,110].toArray⟩) 1 1 true),
 (bA.mk (⟨[112,117,116].toArray⟩) (⟨[104,110,110].toArray⟩) 1 2 true),
 (bA.mk (⟨[100,101,108].toArray⟩) (⟨[104,110].toArray⟩) 1 3 true),
 (bA.mk (⟨[97,100,100].toArray⟩) (⟨[104,110,110].toArray⟩) 18446744073709551615 4 true),
 (bA.mk (⟨[109,97,114,107].toArray⟩) (⟨[115].toArray⟩) 18446744073709551615 0 false),
 (bA.mk (⟨[110,111,116,101].toArray⟩) (⟨[110].toArray⟩) 0 0 false)]
def kH(fx:Value):Rp zp:=vl 330 (vw fx)
structure qU where
 QJ:Int
 Pc:Int
 Item:zh
 Rz:Int
def nB:Rp zk:=vl 48 PG
structure cZ where
 To:Int
 SD:Int
 Sj:Bool
 Item:zh
 Rs:zk
 Pairs:List zq
structure zu where
 b:List Int
 Rj:Int
 field:Int
 e:Int
def bB(wb:World)(Sb:List Nat):Rp zu:=qo (λ(x:zu)vs=>[vs.getD 0 undef,.int .i64 x.Rj,.int .i64 x.field,.int .i64 x.e]) 4 (λ_ _=>rfl) (λx=>x.b) ((Iz wb Sb (zx .u8) 1))
def eE(wb:World)(Sb:List Nat):Rp zu:=vl 155 (bB wb Sb)
structure jk where
 C:zR
 RK:List (List zI)
 Se:List Int
theorem LV:Cv uO (λwb Sb=>aL wb Sb):=Cv.struct (x4 (Cv.bor _) (x4 (Cv.refl _) (x4 (Cv.refl _) (x4 (Cv.refl _) (Cv.refl _)))))
theorem LW:Cv ij (λwb Sb=>kV wb Sb):=Cv.ptr LV
theorem LX:Cv GF (λwb Sb=>KV wb Sb):=Cv.rowN LW
theorem LY:Cv uP (λwb Sb=>gv wb Sb):=Cv.struct (x4 Cv.row (Cv.row))
theorem GG:Cv Ck (λwb Sb=>GE wb Sb):=Cv.rowN LY
theorem LZ:Cv Cl (λwb Sb=>qD wb Sb):=Cv.struct (Cv.gho (λ_=>x4 (Cv.refl _) (x4 (Cv.refl _) (x4 (Cv.refl _) (x4 LX (x4 (Cv.refl _) (x4 (Cv.refl _) (x4 (Cv.refl _) (x4 GG (x4 GG (Cv.refl _)))))))))))
theorem Ob:Cv N7 (λwb Sb=>jP wb Sb):=Cv.ptr LZ
def bm(p0:Int)(p1:Int):Option Bool:=
 some (p0==p1)
def aN(p0:List Int)(p1:Int)(a:Nat)(again:Unit->Option (Unit⊕Int))(c:Unit):Option (Unit⊕Int):=
 (idx p0 (a:Int)).bind λb=>
 if (p1==b) then
  some (.inr (a:Int))
 else
  again ()
def xg(p0:List Int)(p1:Int):Option Int:=
 (jI (aN p0 p1) (λ(b:Unit)=>(.inl ())) (p0).length 0 ()).bind λa=>match a with
  |.inl c=>
   some (-1)
  |.inr r=>some r
def zY(p0:List Int)(p1:Int):Option Bool:=
 (xg p0 p1).bind λa=>
 some (decide (a>=0))
def jf(p0:Int)(p1:List Int):Option Bool:=
 (zY p1 p0).bind λa=>
 some a
def gw(p0:zC)(p1:Int)(b:Nat)(again:Unit->Option (Unit⊕Bool))(c:Unit):Option (Unit⊕Bool):=
 (idx p0.in_ (b:Int)).bind λa=>
 if ((a !=0)&&decide (a<p1)) then
  some (.inr false)
 else
  again ()
def xM(p0:zC)(p1:Int):Option Bool:=
 ((room (p0.in_).length 1).bind λb=>
 jI (gw p0 p1) (λ(c:Unit)=>(.inl ())) (p0.in_).length 0 ()).bind λa=>match a with
  |.inl d=>
   some true
  |.inr r=>some r
def aV(p0:zw):Option xx:=
 some (xx.mk p0.counts.Sf p0.counts.Sn p0.counts.SP p0.counts.Sq ((p0.waiting).length:Int))
def cJ(p0:za)(a:Nat)(again:Unit->Option (Unit⊕Bool))(d:Unit):Option (Unit⊕Bool):=
 (idx p0.QI (a:Int)).bind λb=>
 (aV b).bind λc=>
 if decide (c.Sl>0) then
  some (.inr true)
 else
  again ()
def vd(p0:za):Option Bool:=
 ((room (p0.QI).length 1).bind λb=>
 jI (cJ p0) (λ(c:Unit)=>(.inl ())) (p0.QI).length 0 ()).bind λa=>match a with
  |.inl d=>
   some false
  |.inr r=>some r
def jJ(p0:zn):Option Int:=
 some p0.QU
def cL(p0:za)(a:Nat)(again:Unit->Option (Unit⊕Bool))(d:Unit):Option (Unit⊕Bool):=
 (idx p0.LT (a:Int)).bind λb=>
 (jJ b.QL).bind λc=>
 if (c !=0) then
  some (.inr false)
 else
  again ()
def ax(p0:za):Option Bool:=
 ((room (p0.LT).length 1).bind λb=>
 jI (cL p0) (λ(c:Unit)=>(.inl ())) (p0.LT).length 0 ()).bind λa=>match a with
  |.inl d=>
   some true
  |.inr r=>some r
def xm(p0:zE)(p1:za):Option Bool:=
 if (p0.cmd.QJ==8) then
  (xM p1.Fd.Rb p0.Sv).bind λa=>
  some a
 else
  ((vd p1).bind λb=>
  if (!b) then
   (ax p1).bind λc=>
   some c
  else
   some false).bind λd=>
  some d
def cj(p0:zh)(p1:za):Option Bool:=
 (if decide (p0.Rv<0) then
  some true
 else
  if decide (p0.Rv>=((p1.QZ.Maps).length:Int)) then
   some true
  else
   if decide (p0.Op<0) then
    some true
   else
    some (decide (p0.Op>=5))).bind λa=>
 some a
def iJ(p0:Int):Option ((Option zz)×Int):=
 if (decide (p0<1)||decide (p0>4)) then
  some (none,2)
 else
  (mkLen p0 16).bind λa=>
  some ((some (zz.mk (xz.mk 0) (List.replicate a (xd.mk 0 0)))),0)
def kj(p0:Int):Option ((Option zU)×Int):=
 if (decide (p0<0)||decide (p0>4)) then
  some (none,2)
 else
  some ((some (zU.mk p0 ([]:List (Int×(List Int))))),0)
def dT(p0:Int):Option ((Option zC)×Int):=
 if (decide (p0<1)||decide (p0>4)) then
  some (none,2)
 else
  (mkLen p0 8).bind λa=>
  some ((some (zC.mk 1 (List.replicate a 0))),0)
def bH(p0:Int)(p1:Int)(p2:Int):Option ((Option zb)×Int):=
 (iJ p0).bind λa=>
 ae a.1
  ((kj p1).bind λb=>
  ae b.1
   ((dT p2).bind λd=>
   ae d.1
    (if (((a.2 !=0)||(b.2 !=0))||(d.2 !=0)) then
     some (none,2)
    else
     none)
    (λn=>
    if (((a.2 !=0)||(b.2 !=0))||(d.2 !=0)) then
     some (none,2)
    else
     none))
   (λq=>
   (dT p2).bind λe=>
   ae e.1
    (if (((a.2 !=0)||(b.2 !=0))||(e.2 !=0)) then
     some (none,2)
    else
     none)
    (λv=>
    if (((a.2 !=0)||(b.2 !=0))||(e.2 !=0)) then
     some (none,2)
    else
     none)))
  (λh=>
  (kj p1).bind λc=>
  ae c.1
   ((dT p2).bind λf=>
   ae f.1
    (if (((a.2 !=0)||(c.2 !=0))||(f.2 !=0)) then
     some (none,2)
    else
     none)
    (λz=>
    if (((a.2 !=0)||(c.2 !=0))||(f.2 !=0)) then
     some (none,2)
    else
     none))
   (λj=>
   (dT p2).bind λg=>
   ae g.1
    (if (((a.2 !=0)||(c.2 !=0))||(g.2 !=0)) then
     some (none,2)
    else
     none)
    (λl=>
    if (((a.2 !=0)||(c.2 !=0))||(g.2 !=0)) then
     some (none,2)
    else
     some ((some (zb.mk h j l p0 p1 0 ([]:List (Int×zX)) ([]:List Int))),0))))
def kn(p0:Int)(p1:zO):Option ((Option zw)×Int):=
 if ((decide (p0<1)||decide (p0>16))||false) then
  some (none,2)
 else
  some ((some (zw.mk p0 false ([]:List zZ) (xx.mk 0 0 0 0 0))),0)
def gY(p0:Int):Option ((Option ql)×Int):=
 if (decide (p0<1)||decide (p0>16)) then
  some (none,2)
 else
  some ((some (ql.mk p0 ([]:List zq))),0)
def oO(p0:Int):Option ((Option qy)×Int):=
 (gY p0).bind λa=>
 ae a.1
  (if (a.2 !=0) then
   some (none,a.2)
  else
   none)
  (λb=>
  if (a.2 !=0) then
   some (none,a.2)
  else
   some ((some (qy.mk b ([]:List Int))),0))
def dU(p0:je):Option ((Option qj)×Int):=
 if (p0.QJ==0) then
  (gY p0.Th).bind λa=>
  ae a.1
   (if (a.2==0) then
    none
   else
    some (none,2))
   (λc=>
   if (a.2==0) then
    some ((some (.inl c)),a.2)
   else
    some (none,2))
 else
  if (p0.QJ==1) then
   (oO p0.Th).bind λb=>
   ae b.1
    (if (b.2==0) then
     none
    else
     some (none,2))
    (λd=>
    if (b.2==0) then
     some ((some (.inr d)),b.2)
    else
     some (none,2))
  else
   some (none,2)
def gZ(p2:List je)(d:Nat)(again:zc->Option (zc⊕((Option zc)×Int)))(b:zc):Option (zc⊕((Option zc)×Int)):=
 (idx p2 (d:Int)).bind λe=>
 (dU e).bind λa=>
 ae a.1
  (if (a.2 !=0) then
   some (.inr (none,a.2))
  else
   none)
  (λc=>
  if (a.2 !=0) then
   some (.inr (none,a.2))
  else
   (room (b.maps.length+([c]).length) 16).bind λf=>
   again {b with maps:=(b.maps++[c])})
def bI(p0:Int)(p1:Int)(p2:List je):Option ((Option zc)×Int):=
 if ((((decide (p1<1)||decide (p1>4))||decide (p0<0))||decide (p0>=p1))||decide (((p2).length:Int)>4)) then
  some (none,2)
 else
  (jI (gZ p2) (λ(a:zc)=>(.inl a)) (p2).length 0 (zc.mk p0 p1 ([]:List qj) ([]:List zr) false)).bind λb=>match b with
   |.inl c=>
    some ((some c),0)
   |.inr r=>some r
def mJ :Option zl:=
 some (zl.mk (qL.mk (λ_=>0)) (jj.mk (λ_=>0)))
def sd :Option zW:=
 some (zW.mk (λ_=>(qB.mk 0 0 0 0 0)))
def eI :Option zn:=
 mJ.bind λa=>
 sd.bind λb=>
 some (zn.mk a b 0 (bf.mk 0 (zZ.mk 0 (qO.mk 0 0)) 0 0 0 none))
def zG(p0:List zh):Option (List zh):=
 (room (([]:List zh).length+p0.length) 32).bind λa=>
 some (([]:List zh)++p0)
def qM(p0:List Int):Option (List Int):=
 (room (([]:List Int).length+p0.length) 1).bind λa=>
 some (([]:List Int)++p0)
def bJ(p0:List zI):Option (List zI):=
 (room (0+p0.length) 128).bind λ_=>(p0.foldlM (λ(_:Unit)c=>(zG c.Rk).bind λ_=>(qM c.Rf).bind λ_=>some ()) ()).bind λ_=>some p0
def lU(p0:Int):Option ((Option zo)×Int):=
 if (decide (p0<1)||decide (p0>64)) then
  some (none,2)
 else
  (mkLen p0 16).bind λa=>
  some ((some (zo.mk (List.replicate a (qq.mk 0 0)) 0)),0)
abbrev yA:=(Option za)×Int
def mK(p0:zR)(again:((List zw)×Int)->Option ((List zw)⊕yA))(a:(List zw)×Int):Option ((List zw)⊕yA):=
 if decide (a.2<p0.QY) then
  (kn p0.RJ (zO.mk 0)).bind λb=>
  ae b.1
   (if (b.2 !=0) then
    some (.inr (none,b.2))
   else
    none)
   (λc=>
   if (b.2 !=0) then
    some (.inr (none,b.2))
   else
    (room (a.1.length+([c]).length) 8).bind λd=>
    again ((a.1++[c]),w64 (a.2+1)))
 else
  some (.inl a.1)
def mL(p0:zR)(again:((List zc)×Int)->Option ((List zc)⊕yA))(a:(List zc)×Int):Option ((List zc)⊕yA):=
 if decide (a.2<p0.QP) then
  (bI a.2 p0.QP p0.Maps).bind λb=>
  ae b.1
   (if (b.2 !=0) then
    some (.inr (none,b.2))
   else
    none)
   (λc=>
   if (b.2 !=0) then
    some (.inr (none,b.2))
   else
    (room (a.1.length+([c]).length) 8).bind λd=>
    again ((a.1++[c]),w64 (a.2+1)))
 else
  some (.inl a.1)
def ko(p0:zR)(again:((List zJ)×Int)->Option (List zJ))(a:(List zJ)×Int):Option (List zJ):=
 if decide (a.2<p0.QM) then
  eI.bind λb=>
  (room (a.1.length+([(zJ.mk b 0 0 none false)]).length) 8).bind λc=>
  again ((a.1++[(zJ.mk b 0 0 none false)]),w64 (a.2+1))
 else
  some a.1
def mM(p1:List (List zI))(d:Nat)(again:(List ze)->Option ((List ze)⊕yA))(a:(List ze)):Option ((List ze)⊕yA):=
 (idx p1 (d:Int)).bind λb=>
 if decide (((b).length:Int)>64) then
  some (.inr (none,11))
 else
  (bJ b).bind λc=>
  (room (a.length+([(ze.mk c 0 false 0 (zA.mk 0 0 ([]:List zk) ([]:List zq)) ([]:List (List zq)) ([]:List zA))]).length) 8).bind λe=>
  again (a++[(ze.mk c 0 false 0 (zA.mk 0 0 ([]:List zk) ([]:List zq)) ([]:List (List zq)) ([]:List zA))])
def Cm(p0:zR)(again:((List zw)×Int)->Option ((List zw)⊕yA))(a:(List zw)×Int):Option ((List zw)⊕yA):=
 if decide (a.2<p0.QY) then
  (kn p0.RJ (zO.mk 0)).bind λb=>
  ae b.1
   (if (b.2 !=0) then
    some (.inr (none,b.2))
   else
    none)
   (λc=>
   if (b.2 !=0) then
    some (.inr (none,b.2))
   else
    (room (a.1.length+([c]).length) 8).bind λd=>
    again ((a.1++[c]),w64 (a.2+1)))
 else
  some (.inl a.1)
def Cn(p0:zR)(again:((List zc)×Int)->Option ((List zc)⊕yA))(a:(List zc)×Int):Option ((List zc)⊕yA):=
 if decide (a.2<p0.QP) then
  (bI a.2 p0.QP p0.Maps).bind λb=>
  ae b.1
   (if (b.2 !=0) then
    some (.inr (none,b.2))
   else
    none)
   (λc=>
   if (b.2 !=0) then
    some (.inr (none,b.2))
   else
    (room (a.1.length+([c]).length) 8).bind λd=>
    again ((a.1++[c]),w64 (a.2+1)))
 else
  some (.inl a.1)
def Co(p0:zR)(again:((List zJ)×Int)->Option (List zJ))(a:(List zJ)×Int):Option (List zJ):=
 if decide (a.2<p0.QM) then
  eI.bind λb=>
  (room (a.1.length+([(zJ.mk b 0 0 none false)]).length) 8).bind λc=>
  again ((a.1++[(zJ.mk b 0 0 none false)]),w64 (a.2+1))
 else
  some a.1
def Cp(p1:List (List zI))(d:Nat)(again:(List ze)->Option ((List ze)⊕yA))(a:(List ze)):Option ((List ze)⊕yA):=
 (idx p1 (d:Int)).bind λb=>
 if decide (((b).length:Int)>64) then
  some (.inr (none,11))
 else
  (bJ b).bind λc=>
  (room (a.length+([(ze.mk c 0 false 0 (zA.mk 0 0 ([]:List zk) ([]:List zq)) ([]:List (List zq)) ([]:List zA))]).length) 8).bind λe=>
  again (a++[(ze.mk c 0 false 0 (zA.mk 0 0 ([]:List zk) ([]:List zq)) ([]:List (List zq)) ([]:List zA))])
def dV(fu:Nat)(p0:zR)(p1:List (List zI)):Option yA:=
 (bH p0.QY ((p0.Maps).length:Int) p0.QM).bind λa=>
 ae a.1
  (if (((((a.2 !=0)||decide (p0.QP<1))||decide (p0.QP>4))||decide (((p1).length:Int)<1))||decide (((p1).length:Int)>4)) then
   some (none,2)
  else
   (loop (Cm p0) fu (([]:List zw),0)).bind λb=>match b with
    |.inl D=>
     (loop (Cn p0) fu (([]:List zc),0)).bind λc=>match c with
      |.inl E=>
       (loop (Co p0) fu (([]:List zJ),0)).bind λF=>
       (jI (Cp p1) (λ(d:(List ze))=>(.inl d)) (p1).length 0 ([]:List ze)).bind λe=>match e with
        |.inl G=>
         (lU (w64 ((w64 ((w64 (((p1).length:Int)+p0.QM))+p0.QP))+1))).bind λf=>
         ae f.1
          (none)
          (λH=>
          none)
        |.inr r=>some r
      |.inr r=>some r
    |.inr r=>some r)
  (λg=>
  if (((((a.2 !=0)||decide (p0.QP<1))||decide (p0.QP>4))||decide (((p1).length:Int)<1))||decide (((p1).length:Int)>4)) then
   some (none,2)
  else
   (loop (mK p0) fu (([]:List zw),0)).bind λh=>match h with
    |.inl j=>
     (loop (mL p0) fu (([]:List zc),0)).bind λl=>match l with
      |.inl n=>
       (loop (ko p0) fu (([]:List zJ),0)).bind λq=>
       (jI (mM p1) (λ(v:(List ze))=>(.inl v)) (p1).length 0 ([]:List ze)).bind λz=>match z with
        |.inl A=>
         (lU (w64 ((w64 ((w64 (((p1).length:Int)+p0.QM))+p0.QP))+1))).bind λB=>
         ae B.1
          (none)
          (λC=>
          some ((some (za.mk g C p0 A q n j ([]:List zE) ([]:List zE) 0 false false ([]:List zd) (zO.mk 0))),0))
        |.inr r=>some r
      |.inr r=>some r
    |.inr r=>some r)
def dW(p0:zo):Option Int:=
 some p0.LE
def qF(p0:za):Option Int:=
 some (w64 ((w64 (((p0.or).length:Int)+((p0.LT).length:Int)))+((p0.Id).length:Int)))
def zS(p0:za):Option Int:=
 some ((p0.or).length:Int)
def qC(p0:za):Option Int:=
 some (w64 (((p0.or).length:Int)+((p0.LT).length:Int)))
def qm(p0:List zr):Option (List zr):=
 (room (([]:List zr).length+p0.length) 56).bind λa=>
 some (([]:List zr)++p0)
def vn(p0:zc):Option (List zr):=
 (qm p0.QO).bind λa=>
 some a
def ve(p0:zc):Option Bool:=
 some p0.QV
def bL(p0:za)(a:Nat)(again:Unit->Option (Unit⊕Bool))(c:Unit):Option (Unit⊕Bool):=
 (idx p0.LT (a:Int)).bind λb=>
 if (!b.QV) then
  some (.inr false)
 else
  again ()
def bM(p0:za)(p1:Bool)(a:Nat)(again:Unit->Option (Unit⊕Bool))(e:Unit):Option (Unit⊕Bool):=
 (idx p0.Id (a:Int)).bind λb=>
 (if p1 then
  (ve b).bind λc=>
  some (!c)
 else
  some false).bind λd=>
 if d then
  some (.inr false)
 else
  again ()
def xE(p0:za)(p1:Bool):Option Bool:=
 ((room (p0.LT).length 1).bind λc=>
 jI (bL p0) (λ(d:Unit)=>(.inl ())) (p0.LT).length 0 ()).bind λa=>match a with
  |.inl e=>
   ((room (p0.Id).length 1).bind λf=>
   jI (bM p0 p1) (λ(g:Unit)=>(.inl ())) (p0.Id).length 0 ()).bind λb=>match b with
    |.inl h=>
     some true
    |.inr r=>some r
  |.inr r=>some r
def qt(p0:List zE)(p1:za)(a:Nat)(again:Unit->Option (Unit⊕Int))(d:Unit):Option (Unit⊕Int):=
 (idx p0 (a:Int)).bind λb=>
 (xm b p1).bind λc=>
 if c then
  some (.inr (a:Int))
 else
  again ()
def qe(p0:List zE)(p1:za):Option Int:=
 (jI (qt p0 p1) (λ(b:Unit)=>(.inl ())) (p0).length 0 ()).bind λa=>match a with
  |.inl c=>
   some (-1)
  |.inr r=>some r
def xh(p0:za):Option Int:=
 (qe p0.held p0).bind λa=>
 some a
def ay(p0:za):Option Bool:=
 (if p0.closed then
  (xE p0 true).bind λa=>
  if a then
   some (((p0.held).length:Int)==0)
  else
   some false
 else
  some false).bind λb=>
 some b
def qQ(p0:za)(p1:Int):Option Bool:=
 (zS p0).bind λe=>
 if decide (p1<e) then
  (idx p0.or p1).bind λa=>
  if a.waits then
   some (a.QT==0)
  else
   some (decide (a.Rj<((a.Ro).length:Int)))
 else
  (qC p0).bind λf=>
  if decide (p1<f) then
   (zS p0).bind λg=>
   (idx p0.LT (w64 (p1-g))).bind λb=>
   (jJ b.QL).bind λc=>
   if (c==0) then
    (if (!b.QV) then
     if p0.closed then
      some true
     else
      (vd p0).bind λh=>
      some h
    else
     some false).bind λj=>
    some j
   else
    if (c==3) then
     some b.Sg.isSome
    else
     some true
  else
   (qF p0).bind λl=>
   if decide (p1<l) then
    (qC p0).bind λn=>
    (idx p0.Id (w64 (p1-n))).bind λd=>
    ((vn d).bind λq=>
    if decide (((q).length:Int)>0) then
     some true
    else
     if p0.closed then
      (xE p0 false).bind λv=>
      if v then
       (ve d).bind λz=>
       some (!z)
      else
       some false
     else
      some false).bind λA=>
    some A
   else
    (if (!p0.over) then
     if decide (((p0.QO).length:Int)>0) then
      some true
     else
      (xh p0).bind λB=>
      if decide (B>=0) then
       some true
      else
       (ay p0).bind λC=>
       some C
    else
     some false).bind λD=>
    some D
def fE(p1:List Bool)(b:Nat)(again:zo->Option zo)(a:zo):Option zo:=
 (idx p1 (b:Int)).bind λd=>
 (idx a.QN (b:Int)).bind λc=>
 if (c.QU==2) then
  again a
 else
  if d then
   again (zo.mk (a.QN.set (Int.toNat (b:Int)) (qq.mk 1 c.Sh)) a.LE)
  else
   again (zo.mk (a.QN.set (Int.toNat (b:Int)) (qq.mk 0 c.Sh)) a.LE)
def dX(p0:zo)(p1:List Bool):Option (Int×zo):=
 if (((p1).length:Int) !=((p0.QN).length:Int)) then
  some (2,p0)
 else
  (jI (fE p1) (λ(a:zo)=>a) (p1).length 0 p0).bind λb=>
  some (0,b)
def cM(p0:za)(a:Nat)(again:(List Bool)->Option (List Bool))(b:(List Bool)):Option (List Bool):=
 (qQ p0 (a:Int)).bind λc=>
 (idx b (a:Int)).bind λd=>
 again (b.set (Int.toNat (a:Int)) c)
def vf(p0:za):Option za:=
 (qF p0).bind λb=>
 (mkLen (w64 (b+1)) 1).bind λa=>
 ((room a 1).bind λf=>
 jI (cM p0) (λ(c:(List Bool))=>c) a 0 (List.replicate a false)).bind λd=>
 (dX p0.QX d).bind λe=>
 some {p0 with QX:=e.2}
def gy(p0:zo)(p1:Int)(a:Nat)(again:(List Int)->Option (List Int))(b:(List Int)):Option (List Int):=
 (idx p0.QN (a:Int)).bind λc=>
 if (c.QU==p1) then
  (room (b.length+([(a:Int)]).length) 8).bind λd=>
  again (b++[(a:Int)])
 else
  again b
def dJ(p0:zo)(p1:Int):Option (List Int):=
 (jI (gy p0 p1) (λ(a:(List Int))=>a) (p0.QN).length 0 ([]:List Int)).bind λb=>
 some b
def az(p0:zo):Option (List Int):=
 (dJ p0 1).bind λa=>
 some a
def vS(p0:zo)(p1:Int):Option (Int×Bool×zo):=
 (idx p0.QN p1).bind λa=>
 some (p1,true,(zo.mk (p0.QN.set (Int.toNat p1) (qq.mk a.QU (w64 (p0.LE+1)))) (w64 (p0.LE+1))))
def db(p0:zo)(p1:Int):Option (Int×Bool×zo):=
 (az p0).bind λa=>
 if (((a).length:Int)==0) then
  some (0,false,p0)
 else
  (nz ((a).length:Int)).bind λe=>
  (if decide ((p1.tmod ((a).length:Int))<0) then
   some (w64 ((p1.tmod ((a).length:Int))+((a).length:Int)))
  else
   some (p1.tmod ((a).length:Int))).bind λc=>
  (idx a c).bind λd=>
  (vS p0 d).bind λb=>
  some (b.1,b.2.1,b.2.2)
def eJ(c:ze)(d:Nat)(again:(List zq)->Option ze)(a:(List zq)):Option ze:=
 (idx c.parts (d:Int)).bind λb=>
 (room (a.length+b.length) 16).bind λe=>
 again (a++b)
def qV(p0:za)(p1:Int):Option za:=
 (idx p0.or p1).bind λb=>
 (jI (eJ b) (λ(c:(List zq))=>{b with Fn:=(zA.mk b.Fn.E b.Fn.N b.Fn.Rs c)}) (b.parts).length 0 b.Fn.Pairs).bind λa=>
 (room (p0.Ri.length+([(zd.mk 2 p1 0 a.Rj 0 0 0 0 0 0 (zh.mk 0 0 0 0) (zk.mk 0 false 0 false 0 0) (xX a.Fn.N) a.Fn.E)]).length) 176).bind λd=>
 (room (a.QR.length+([a.Fn]).length) 64).bind λe=>
 some {p0 with or:=(p0.or.set (Int.toNat p1) (ze.mk a.Ro (w64 (a.Rj+1)) false a.QT (zA.mk 0 0 ([]:List zk) ([]:List zq)) ([]:List (List zq)) (a.QR++[a.Fn]))),Ri:=(p0.Ri++[(zd.mk 2 p1 0 a.Rj 0 0 0 0 0 0 (zh.mk 0 0 0 0) (zk.mk 0 false 0 false 0 0) (xX a.Fn.N) a.Fn.E)])}
def qz(p0:List zh)(p1:za)(a:Nat)(again:Unit->Option (Unit⊕Int))(d:Unit):Option (Unit⊕Int):=
 (idx p0 (a:Int)).bind λb=>
 (cj b p1).bind λc=>
 if c then
  some (.inr (a:Int))
 else
  again ()
def qi(p0:List zh)(p1:za):Option Int:=
 (jI (qz p0 p1) (λ(b:Unit)=>(.inl ())) (p0).length 0 ()).bind λa=>match a with
  |.inl c=>
   some (-1)
  |.inr r=>some r
def qd(p0:List zh)(p1:za):Option Bool:=
 (qi p0 p1).bind λa=>
 some (decide (a>=0))
def xA(p0:za)(p1:List zh):Option Bool:=
 (qd p1 p0).bind λa=>
 some a
def ak(p0:Int)(p1:Int):Option Int:=
 if decide (p1<1) then
  some 0
 else
  (nz (xX p1)).bind λa=>
  some (w64 ((ic .u64 (xX (p0*11400714819323198485)) 32).tmod (xX p1)))
def xN(p0:zc)(p1:zr):Option Bool:=
 if (decide (p1.Item.Rv<0)||decide (p1.Item.Rv>=((p0.maps).length:Int))) then
  some false
 else
  (if p1.Sj then
   some true
  else
   if decide (p1.Item.Op>=0) then
    if decide (p1.Item.Op<5) then
     (ak p1.Item.RH p0.RL).bind λa=>
     some (a==p0.Si)
    else
     some false
   else
    some false).bind λb=>
  some b
def gz(p0:zc)(p1:List zr)(a:Nat)(again:Unit->Option (Unit⊕(Int×zc)))(d:Unit):Option (Unit⊕(Int×zc)):=
 (idx p1 (a:Int)).bind λb=>
 (xN p0 b).bind λc=>
 if (!c) then
  some (.inr (2,p0))
 else
  again ()
def jE(p0:zc)(p1:List zr):Option (Int×zc):=
 if p0.QV then
  some (43,p0)
 else
  (jI (gz p0 p1) (λ(b:Unit)=>(.inl ())) (p1).length 0 ()).bind λa=>match a with
   |.inl c=>
    (room (p0.QO.length+p1.length) 56).bind λd=>
    some (0,{p0 with QO:=(p0.QO++p1)})
   |.inr r=>some r
def cm(p0:zO):Option (Int×zO):=
 some (w64 (p0.last+1),(zO.mk (w64 (p0.last+1))))
def vy(p0:zw)(p1:qO)(g0:zO):Option (Int×Int×zw×zO):=
 if p0.SO then
  some (0,43,p0,g0)
 else
  if (((p0.waiting).length:Int)==p0.room) then
   some (0,40,{p0 with counts:=(xx.mk p0.counts.Sf (w64 (p0.counts.Sn+1)) p0.counts.SP p0.counts.Sq p0.counts.Sl)},g0)
  else
   (cm g0).bind λa=>
   (room (p0.waiting.length+([(zZ.mk a.1 p1)]).length) 24).bind λb=>
   some (a.1,0,(zw.mk p0.room p0.SO (p0.waiting++[(zZ.mk a.1 p1)]) (xx.mk (w64 (p0.counts.Sf+1)) p0.counts.Sn p0.counts.SP p0.counts.Sq p0.counts.Sl)),a.2)
def dv(p1:Int)(e:zI)(b:Nat)(again:(List zc)->Option (List zc))(a:(List zc)):Option (List zc):=
 (idx ([e.Item]) (b:Int)).bind λc=>
 (ak c.RH ((a).length:Int)).bind λd=>
 (idx a d).bind λf=>
 (jE f ([(zr.mk p1 (b:Int) false c)])).bind λg=>
 again (a.set (Int.toNat d) g.2)
def gA(p1:Int)(e:zI)(b:Nat)(again:(List zc)->Option (List zc))(a:(List zc)):Option (List zc):=
 (idx e.Rk (b:Int)).bind λc=>
 (ak c.RH ((a).length:Int)).bind λd=>
 (idx a d).bind λf=>
 (jE f ([(zr.mk p1 (b:Int) false c)])).bind λg=>
 again (a.set (Int.toNat d) g.2)
def dw(p1:Int)(c:zI)(a:Nat)(again:(List zc)->Option (List zc))(b:(List zc)):Option (List zc):=
 (idx b (a:Int)).bind λd=>
 (jE d ([(zr.mk p1 (a:Int) true (zh.mk c.Rv 0 0 0))])).bind λe=>
 again (b.set (Int.toNat (a:Int)) e.2)
def xO(p0:za)(p1:Int):Option za:=
 (idx p0.or p1).bind λa=>
 if a.waits then
  (qV p0 p1).bind λe=>
  some e
 else
  (room (p0.Ri.length+([(zd.mk 1 p1 0 a.Rj 0 0 0 0 0 0 (zh.mk 0 0 0 0) (zk.mk 0 false 0 false 0 0) 0 0)]).length) 176).bind λR=>
  (idx a.Ro a.Rj).bind λb=>
  if p0.closed then
   (qV {p0 with or:=(p0.or.set (Int.toNat p1) {a with Fn:=(zA.mk 43 a.Fn.N a.Fn.Rs a.Fn.Pairs)}),Ri:=(p0.Ri++[(zd.mk 1 p1 0 a.Rj 0 0 0 0 0 0 (zh.mk 0 0 0 0) (zk.mk 0 false 0 false 0 0) 0 0)])} p1).bind λf=>
   some f
  else
   (((if (b.QJ==0) then
    some (b.QJ==0)
   else
    some (b.QJ==1)).bind λg=>
   if g then
    if (b.QJ==0) then
     (xA {p0 with Ri:=(p0.Ri++[(zd.mk 1 p1 0 a.Rj 0 0 0 0 0 0 (zh.mk 0 0 0 0) (zk.mk 0 false 0 false 0 0) 0 0)])} ([b.Item])).bind λh=>
     if h then
      (qV {p0 with or:=(p0.or.set (Int.toNat p1) {a with Fn:=(zA.mk 2 a.Fn.N a.Fn.Rs a.Fn.Pairs)}),Ri:=(p0.Ri++[(zd.mk 1 p1 0 a.Rj 0 0 0 0 0 0 (zh.mk 0 0 0 0) (zk.mk 0 false 0 false 0 0) 0 0)])} p1).bind λj=>
      some (.inr j)
     else
      (mkLen 1 48).bind λl=>
      (jI (dv p1 b) (λ(n:(List zc))=>n) 1 0 p0.Id).bind λq=>
      some (.inl ({a with QT:=1,Fn:=(zA.mk a.Fn.E a.Fn.N (List.replicate l (zk.mk 0 false 0 false 0 0)) a.Fn.Pairs)},q,p0.QO))
    else
     (if decide (((b.Rk).length:Int)<1) then
      some true
     else
      if decide (((b.Rk).length:Int)>16) then
       some true
      else
       (xA {p0 with Ri:=(p0.Ri++[(zd.mk 1 p1 0 a.Rj 0 0 0 0 0 0 (zh.mk 0 0 0 0) (zk.mk 0 false 0 false 0 0) 0 0)])} b.Rk).bind λv=>
       some v).bind λz=>
     if z then
      (qV {p0 with or:=(p0.or.set (Int.toNat p1) {a with Fn:=(zA.mk 2 a.Fn.N a.Fn.Rs a.Fn.Pairs)}),Ri:=(p0.Ri++[(zd.mk 1 p1 0 a.Rj 0 0 0 0 0 0 (zh.mk 0 0 0 0) (zk.mk 0 false 0 false 0 0) 0 0)])} p1).bind λA=>
      some (.inr A)
     else
      (mkLen ((b.Rk).length:Int) 48).bind λB=>
      ((room (b.Rk).length 1).bind λS=>
      jI (gA p1 b) (λ(C:(List zc))=>C) (b.Rk).length 0 p0.Id).bind λD=>
      some (.inl ({a with QT:=((b.Rk).length:Int),Fn:=(zA.mk a.Fn.E a.Fn.N (List.replicate B (zk.mk 0 false 0 false 0 0)) a.Fn.Pairs)},D,p0.QO))
   else
    if (b.QJ==2) then
     if (decide (b.Rv<0)||decide (b.Rv>=((p0.QZ.Maps).length:Int))) then
      (qV {p0 with or:=(p0.or.set (Int.toNat p1) {a with Fn:=(zA.mk 2 a.Fn.N a.Fn.Rs a.Fn.Pairs)}),Ri:=(p0.Ri++[(zd.mk 1 p1 0 a.Rj 0 0 0 0 0 0 (zh.mk 0 0 0 0) (zk.mk 0 false 0 false 0 0) 0 0)])} p1).bind λF=>
      some (.inr F)
     else
      (mkLen ((p0.Id).length:Int) 24).bind λG=>
      (jI (dw p1 b) (λ(H:(List zc))=>H) (p0.Id).length 0 p0.Id).bind λI=>
      some (.inl ({a with QT:=((p0.Id).length:Int),parts:=(List.replicate G [])},I,p0.QO))
    else
     if (b.QJ==3) then
      if (decide (b.Ry<0)||decide (b.Ry>=((p0.QI).length:Int))) then
       (qV {p0 with or:=(p0.or.set (Int.toNat p1) {a with Fn:=(zA.mk 2 a.Fn.N a.Fn.Rs a.Fn.Pairs)}),Ri:=(p0.Ri++[(zd.mk 1 p1 0 a.Rj 0 0 0 0 0 0 (zh.mk 0 0 0 0) (zk.mk 0 false 0 false 0 0) 0 0)])} p1).bind λJ=>
       some (.inr J)
      else
       (idx p0.QI b.Ry).bind λK=>
       (vy K b.Ra p0.Rx).bind λc=>
       if (c.2.1==0) then
        (room ((p0.Ri++[(zd.mk 1 p1 0 a.Rj 0 0 0 0 0 0 (zh.mk 0 0 0 0) (zk.mk 0 false 0 false 0 0) 0 0)]).length+([(zd.mk 4 p1 0 a.Rj 0 c.1 b.Ry 0 0 0 (zh.mk 0 0 0 0) (zk.mk 0 false 0 false 0 0) 0 0)]).length) 176).bind λT=>
        if ((c.2.1 !=0)||(!a.waits)) then
         (qV {p0 with or:=(p0.or.set (Int.toNat p1) {a with Fn:=(zA.mk c.2.1 c.1 a.Fn.Rs a.Fn.Pairs)}),QI:=(p0.QI.set (Int.toNat b.Ry) c.2.2.1),Ri:=((p0.Ri++[(zd.mk 1 p1 0 a.Rj 0 0 0 0 0 0 (zh.mk 0 0 0 0) (zk.mk 0 false 0 false 0 0) 0 0)])++[(zd.mk 4 p1 0 a.Rj 0 c.1 b.Ry 0 0 0 (zh.mk 0 0 0 0) (zk.mk 0 false 0 false 0 0) 0 0)]),Rx:=c.2.2.2} p1).bind λL=>
         some (.inr L)
        else
         some (.inr {p0 with or:=(p0.or.set (Int.toNat p1) {a with Fn:=(zA.mk c.2.1 c.1 a.Fn.Rs a.Fn.Pairs)}),QI:=(p0.QI.set (Int.toNat b.Ry) c.2.2.1),Ri:=((p0.Ri++[(zd.mk 1 p1 0 a.Rj 0 0 0 0 0 0 (zh.mk 0 0 0 0) (zk.mk 0 false 0 false 0 0) 0 0)])++[(zd.mk 4 p1 0 a.Rj 0 c.1 b.Ry 0 0 0 (zh.mk 0 0 0 0) (zk.mk 0 false 0 false 0 0) 0 0)]),Rx:=c.2.2.2})
       else
        if ((c.2.1 !=0)||(!a.waits)) then
         (qV {p0 with or:=(p0.or.set (Int.toNat p1) {a with Fn:=(zA.mk c.2.1 a.Fn.N a.Fn.Rs a.Fn.Pairs)}),QI:=(p0.QI.set (Int.toNat b.Ry) c.2.2.1),Ri:=(p0.Ri++[(zd.mk 1 p1 0 a.Rj 0 0 0 0 0 0 (zh.mk 0 0 0 0) (zk.mk 0 false 0 false 0 0) 0 0)]),Rx:=c.2.2.2} p1).bind λM=>
         some (.inr M)
        else
         some (.inr {p0 with or:=(p0.or.set (Int.toNat p1) {a with Fn:=(zA.mk c.2.1 a.Fn.N a.Fn.Rs a.Fn.Pairs)}),QI:=(p0.QI.set (Int.toNat b.Ry) c.2.2.1),Ri:=(p0.Ri++[(zd.mk 1 p1 0 a.Rj 0 0 0 0 0 0 (zh.mk 0 0 0 0) (zk.mk 0 false 0 false 0 0) 0 0)]),Rx:=c.2.2.2})
     else
      (if (b.QJ==4) then
       some (b.QJ==4)
      else
       if (b.QJ==5) then
        some (b.QJ==5)
       else
        if (b.QJ==6) then
         some (b.QJ==6)
        else
         if (b.QJ==7) then
          some (b.QJ==7)
         else
          if (b.QJ==8) then
           some (b.QJ==8)
          else
           if (b.QJ==9) then
            some (b.QJ==9)
           else
            some (b.QJ==10)).bind λO=>
      if O then
       (room (p0.QO.length+([(zE.mk p1 b 0)]).length) 144).bind λU=>
       some (.inl ({a with QT:=1},p0.Id,(p0.QO++[(zE.mk p1 b 0)])))
      else
       (qV {p0 with or:=(p0.or.set (Int.toNat p1) {a with Fn:=(zA.mk 2 a.Fn.N a.Fn.Rs a.Fn.Pairs)}),Ri:=(p0.Ri++[(zd.mk 1 p1 0 a.Rj 0 0 0 0 0 0 (zh.mk 0 0 0 0) (zk.mk 0 false 0 false 0 0) 0 0)])} p1).bind λP=>
       some (.inr P)):Option ((ze×(List zc)×(List zE))⊕za)).bind λQ=>match Q with
    |.inl d=>
     some {p0 with or:=(p0.or.set (Int.toNat p1) (ze.mk d.1.Ro d.1.Rj true d.1.QT (zA.mk 0 d.1.Fn.N d.1.Fn.Rs d.1.Fn.Pairs) d.1.parts d.1.QR)),Id:=d.2.1,QO:=d.2.2,Ri:=(p0.Ri++[(zd.mk 1 p1 0 a.Rj 0 0 0 0 0 0 (zh.mk 0 0 0 0) (zk.mk 0 false 0 false 0 0) 0 0)])}
    |.inr r=>some r
def xo(p0:zn):Option (Int×zZ):=
 some (p0.Ru.hook,p0.Ru.RB)
def iK(p0:zo)(p2:List Int)(b:Nat)(again:Unit->Option (Unit⊕(Int×zo)))(c:Unit):Option (Unit⊕(Int×zo)):=
 (idx p2 (b:Int)).bind λa=>
 if (decide (a<0)||decide (a>=((p0.QN).length:Int))) then
  some (.inr (2,p0))
 else
  again ()
def iL(p0:zo)(p2:List Int)(a:Nat)(again:Unit->Option (Unit⊕(Int×zo)))(d:Unit):Option (Unit⊕(Int×zo)):=
 (idx p2 (a:Int)).bind λb=>
 (idx p0.QN b).bind λc=>
 if (c.QU==2) then
  some (.inr (43,p0))
 else
  again ()
def iM(p1:Int)(p2:List Int)(c:Nat)(again:zo->Option zo)(a:zo):Option zo:=
 (idx p2 (c:Int)).bind λb=>
 (idx a.QN b).bind λd=>
 again (zo.mk (a.QN.set (Int.toNat b) (qq.mk p1 d.Sh)) a.LE)
def fa(p0:zo)(p1:Int)(p2:List Int):Option (Int×zo):=
 (jI (iK p0 p2) (λ(e:Unit)=>(.inl ())) (p2).length 0 ()).bind λa=>match a with
  |.inl f=>
   (jI (iL p0 p2) (λ(g:Unit)=>(.inl ())) (p2).length 0 ()).bind λb=>match b with
    |.inl h=>
     (jI (iM p1 p2) (λ(c:zo)=>c) (p2).length 0 p0).bind λd=>
     some (0,d)
    |.inr r=>some r
  |.inr r=>some r
def aO(p0:zo)(p1:List Int):Option (Int×zo):=
 (fa p0 2 p1).bind λa=>
 some (a.1,a.2)
def bp(p0:zw)(g0:zO):Option (zZ×Bool×zw):=
 if (((p0.waiting).length:Int)==0) then
  some ((zZ.mk 0 (qO.mk 0 0)),false,p0)
 else
  (idx p0.waiting 0).bind λa=>
  (cut p0.waiting 1 (p0.waiting.length:Int)).bind λb=>
  some (a,true,(zw.mk p0.room p0.SO b (xx.mk p0.counts.Sf p0.counts.Sn (w64 (p0.counts.SP+1)) p0.counts.Sq p0.counts.Sl)))
def vF(p0:zn)(p1:Int)(p2:zZ):Option (Int×zn):=
 if (decide (p1<0)||decide (p1>=4)) then
  some (2,p0)
 else
  if (p0.QU !=0) then
   some (42,p0)
  else
   some (0,{p0 with QU:=1,Ru:=(bf.mk p1 p2 0 0 0 none)})
def jl(p0:zz)(p1:Int):Option Bool:=
 some (decide (p1>=0)&&decide (p1<((p0.QS).length:Int)))
def jn(p0:zz)(p1:Int):Option Bool:=
 (idx p0.QS p1).bind λa=>
 some (decide (a.Rt>0))
def jQ(p0:zz)(p1:Int):Option (Int×Int×Bool):=
 ((jl p0 p1).bind λb=>
 if (!b) then
  some true
 else
  (jn p0 p1).bind λc=>
  some (!c)).bind λd=>
 if d then
  some (0,0,false)
 else
  (idx p0.QS p1).bind λa=>
  some (a.Rt,a.prog,true)
def eK(p0:Int):Option Bool:=
 some (decide (p0>=0)&&decide (p0<4))
def vG(p0:zW)(p1:List Int)(a:Nat)(again:Unit->Option (Unit⊕(Int×zW)))(d:Unit):Option (Unit⊕(Int×zW)):=
 (idx p1 (a:Int)).bind λb=>
 (eK b).bind λc=>
 if (!c) then
  some (.inr (2,p0))
 else
  again ()
def vH(p1:List Int)(c:Nat)(again:zW->Option zW)(a:zW):Option zW:=
 (idx p1 (c:Int)).bind λd=>
 (ain 4 d).bind λb=>
 again (zW.mk (aset a.QS b (qB.mk (a.QS b).SQ (xX ((a.QS b).RY+1)) (a.QS b).Sz (a.QS b).Calls (a.QS b).Sum)))
def vI(p0:zW)(p1:List Int):Option (Int×zW):=
 (jI (vG p0 p1) (λ(d:Unit)=>(.inl ())) (p1).length 0 ()).bind λa=>match a with
  |.inl e=>
   (jI (vH p1) (λ(b:zW)=>b) (p1).length 0 p0).bind λc=>
   some (0,c)
  |.inr r=>some r
def bC(p0:zn):Option zn:=
 some {p0 with QU:=0,Ru:=(bf.mk 0 (zZ.mk 0 (qO.mk 0 0)) 0 0 0 none)}
def xF(p0:zn):Option (Int×zn):=
 if (p0.QU !=1) then
  some (41,p0)
 else
  (vI p0.Su ([p0.Ru.hook])).bind λa=>
  (bC {p0 with Su:=a.2}).bind λb=>
  some (0,b)
def qX(p0:List Int):Option (List Int):=
 (room (([]:List Int).length+p0.length) 8).bind λa=>
 some (([]:List Int)++p0)
def zQ(p0:List zf):Option (List zf):=
 (room (([]:List zf).length+p0.length) 40).bind λa=>
 some (([]:List zf)++p0)
def ja(p0:zb)(p1:Int):Option (zH×Bool):=
 if (!(jM p0.Re p1).isSome) then
  some ((zH.mk ([]:List Int) ([]:List zf)),false)
 else
  (jM p0.Re p1).bind λa=>
  (qX a.module.Maps).bind λb=>
  (zQ a.module.Code).bind λc=>
  some ((zH.mk b c),true)
def vg(p0:zC)(p1:Int):Option Bool:=
 some (decide (p1>=0)&&decide (p1<((p0.in_).length:Int)))
def vh(p0:zC)(p1:Int):Option (Int×Int×zC):=
 (vg p0 p1).bind λa=>
 if (!a) then
  some (0,2,p0)
 else
  (idx p0.in_ p1).bind λb=>
  if (b !=0) then
   some (0,42,p0)
  else
   some (p0.Sk,0,(zC.mk p0.Sk (p0.in_.set (Int.toNat p1) p0.Sk)))
def nC(p0:List Int)(b:Nat)(again:Unit->Option (Unit⊕Bool))(f:Unit):Option (Unit⊕Bool):=
 (idx p0 (b:Int)).bind λa=>
 (if decide (a<0) then
  some true
 else
  if decide (a>=4) then
   some true
  else
   (cut p0 0 (b:Int)).bind λc=>
   (zY c a).bind λd=>
   some d).bind λe=>
 if e then
  some (.inr false)
 else
  again ()
def iN(p0:List Int):Option Bool:=
 (jI (nC p0) (λ(b:Unit)=>(.inl ())) (p0).length 0 ()).bind λa=>match a with
  |.inl c=>
   some (decide (((p0).length:Int)<=4))
  |.inr r=>some r
def eF(p0:Int):Option (qW×Bool):=
 if (decide (p0<0)||decide (p0>=23)) then
  some ((qW.mk ByteArray.empty ByteArray.empty),false)
 else
  (idx xR p0).bind λa=>
  some (a,true)
def dK(p0:Int):Option Bool:=
 some (decide (p0>=0)&&decide (p0<8))
def cq(p0:Int)(p1:Int)(p2:Int):Option Bool:=
 some (decide (p0>=p1)&&decide (p0<=p2))
def hP(p0:zf)(c:qW×Bool)(d:Nat)(again:(Bool×zf)->Option (Bool×zf))(a:Bool×zf):Option (Bool×zf):=
 (tx c.1.RD (d:Int)).bind λb=>
 if (b==100) then
  if a.1 then
   (dK p0.D).bind λe=>
   again (e,(zf.mk a.2.Op 0 a.2.A a.2.B a.2.RA))
  else
   again (false,(zf.mk a.2.Op 0 a.2.A a.2.B a.2.RA))
 else
  if (b==97) then
   if a.1 then
    (dK p0.A).bind λf=>
    again (f,(zf.mk a.2.Op a.2.D 0 a.2.B a.2.RA))
   else
    again (false,(zf.mk a.2.Op a.2.D 0 a.2.B a.2.RA))
  else
   if (b==115) then
    if (p0.B==8) then
     again (a.1,(zf.mk a.2.Op a.2.D a.2.A 0 0))
    else
     if a.1 then
      (dK p0.B).bind λg=>
      again (g,(zf.mk a.2.Op a.2.D a.2.A 0 a.2.RA))
     else
      again (false,(zf.mk a.2.Op a.2.D a.2.A 0 a.2.RA))
   else
    if (b==102) then
     if a.1 then
      (cq p0.RA 0 1).bind λh=>
      again (h,(zf.mk a.2.Op a.2.D a.2.A a.2.B 0))
     else
      again (false,(zf.mk a.2.Op a.2.D a.2.A a.2.B 0))
    else
     if (b==109) then
      if a.1 then
       (cq p0.RA 0 3).bind λj=>
       again (j,(zf.mk a.2.Op a.2.D a.2.A a.2.B 0))
      else
       again (false,(zf.mk a.2.Op a.2.D a.2.A a.2.B 0))
     else
      if (b==104) then
       if a.1 then
        (cq p0.RA 0 6).bind λl=>
        again (l,(zf.mk a.2.Op a.2.D a.2.A a.2.B 0))
       else
        again (false,(zf.mk a.2.Op a.2.D a.2.A a.2.B 0))
      else
       if (b==110) then
        if a.1 then
         (cq p0.RA 1 255).bind λn=>
         again (n,(zf.mk a.2.Op a.2.D a.2.A a.2.B 0))
        else
         again (false,(zf.mk a.2.Op a.2.D a.2.A a.2.B 0))
       else
        if (b==106) then
         if a.1 then
          (cq p0.D 0 63).bind λq=>
          again (q,(zf.mk a.2.Op 0 a.2.A a.2.B a.2.RA))
         else
          again (false,(zf.mk a.2.Op 0 a.2.A a.2.B a.2.RA))
        else
         if (b==98) then
          if a.1 then
           (cq p0.D 1 63).bind λv=>
           again (v,(zf.mk a.2.Op 0 a.2.A a.2.B a.2.RA))
          else
           again (false,(zf.mk a.2.Op 0 a.2.A a.2.B a.2.RA))
         else
          again (a.1,a.2)
def vJ(p0:zf):Option Bool:=
 (eF p0.Op).bind λb=>
 if (!b.2) then
  some false
 else
  ((room b.1.RD.size 1).bind λe=>
  jI (hP p0 b) (λ(c:Bool×zf)=>(c.1,c.2)) b.1.RD.size 0 (b.2,{p0 with Op:=0})).bind λa=>
  (if a.1 then
   some ((a.2.Op==0)&&((a.2.D==0)&&((a.2.A==0)&&((a.2.B==0)&&((a.2.RA==0)&&true)))))
  else
   some false).bind λd=>
  some d
def pR(p0:qW)(p1:Int)(a:Nat)(again:Unit->Option (Unit⊕Bool))(c:Unit):Option (Unit⊕Bool):=
 (tx p0.RD (a:Int)).bind λb=>
 if (b==p1) then
  some (.inr true)
 else
  again ()
def jr(p0:qW)(p1:Int):Option Bool:=
 ((room p0.RD.size 1).bind λb=>
 jI (pR p0 p1) (λ(c:Unit)=>(.inl ())) p0.RD.size 0 ()).bind λa=>match a with
  |.inl d=>
   some false
  |.inr r=>some r
def kr(p0:zf):Option (Int×Bool×Bool):=
 (vJ p0).bind λb=>
 if (!b) then
  some (0,false,false)
 else
  (eF p0.Op).bind λa=>
  (jr a.1 106).bind λc=>
  if c then
   some (w64 (p0.D+1),true,(p0.Op !=15))
  else
   (jr a.1 98).bind λd=>
   if d then
    some (w64 (0-p0.D),true,true)
   else
    some (0,false,(p0.Op !=22))
def kW(p0:List zf)(a:Nat)(again:Unit->Option (Unit⊕Bool))(d:Unit):Option (Unit⊕Bool):=
 (idx p0 (a:Int)).bind λb=>
 (vJ b).bind λc=>
 if (!c) then
  some (.inr false)
 else
  again ()
def fk(p0:List zf):Option Bool:=
 (jI (kW p0) (λ(b:Unit)=>(.inl ())) (p0).length 0 ()).bind λa=>match a with
  |.inl c=>
   some true
  |.inr r=>some r
abbrev yC:=Unit⊕(Int×Int)
def my(p0:List zf)(a:Nat)(again:Unit->Option yC)(e:Unit):Option yC:=
 (idx p0 (a:Int)).bind λc=>
 (kr c).bind λb=>
 (fk ([c])).bind λd=>
 if (!d) then
  some (.inr ((a:Int),12))
 else
  if (b.2.1&&(decide ((w64 ((a:Int)+b.1))<0)||decide ((w64 ((a:Int)+b.1))>=((p0).length:Int)))) then
   some (.inr ((a:Int),30))
  else
   if (b.2.2&&((a:Int)==(w64 (((p0).length:Int)-1)))) then
    some (.inr ((a:Int),36))
   else
    again ()
def gB(p0:List zf):Option (Int×Int):=
 (jI (my p0) (λ(b:Unit)=>(.inl ())) (p0).length 0 ()).bind λa=>match a with
  |.inl c=>
   some (0,0)
  |.inr r=>some r
def nD(p0:List zf)(a:Nat)(again:(List qx)->Option (List qx))(c:(List qx)):Option (List qx):=
 (idx p0 (a:Int)).bind λb=>
 if (b.Op==20) then
  (room (c.length+([(qx.mk (w64 ((a:Int)-b.D)) (a:Int) b.RA)]).length) 24).bind λd=>
  again (c++[(qx.mk (w64 ((a:Int)-b.D)) (a:Int) b.RA)])
 else
  again c
def eL(p0:List zf):Option (List qx):=
 (jI (nD p0) (λ(a:(List qx))=>a) (p0).length 0 ([]:List qx)).bind λb=>
 some b
def mO(p0:qx)(p1:Int):Option Bool:=
 some (decide (p1>=p0.RU)&&decide (p1<=p0.At))
def ik(a:qx)(c:List qx)(d:Nat)(again:Unit->Option yC)(e:Unit):Option yC:=
 (idx c (d:Int)).bind λb=>
 if (decide (b.At>=a.RU)&&decide (b.RU<a.RU)) then
  some (.inr (a.At,31))
 else
  again ()
def fb(a:(List qx))(b:Nat)(again:Unit->Option yC)(f:Unit):Option yC:=
 (idx a (b:Int)).bind λd=>
 (cut a 0 (b:Int)).bind λc=>
 (jI (ik d c) (λ(g:Unit)=>(.inl ())) (c).length 0 ()).bind λe=>match e with
  |.inl h=>
   again ()
  |.inr r=>some (.inr r)
def io(d:(List qx))(a:Nat)(b:Int×Bool×Bool)(e:Nat)(again:Unit->Option yC)(j:Unit):Option yC:=
 (idx d (e:Int)).bind λc=>
 (if b.2.1 then
  if decide (b.1>0) then
   (mO c (a:Int)).bind λf=>
   if (!f) then
    (mO c (w64 ((a:Int)+b.1))).bind λg=>
    if g then
     some ((w64 ((a:Int)+b.1)) !=c.RU)
    else
     some false
   else
    some false
  else
   some false
 else
  some false).bind λh=>
 if h then
  some (.inr ((a:Int),31))
 else
  again ()
def ip(p0:List zf)(a:(List qx))(b:Nat)(again:Unit->Option yC)(f:Unit):Option yC:=
 (idx p0 (b:Int)).bind λc=>
 (kr c).bind λd=>
 (jI (io a b d) (λ(g:Unit)=>(.inl ())) (a).length 0 ()).bind λe=>match e with
  |.inl h=>
   again ()
  |.inr r=>some (.inr r)
def gC(p0:List zf):Option (Int×Int):=
 (eL p0).bind λa=>
 (jI (fb a) (λ(d:Unit)=>(.inl ())) (a).length 0 ()).bind λb=>match b with
  |.inl e=>
   (jI (ip p0 a) (λ(f:Unit)=>(.inl ())) (p0).length 0 ()).bind λc=>match c with
    |.inl g=>
     some (0,0)
    |.inr r=>some r
  |.inr r=>some r
def kX(c:(List qx))(d:Nat)(e:Nat)(again:Int->Option Int)(a:Int):Option Int:=
 (idx c (e:Int)).bind λb=>
 (mO b (d:Int)).bind λf=>
 if f then
  again (ma (w64 (a*(w64 (b.Sw+1)))) 257)
 else
  again a
def pF(a:(List qx))(b:Nat)(again:Int->Option Int)(c:Int):Option Int:=
 (jI (kX a b) (λ(d:Int)=>d) (a).length 0 1).bind λe=>
 again (ma (w64 (c+e)) 257)
def kY(p0:List zf):Option Int:=
 (eL p0).bind λa=>
 (jI (pF a) (λ(b:Int)=>b) (p0).length 0 0).bind λc=>
 some c
def eM(p0:List zf):Option (Int×Int):=
 if (((p0).length:Int)==0) then
  some (0,10)
 else
  if decide (((p0).length:Int)>64) then
   some (0,11)
  else
   (gB p0).bind λa=>
   if (a.2 !=0) then
    some (a.1,a.2)
   else
    (gC p0).bind λb=>
    if (b.2 !=0) then
     some (b.1,b.2)
    else
     (kY p0).bind λc=>
     if decide (c>256) then
      some (0,32)
     else
      some (0,0)
def iO(p0:List zf):Option ((List qx)×Int):=
 (eM p0).bind λa=>
 if (a.2 !=0) then
  some (([]:List qx),a.2)
 else
  (eL p0).bind λb=>
  some (b,0)
def cw(p0:zf):Option (Int×Bool):=
 (vJ p0).bind λa=>
 if (!a) then
  some (0,false)
 else
  (eF p0.Op).bind λb=>
  (jr b.1 100).bind λc=>
  if c then
   some (p0.D,true)
  else
   some (0,(p0.Op==21))
def bN :Option zg:=
 some (zg.mk 0 18446744073709551615)
def vc(p0:zg):Option zi:=
 some (zi.mk 1 p0 0)
def cO(p1:Int)(e:List zf)(f:Nat)(again:(List (Nat->zi))->Option (List (Nat->zi)))(a:(List (Nat->zi))):Option (List (Nat->zi)):=
 (idx e (f:Int)).bind λg=>
 (cw g).bind λd=>
 if (!d.2) then
  again a
 else
  (idx a p1).bind λb=>
  (ain 8 d.1).bind λc=>
  if ((b c).QJ==1) then
   bN.bind λh=>
   (vc h).bind λj=>
   again (a.set (Int.toNat p1) (aset b c j))
  else
   again (a.set (Int.toNat p1) (aset b c (zi.mk 0 (zg.mk 0 0) 0)))
def cP(p0:zj)(p1:Int)(d:Nat)(again:(List (Nat->zi))->Option zj)(b:(List (Nat->zi))):Option zj:=
 (idx p0.loops (d:Int)).bind λa=>
 if (a.RU !=p1) then
  again b
 else
  (cut p0.Rf.Code a.RU (w64 (a.At+1))).bind λc=>
  (jI (cO p1 c) (λ(e:(List (Nat->zi)))=>e) (c).length 0 b).bind λf=>
  again f
def xp(p0:zj)(p1:Int):Option zj:=
 (jI (cP p0 p1) (λ(a:(List (Nat->zi)))=>{p0 with came:=a}) (p0.loops).length 0 p0.came).bind λb=>
 some b
def iP(p0:zf):Option Bool:=
 (eF p0.Op).bind λa=>
 ((vJ p0).bind λb=>
 if b then
  (jr a.1 115).bind λc=>
  some c
 else
  some false).bind λd=>
 some d
def kt(p0:Int):Option zg:=
 some (zg.mk p0 p0)
def dL(p0:zf)(p1:Nat->zi):Option zi:=
 if (p0.B==8) then
  (kt (xX p0.RA)).bind λa=>
  (vc a).bind λb=>
  some b
 else
  (ain 8 p0.B).bind λc=>
  some (p1 c)
def ku(p0:List zi)(a:Nat)(again:Unit->Option (Unit⊕Int))(c:Unit):Option (Unit⊕Int):=
 (idx p0 (a:Int)).bind λb=>
 if (b.QJ !=1) then
  some (.inr 33)
 else
  again ()
def vA(p0:List zi):Option Int:=
 (jI (ku p0) (λ(b:Unit)=>(.inl ())) (p0).length 0 ()).bind λa=>match a with
  |.inl c=>
   some 0
  |.inr r=>some r
def vB(p0:zg):Option Bool:=
 some (decide (p0.Lo<=p0.Hi))
def dx(p0:zg)(p1:zg):Option Bool:=
 ((vB p0).bind λa=>
 if a then
  if decide (p1.Lo<=p0.Lo) then
   some (decide (p0.Hi<=p1.Hi))
  else
   some false
 else
  some false).bind λb=>
 some b
def ga(p0:zi):Option Int:=
 (dx p0.Rh (zg.mk 0 15)).bind λa=>
 if (!a) then
  some 35
 else
  some 0
def mz(p0:List Int)(b:Nat)(again:Unit->Option (Unit⊕Int))(c:Unit):Option (Unit⊕Int):=
 (idx p0 (b:Int)).bind λa=>
 if (a !=0) then
  some (.inr a)
 else
  again ()
def eN(p0:List Int):Option Int:=
 (jI (mz p0) (λ(b:Unit)=>(.inl ())) (p0).length 0 ()).bind λa=>match a with
  |.inl c=>
   some 0
  |.inr r=>some r
def iQ(p0:zi)(p1:zi):Option Bool:=
 if (p1.QJ==1) then
  (if (p0.QJ==1) then
   (dx p0.Rh p1.Rh).bind λa=>
   some a
  else
   some false).bind λb=>
  some b
 else
  if (p1.QJ==2) then
   some ((p0.QJ==p1.QJ)&&(((p0.Rh.Lo==p1.Rh.Lo)&&((p0.Rh.Hi==p1.Rh.Hi)&&true))&&((p0.Rv==p1.Rv)&&true)))
  else
   some true
def cQ(p0:Int):Option (bA×Bool):=
 if (decide (p0<0)||decide (p0>=7)) then
  some ((bA.mk ByteArray.empty ByteArray.empty 0 0 false),false)
 else
  (idx aw p0).bind λa=>
  some (a,true)
def gD(p0:Int):Option zi:=
 some (zi.mk 1 (zg.mk 0 p0) 0)
def Am(b:bA×Bool)(again:((List zi)×Nat)->Option (List zi))(a:(List zi)×Nat):Option (List zi):=
 if decide (a.2<b.1.SM.size) then
  if ((Ad b.1.SM a.2)==104) then
   (room (a.1.length+([(zi.mk 2 (zg.mk 0 0) 0)]).length) 32).bind λe=>
   again ((a.1++[(zi.mk 2 (zg.mk 0 0) 0)]),(mI b.1.SM a.2))
  else
   if ((Ad b.1.SM a.2)==115) then
    (gD 15).bind λc=>
    (room (a.1.length+([c]).length) 32).bind λf=>
    again ((a.1++[c]),(mI b.1.SM a.2))
   else
    (gD 18446744073709551615).bind λd=>
    (room (a.1.length+([d]).length) 32).bind λg=>
    again ((a.1++[d]),(mI b.1.SM a.2))
 else
  some a.1
def xS(fu:Nat)(p0:Int):Option (List zi):=
 (cQ p0).bind λa=>
 (loop (Am a) fu (([]:List zi),0)).bind λb=>
 some b
def kx(p1:List zi)(d:(List zi))(b:Nat)(again:Unit->Option (Unit⊕Int))(g:Unit):Option (Unit⊕Int):=
 (idx d (b:Int)).bind λa=>
 (idx p1 (b:Int)).bind λc=>
 if (a.QJ !=c.QJ) then
  some (.inr 33)
 else
  (if (a.QJ==1) then
   (dx c.Rh a.Rh).bind λe=>
   some (!e)
  else
   some false).bind λf=>
  if f then
   some (.inr 35)
  else
   again ()
def eO(fu:Nat)(p0:Int)(p1:List zi):Option Int:=
 (cQ p0).bind λb=>
 if (!b.2) then
  some 34
 else
  (xS fu p0).bind λa=>
  if (((a).length:Int) !=((p1).length:Int)) then
   some 2
  else
   (jI (kx p1 a) (λ(d:Unit)=>(.inl ())) (a).length 0 ()).bind λc=>match c with
    |.inl e=>
     some 0
    |.inr r=>some r
def gE(p0:Int):Option (zi×Bool):=
 (cQ p0).bind λa=>
 if (!a.2) then
  some ((zi.mk 0 (zg.mk 0 0) 0),false)
 else
  (gD a.1.most).bind λb=>
  some (b,true)
def fT(p0:Int)(p1:Int)(p2:Int):Option (Int×Bool):=
 if (p0==1) then
  some (xX (p1+p2),true)
 else
  if (p0==2) then
   some (xX (p1-p2),true)
  else
   if (p0==3) then
    some (xX (p1*p2),true)
   else
    if (p0==4) then
     if (p2==0) then
      some (0,true)
     else
      (nz p2).bind λa=>
      some (xX (p1.tdiv p2),true)
    else
     if (p0==5) then
      if (p2==0) then
       some (p1,true)
      else
       (nz p2).bind λb=>
       some (p1.tmod p2,true)
     else
      if (p0==6) then
       some (uB .u64 p1 p2,true)
      else
       if (p0==7) then
        some (bOr .u64 p1 p2,true)
       else
        if (p0==8) then
         some (Lh .u64 p1 p2,true)
        else
         if (p0==9) then
          (nn p2).bind λc=>
          some (uC .u64 p1 p2,true)
         else
          if (p0==10) then
           (nn p2).bind λd=>
           some (ic .u64 p1 p2,true)
          else
           some (0,false)
def xP(p0:zg):Option Bool:=
 some (p0.Lo==p0.Hi)
def ky(p0:zg)(p1:zg):Option zg:=
 (EV p0.Hi p1.Hi 0).bind λa=>
 if decide (a.2>0) then
  bN.bind λb=>
  some b
 else
  some (zg.mk (xX (p0.Lo+p1.Lo)) a.1)
def iR(p0:Int)(p1:Int):Option (Int×Int):=
 some (xX ((xX ((xX ((ic .u64 p0 32)*(ic .u64 p1 32)))+(ic .u64 (xX ((xX ((ic .u64 p0 32)*(uB .u64 p1 4294967295)))+(ic .u64 (xX ((uB .u64 p0 4294967295)*(uB .u64 p1 4294967295))) 32))) 32)))+(ic .u64 (xX ((uB .u64 (xX ((xX ((ic .u64 p0 32)*(uB .u64 p1 4294967295)))+(ic .u64 (xX ((uB .u64 p0 4294967295)*(uB .u64 p1 4294967295))) 32))) 4294967295)+(xX ((uB .u64 p0 4294967295)*(ic .u64 p1 32))))) 32)),xX (p0*p1))
def bO(p0:zg)(p1:zg):Option zg:=
 (iR p0.Hi p1.Hi).bind λa=>
 if decide (a.1>0) then
  bN.bind λb=>
  some b
 else
  some (zg.mk (xX (p0.Lo*p1.Lo)) a.2)
def bP(p0:zg)(p1:zg):Option zg:=
 if (p1.Lo==0) then
  some (zg.mk 0 p0.Hi)
 else
  (nz p1.Hi).bind λa=>
  (nz p1.Lo).bind λb=>
  some (zg.mk (xX (p0.Lo.tdiv p1.Hi)) (xX (p0.Hi.tdiv p1.Lo)))
def gF(p0:zg)(p1:zg):Option zg:=
 if (p1.Lo==0) then
  some (zg.mk 0 p0.Hi)
 else
  if decide (p0.Hi<p1.Lo) then
   some p0
  else
   some (zg.mk 0 (ma p0.Hi (xX (p1.Hi-1))))
def gf(p0:Int):Option Int:=
 (if decide (p0>=4294967296) then
  some (ic .u64 p0 32,32)
 else
  some (p0,0)).bind λa=>
 (if decide (a.1>=65536) then
  some (ic .u64 a.1 16,w64 (a.2+16))
 else
  some (a.1,a.2)).bind λb=>
 (if decide (b.1>=256) then
  some (ic .u64 b.1 8,w64 (b.2+8))
 else
  some (b.1,b.2)).bind λc=>
 (tx (⟨[0,1,2,2,3,3,3,3,4,4,4,4,4,4,4,4,5,5,5,5,5,5,5,5,5,5,5,5,5,5,5,5,6,6,6,6,6,6,6,6,6,6,6,6,6,6,6,6,6,6,6,6,6,6,6,6,6,6,6,6,6,6,6,6,7,7,7,7,7,7,7,7,7,7,7,7,7,7,7,7,7,7,7,7,7,7,7,7,7,7,7,7,7,7,7,7,7,7,7,7,7,7,7,7,7,7,7,7,7,7,7,7,7,7,7,7,7,7,7,7,7,7,7,7,7,7,7,7,8,8,8,8,8,8,8,8,8,8,8,8,8,8,8,8,8,8,8,8,8,8,8,8,8,8,8,8,8,8,8,8,8,8,8,8,8,8,8,8,8,8,8,8,8,8,8,8,8,8,8,8,8,8,8,8,8,8,8,8,8,8,8,8,8,8,8,8,8,8,8,8,8,8,8,8,8,8,8,8,8,8,8,8,8,8,8,8,8,8,8,8,8,8,8,8,8,8,8,8,8,8,8,8,8,8,8,8,8,8,8,8,8,8,8,8,8,8,8,8,8,8,8,8,8,8,8,8].toArray⟩) (IntKind.u8.wrap c.1)).bind λd=>
 some (w64 (c.2+(w64 d)))
def fm(p0:Int):Option Int:=
 (gf p0).bind λa=>
 (nn a).bind λb=>
 some (xX ((uC .u64 1 a)-1))
def gG(p0:zg)(p1:zg):Option zg:=
 ((xP p1).bind λa=>
 if (!a) then
  some true
 else
  (gf p0.Hi).bind λb=>
  if decide (b>0) then
   if decide (p1.Lo>64) then
    some true
   else
    (gf p0.Hi).bind λc=>
    some (decide ((xX ((xX c)+p1.Lo))>64))
  else
   some false).bind λd=>
 if d then
  bN.bind λe=>
  some e
 else
  (nn p1.Lo).bind λf=>
  (nn p1.Lo).bind λg=>
  some (zg.mk (uC .u64 p0.Lo p1.Lo) (uC .u64 p0.Hi p1.Lo))
def mP(p0:Int)(p1:zg)(p2:zg):Option (zg×Bool):=
 (fT p0 p1.Lo p2.Lo).bind λa=>
 (if (!a.2) then
  some true
 else
  (vB p1).bind λb=>
  if (!b) then
   some true
  else
   (vB p2).bind λc=>
   some (!c)).bind λd=>
 if d then
  some ((zg.mk 0 0),false)
 else
  ((xP p1).bind λe=>
  if e then
   (xP p2).bind λf=>
   some f
  else
   some false).bind λg=>
  if g then
   (kt a.1).bind λh=>
   some (h,true)
  else
   if (p0==1) then
    (ky p1 p2).bind λj=>
    some (j,true)
   else
    if (p0==2) then
     if decide (p1.Lo<p2.Hi) then
      bN.bind λl=>
      some (l,true)
     else
      some ((zg.mk (xX (p1.Lo-p2.Hi)) (xX (p1.Hi-p2.Lo))),true)
    else
     if (p0==3) then
      (bO p1 p2).bind λn=>
      some (n,true)
     else
      if (p0==4) then
       (bP p1 p2).bind λq=>
       some (q,true)
      else
       if (p0==5) then
        (gF p1 p2).bind λv=>
        some (v,true)
       else
        if (p0==6) then
         some ((zg.mk 0 (ma p1.Hi p2.Hi)),true)
        else
         if (p0==7) then
          (fm (bOr .u64 p1.Hi p2.Hi)).bind λz=>
          some ((zg.mk (pm p1.Lo p2.Lo) z),true)
         else
          if (p0==8) then
           (fm (bOr .u64 p1.Hi p2.Hi)).bind λA=>
           some ((zg.mk 0 A),true)
          else
           if (p0==9) then
            (gG p1 p2).bind λB=>
            some (B,true)
           else
            (nn p2.Hi).bind λC=>
            (nn p2.Lo).bind λD=>
            some ((zg.mk (ic .u64 p1.Lo p2.Hi) (ic .u64 p1.Hi p2.Lo)),true)
def dY(p0:zj)(p1:Int)(a:zf×(Nat->zi))(c:Nat)(again:Unit->Option (Unit⊕((Nat->zi)×Int)))(f:Unit):Option (Unit⊕((Nat->zi)×Int)):=
 (ain 8 (c:Int)).bind λb=>
 (idx p0.came (w64 (p1-a.1.D))).bind λd=>
 (iQ (a.2 b) (d b)).bind λe=>
 if (!e) then
  some (.inr (a.2,33))
 else
  again ()
def vo(fu:Nat)(p0:zj)(p1:Int):Option ((Nat->zi)×Int):=
 ((idx p0.Rf.Code p1).bind λf=>
 (idx p0.came p1).bind λg=>
 some (f,g)).bind λa=>
 (iP a.1).bind λh=>
 (if h then
  (dL a.1 a.2).bind λj=>
  some j
 else
  some (zi.mk 0 (zg.mk 0 0) 0)).bind λb=>
 (ain 8 a.1.A).bind λc=>
 if (a.1.Op==0) then
  if (b.QJ==0) then
   some (a.2,33)
  else
   (ain 8 a.1.D).bind λl=>
   some ((aset a.2 l b),0)
 else
  if (a.1.Op==11) then
   bN.bind λn=>
   (vc n).bind λq=>
   (ain 8 a.1.D).bind λv=>
   (vA ([b])).bind λz=>
   (ga b).bind λB=>
   (eN ([z,B])).bind λC=>
   some ((aset a.2 v q),C)
  else
   if (a.1.Op==12) then
    (vA ([(a.2 c),b])).bind λE=>
    (ga b).bind λF=>
    (eN ([E,F])).bind λG=>
    some (a.2,G)
   else
    if (a.1.Op==13) then
     bN.bind λH=>
     (vc H).bind λI=>
     (ain 8 a.1.D).bind λJ=>
     some ((aset a.2 J I),0)
    else
     if (a.1.Op==14) then
      (ain 8 a.1.D).bind λd=>
      if decide (a.1.RA>=((p0.Rf.Maps).length:Int)) then
       some ((aset a.2 d (zi.mk 2 (zg.mk 0 0) a.1.RA)),35)
      else
       some ((aset a.2 d (zi.mk 2 (zg.mk 0 0) a.1.RA)),0)
     else
      if (a.1.Op==15) then
       some (a.2,0)
      else
       (if (a.1.Op==16) then
        some (a.1.Op==16)
       else
        if (a.1.Op==17) then
         some (a.1.Op==17)
        else
         if (a.1.Op==18) then
          some (a.1.Op==18)
         else
          some (a.1.Op==19)).bind λK=>
       if K then
        (vA ([(a.2 c),b])).bind λL=>
        some (a.2,L)
       else
        if (a.1.Op==20) then
         (vA ([(a.2 c)])).bind λe=>
         if (e !=0) then
          some (a.2,e)
         else
          (jI (dY p0 p1 a) (λ(W:Unit)=>(.inl ())) 8 0 ()).bind λM=>match M with
           |.inl X=>
            some (a.2,0)
           |.inr r=>some r
        else
         if (a.1.Op==21) then
          (xS fu a.1.RA).bind λN=>
          (cut (Gs 8 a.2) 1 (w64 (1+((N).length:Int)))).bind λO=>
          (eO fu a.1.RA O).bind λP=>
          (gE a.1.RA).bind λQ=>
          some ((aset a.2 0 Q.1),P)
         else
          if (a.1.Op==22) then
           (vA ([(a.2 c)])).bind λR=>
           some (a.2,R)
          else
           (mP a.1.Op (a.2 c).Rh b.Rh).bind λS=>
           (vc S.1).bind λT=>
           (ain 8 a.1.D).bind λU=>
           (vA ([(a.2 c),b])).bind λV=>
           some ((aset a.2 U T),V)
def pG(p0:List zg)(c:Nat)(again:zg->Option (zg⊕(zg×Bool)))(b:zg):Option (zg⊕(zg×Bool)):=
 (idx p0 (c:Int)).bind λa=>
 (vB a).bind λd=>
 if (!d) then
  some (.inr ((zg.mk 0 0),false))
 else
  again (zg.mk (ma b.Lo a.Lo) (pm b.Hi a.Hi))
def kZ(p0:List zg):Option (zg×Bool):=
 (jI (pG p0) (λ(a:zg)=>(.inl a)) (p0).length 0 (zg.mk 18446744073709551615 0)).bind λb=>match b with
  |.inl c=>
   if (((p0).length:Int)==0) then
    some ((zg.mk 0 0),false)
   else
    some (c,true)
  |.inr r=>some r
def fq(p0:zi)(p1:zi):Option zi:=
 if ((p0.QJ !=p1.QJ)||(p0.Rv !=p1.Rv)) then
  some (zi.mk 0 (zg.mk 0 0) 0)
 else
  if (p0.QJ==1) then
   (kZ ([p0.Rh,p1.Rh])).bind λa=>
   (vc a.1).bind λb=>
   some b
  else
   some p0
def dy(p1:Int)(p2:Nat->zi)(d:Nat)(again:zj->Option zj)(a:zj):Option zj:=
 (idx a.came p1).bind λc=>
 (ain 8 (d:Int)).bind λb=>
 (fq (c b) (p2 b)).bind λe=>
 again {a with came:=(a.came.set (Int.toNat p1) (aset c b e))}
def qZ(p0:zj)(p1:Int)(p2:Nat->zi):Option zj:=
 (idx p0.any p1).bind λa=>
 if (!a) then
  (idx p0.came p1).bind λd=>
  some {p0 with came:=(p0.came.set (Int.toNat p1) p2),any:=(p0.any.set (Int.toNat p1) true)}
 else
  (jI (dy p1 p2) (λ(b:zj)=>b) 8 0 p0).bind λc=>
  some c
def aP(p0:Int)(p1:Int)(p2:Int):Option (Bool×Bool):=
 if (p0==16) then
  some ((p1==p2),true)
 else
  if (p0==17) then
   some ((p1 !=p2),true)
  else
   if (p0==18) then
    some (decide (p1<p2),true)
   else
    if (p0==19) then
     some (decide (p1>=p2),true)
    else
     some (false,false)
def lf(p0:List zg)(c:Nat)(again:zg->Option (zg⊕(zg×Bool)))(b:zg):Option (zg⊕(zg×Bool)):=
 (idx p0 (c:Int)).bind λa=>
 (vB a).bind λd=>
 if (!d) then
  some (.inr ((zg.mk 0 0),false))
 else
  again (zg.mk (pm b.Lo a.Lo) (ma b.Hi a.Hi))
def dZ(p0:List zg):Option (zg×Bool):=
 bN.bind λb=>
 (jI (lf p0) (λ(c:zg)=>(.inl c)) (p0).length 0 b).bind λd=>match d with
  |.inl a=>
   (if (((p0).length:Int)==0) then
    some true
   else
    (vB a).bind λe=>
    some (!e)).bind λf=>
   if f then
    some ((zg.mk 0 0),false)
   else
    some (a,true)
  |.inr r=>some r
def dz(p0:Int)(p1:zg)(p2:zg)(p3:Bool):Option (zg×Bool):=
 (aP p0 0 0).bind λd=>
 (if (!d.2) then
  some true
 else
  (vB p1).bind λe=>
  if (!e) then
   some true
  else
   (vB p2).bind λf=>
   some (!f)).bind λg=>
 if g then
  some ((zg.mk 0 0),false)
 else
  (xP p2).bind λh=>
  if (!h) then
   some (p1,true)
  else
   (if ((p0==18)&&p3) then
    some ((p0==18)&&p3)
   else
    if (p0==19) then
     some (!p3)
    else
     some false).bind λj=>
   if j then
    if (p2.Lo==0) then
     some ((zg.mk 0 0),false)
    else
     (dZ ([p1,(zg.mk 0 (xX (p2.Lo-1)))])).bind λa=>
     some (a.1,a.2)
   else
    (if (p0==18) then
     some (p0==18)
    else
     some (p0==19)).bind λl=>
    if l then
     (dZ ([p1,(zg.mk p2.Lo 18446744073709551615)])).bind λb=>
     some (b.1,b.2)
    else
     (if ((p0==16)&&p3) then
      some ((p0==16)&&p3)
     else
      if (p0==17) then
       some (!p3)
      else
       some false).bind λn=>
     if n then
      (dZ ([p1,p2])).bind λc=>
      some (c.1,c.2)
     else
      if ((p1.Lo==p2.Lo)&&((p1.Hi==p2.Hi)&&true)) then
       some ((zg.mk 0 0),false)
      else
       if (p1.Lo==p2.Lo) then
        some ((zg.mk (xX (p1.Lo+1)) p1.Hi),true)
       else
        if (p1.Hi==p2.Lo) then
         some ((zg.mk p1.Lo (xX (p1.Hi-1))),true)
        else
         some (p1,true)
def dB(p1:Int)(p2:Nat->zi)(a:zf)(f:Int×Bool×Bool)(g:zi)(h:Nat)(again:zj->Option zj)(b:zj):Option zj:=
 (idx ([true,false]) (h:Int)).bind λc=>
 (if (!c) then
  some (w64 (p1+1))
 else
  some (w64 (p1+f.1))).bind λj=>
 ((ain 8 a.A).bind λl=>
 (dz a.Op (p2 l).Rh g.Rh c).bind λd=>
 some (d.1,d.2)).bind λe=>
 if e.2 then
  (vc e.1).bind λn=>
  (ain 8 a.A).bind λq=>
  (qZ b j (aset p2 q n)).bind λv=>
  again v
 else
  again b
def xQ(p0:zj)(p1:Int)(p2:Nat->zi):Option zj:=
 (idx p0.Rf.Code p1).bind λb=>
 (kr b).bind λa=>
 if ((!a.2.1)||decide (a.1<0)) then
  (if a.2.2 then
   (qZ p0 (w64 (p1+1)) p2).bind λc=>
   some c
  else
   some p0).bind λd=>
  some d
 else
  if (!a.2.2) then
   (qZ p0 (w64 (p1+a.1)) p2).bind λe=>
   some e
  else
   (dL b p2).bind λf=>
   (jI (dB p1 p2 b a f) (λ(g:zj)=>g) 2 0 p0).bind λh=>
   some h
def bQ(fu:Nat)(a:Nat)(again:zj->Option (zj⊕((Option zj)×Int×Int)))(b:zj):Option (zj⊕((Option zj)×Int×Int)):=
 (idx b.any (a:Int)).bind λe=>
 if (!e) then
  again b
 else
  (xp b (a:Int)).bind λd=>
  (vo fu d (a:Int)).bind λc=>
  if (c.2 !=0) then
   some (.inr (none,(a:Int),c.2))
  else
   (xQ d (a:Int) c.1).bind λf=>
   again f
def xj(fu:Nat)(p0:zH):Option ((Option zj)×Int×Int):=
 (iN p0.Maps).bind λc=>
 if (!c) then
  some (none,0,2)
 else
  (eM p0.Code).bind λa=>
  if (a.2 !=0) then
   some (none,a.1,a.2)
  else
   ((mkLen ((p0.Code).length:Int) 256).bind λd=>
   (mkLen ((p0.Code).length:Int) 1).bind λe=>
   some (zj.mk p0 (List.replicate d (λ_=>(zi.mk 0 (zg.mk 0 0) 0))) (List.replicate e false) ([]:List qx))).bind λb=>
   (iO p0.Code).bind λf=>
   (idx b.any 0).bind λl=>
   (jI (bQ fu) (λ(g:zj)=>(.inl g)) (p0.Code).length 0 {b with any:=(b.any.set (Int.toNat 0) true),loops:=f.1}).bind λh=>match h with
    |.inl j=>
     some ((some j),0,0)
    |.inr r=>some r
def vT(fu:Nat)(p0:zH):Option (Int×Int):=
 (xj fu p0).bind λa=>
 ae a.1
  (some (a.2.1,a.2.2))
  (λb=>
  some (a.2.1,a.2.2))
def bD(p0:qL):Option qL:=
 some (qL.mk (λ_=>0))
def eP(fu:Nat)(p0:zH)(p1:qO)(p2:zl):Option ((Option zp)×Int×zl):=
 (vT fu p0).bind λa=>
 if (a.2 !=0) then
  some (none,a.2,p2)
 else
  (bD p2.RF).bind λb=>
  (qX p0.Maps).bind λc=>
  (zQ p0.Code).bind λd=>
  some ((some (zp.mk p1 (zH.mk c d) (λ_=>0) (λ_=>0) 0 0 0)),0,(zl.mk b p2.Rl))
def jR(fu:Nat)(p0:zn)(p1:Int)(p2:Int)(p3:zH):Option (Int×zn):=
 if (p0.QU !=1) then
  some (41,p0)
 else
  (eP fu p3 p0.Ru.RB.Ra p0.RG).bind λa=>
  ae a.1
   (if (a.2.1 !=0) then
    some (a.2.1,{p0 with RG:=a.2.2})
   else
    some (0,(zn.mk a.2.2 p0.Su 2 (bf.mk p0.Ru.hook p0.Ru.RB p1 p2 p0.Ru.calls none))))
   (λb=>
   if (a.2.1 !=0) then
    some (a.2.1,{p0 with RG:=a.2.2})
   else
    some (0,(zn.mk a.2.2 p0.Su 2 (bf.mk p0.Ru.hook p0.Ru.RB p1 p2 p0.Ru.calls (some b)))))
def vK(p0:zn):Option (Int×Int):=
 some (p0.Ru.Rt,p0.Ru.prog)
def lh(p0:Int):Option (Int×Bool):=
 (cQ p0).bind λa=>
 some (a.1.asks,a.1.SE)
def jT(p0:jj)(p1:Int):Option (Int×Int×jj):=
 if (decide (p1<0)||decide (p1>=16)) then
  some (0,35,p0)
 else
  (ain 16 p1).bind λa=>
  some (((aset p0.counts a (xX ((p0.counts a)+1))) a),0,(jj.mk (aset p0.counts a (xX ((p0.counts a)+1)))))
def jS(fu:Nat)(p0:zp)(p1:Int)(g0:zl):Option (qU×zp×zl):=
 (lh p1).bind λc=>
 if c.2 then
  (idx p0.module.Maps (p0.regs 1)).bind λd=>
  (xS fu p1).bind λe=>
  (if decide (((e).length:Int)>2) then
   some (p0.regs 3)
  else
   some 0).bind λf=>
  some ((qU.mk 2 p0.Rj (zh.mk d c.1 (p0.regs 2) f) 0),{p0 with state:=1},g0)
 else
  (if (p1==5) then
   (jT g0.Rl (w64 (p0.regs 1))).bind λb=>
   some ({p0 with regs:=(aset p0.regs 0 b.1)},(zl.mk g0.RF b.2.2),(qU.mk 1 p0.Rj (zh.mk 0 0 0 0) b.1))
  else
   some ({p0 with regs:=(aset p0.regs 0 0)},g0,(qU.mk 3 p0.Rj (zh.mk 0 0 0 0) (p0.regs 1)))).bind λa=>
  some (a.2.2,(zp.mk a.1.Ra a.1.module a.1.regs a.1.LE (w64 (a.1.Rj+1)) a.1.steps a.1.state),a.2.1)
def jz(p0:zp)(p1:zf):Option Int:=
 if (p1.B==8) then
  some (xX p1.RA)
 else
  (ain 8 p1.B).bind λa=>
  some (p0.regs a)
def xG(p0:qL)(p1:Int):Option (Int×Int):=
 if (decide (p1<0)||decide (p1>=16)) then
  some (0,35)
 else
  (ain 16 p1).bind λa=>
  some ((p0.Rc a),0)
def xq(p0:qL)(p1:Int)(p2:Int):Option (Int×qL):=
 if (decide (p1<0)||decide (p1>=16)) then
  some (35,p0)
 else
  (ain 16 p1).bind λa=>
  some (0,(qL.mk (aset p0.Rc a p2)))
def ju(p0:zp)(p1:zf)(g0:zl):Option (Int×zp×zl):=
 if (p1.Op==0) then
  (jz p0 p1).bind λe=>
  (ain 8 p1.D).bind λf=>
  some (1,{p0 with regs:=(aset p0.regs f e)},g0)
 else
  if (p1.Op==11) then
   (jz p0 p1).bind λg=>
   (xG g0.RF (w64 g)).bind λh=>
   (ain 8 p1.D).bind λj=>
   some (1,{p0 with regs:=(aset p0.regs j h.1)},g0)
  else
   if (p1.Op==12) then
    (ain 8 p1.A).bind λl=>
    (jz p0 p1).bind λn=>
    (xq g0.RF (w64 n) (p0.regs l)).bind λq=>
    some (1,p0,(zl.mk q.2 g0.Rl))
   else
    if (p1.Op==13) then
     (ain 8 p1.D).bind λa=>
     if (p1.RA==1) then
      some (1,{p0 with regs:=(aset (aset p0.regs a p0.Ra.A) a p0.Ra.B)},g0)
     else
      some (1,{p0 with regs:=(aset p0.regs a p0.Ra.A)},g0)
    else
     if (p1.Op==14) then
      (ain 8 p1.D).bind λv=>
      some (1,{p0 with regs:=(aset p0.regs v (xX p1.RA))},g0)
     else
      if (p1.Op==15) then
       some (w64 (p1.D+1),p0,g0)
      else
       if (p1.Op==20) then
        ((ain 8 p1.A).bind λz=>
        if ((p0.regs z) !=0) then
         (ain 64 p0.Rj).bind λC=>
         some (decide ((p0.LE C)<p1.RA))
        else
         some false).bind λE=>
        if E then
         (ain 64 p0.Rj).bind λb=>
         some (w64 (0-p1.D),{p0 with LE:=(aset p0.LE b (w64 ((p0.LE b)+1)))},g0)
        else
         (ain 64 p0.Rj).bind λF=>
         some (1,{p0 with LE:=(aset p0.LE F 0)},g0)
       else
        (ain 8 p1.A).bind λc=>
        (jz p0 p1).bind λG=>
        (fT p1.Op (p0.regs c) G).bind λd=>
        if d.2 then
         (ain 8 p1.D).bind λH=>
         some (1,{p0 with regs:=(aset p0.regs H d.1)},g0)
        else
         (jz p0 p1).bind λI=>
         (aP p1.Op (p0.regs c) I).bind λJ=>
         if J.1 then
          some (w64 (p1.D+1),p0,g0)
         else
          some (1,p0,g0)
def qI(fu:Nat)(p0:zp)(g0:zl):Option (qU×zp×zl):=
 if (p0.state==1) then
  some ((qU.mk 5 p0.Rj (zh.mk 0 0 0 0) 0),p0,g0)
 else
  if (p0.state==2) then
   (idx p0.module.Code p0.Rj).bind λd=>
   (ain 8 d.A).bind λe=>
   some ((qU.mk 6 p0.Rj (zh.mk 0 0 0 0) (p0.regs e)),p0,g0)
  else
   (idx p0.module.Code p0.Rj).bind λb=>
   if (b.Op==21) then
    (jS fu {p0 with steps:=(w64 (p0.steps+1))} b.RA g0).bind λc=>
    some (c.1,c.2.1,c.2.2)
   else
    if (b.Op==22) then
     (ain 8 b.A).bind λf=>
     some ((qU.mk 4 p0.Rj (zh.mk 0 0 0 0) (p0.regs f)),{p0 with steps:=(w64 (p0.steps+1)),state:=2},g0)
    else
     (ju {p0 with steps:=(w64 (p0.steps+1))} b g0).bind λa=>
     some ((qU.mk 1 p0.Rj (zh.mk 0 0 0 0) 0),(zp.mk a.2.1.Ra a.2.1.module a.2.1.regs a.2.1.LE (w64 (p0.Rj+a.1)) a.2.1.steps a.2.1.state),a.2.2)
def am(p0:zp):Option Int:=
 some p0.steps
def An(p0:List qB)(c:Nat)(again:qB->Option qB)(a:qB):Option qB:=
 (idx p0 (c:Int)).bind λb=>
 again (qB.mk (xX (a.SQ+b.SQ)) (xX (a.RY+b.RY)) (xX (a.Sz+b.Sz)) (xX (a.Calls+b.Calls)) (xX (a.Sum+b.Sum)))
def nE(p0:List qB):Option qB:=
 (jI (An p0) (λ(a:qB)=>a) (p0).length 0 (qB.mk 0 0 0 0 0)).bind λb=>
 some b
def bR(p0:zW)(p1:Int)(p2:Int)(p3:Int)(p4:Int):Option (Int×zW):=
 (eK p1).bind λb=>
 if (!b) then
  some (2,p0)
 else
  (ain 4 p1).bind λa=>
  (nE ([(p0.QS a),(qB.mk 1 0 p2 p3 p4)])).bind λc=>
  some (0,(zW.mk (aset p0.QS a c)))
def jd(fu:Nat)(p0:zn):Option (qU×Bool×zn):=
 if (p0.QU !=2) then
  some ((qU.mk 0 0 (zh.mk 0 0 0 0) 0),false,p0)
 else
  p0.Ru.SR.bind λb=>
  (qI fu b p0.RG).bind λa=>
  if (a.1.QJ==2) then
   some (a.1,true,(zn.mk a.2.2 p0.Su 3 (bf.mk p0.Ru.hook p0.Ru.RB p0.Ru.Rt p0.Ru.prog (xX (p0.Ru.calls+1)) (some a.2.1))))
  else
   if (a.1.QJ==4) then
    (am a.2.1).bind λc=>
    (bR p0.Su p0.Ru.hook (xX c) p0.Ru.calls a.1.Rz).bind λd=>
    (bC (zn.mk a.2.2 d.2 p0.QU (bf.mk p0.Ru.hook p0.Ru.RB p0.Ru.Rt p0.Ru.prog p0.Ru.calls (some a.2.1)))).bind λe=>
    some (a.1,true,e)
   else
    some (a.1,true,{p0 with RG:=a.2.2,Ru:=(bf.mk p0.Ru.hook p0.Ru.RB p0.Ru.Rt p0.Ru.prog p0.Ru.calls (some a.2.1))})
def fK(p0:zC)(p1:List Int)(c:Nat)(again:(Nat->Bool)->Option (Unit⊕(Int×zC)))(b:(Nat->Bool)):Option (Unit⊕(Int×zC)):=
 (idx p1 (c:Int)).bind λa=>
 ((vg p0 a).bind λd=>
 if (!d) then
  some true
 else
  (ain 4 a).bind λe=>
  some (b e)).bind λf=>
 if f then
  some (.inr (2,p0))
 else
  (ain 4 a).bind λg=>
  again (aset b g true)
def fL(p0:zC)(p1:List Int)(a:Nat)(again:Unit->Option (Unit⊕(Int×zC)))(d:Unit):Option (Unit⊕(Int×zC)):=
 (idx p1 (a:Int)).bind λb=>
 (idx p0.in_ b).bind λc=>
 if (c==0) then
  some (.inr (41,p0))
 else
  again ()
def fM(p1:List Int)(c:Nat)(again:zC->Option zC)(a:zC):Option zC:=
 (idx p1 (c:Int)).bind λb=>
 (idx a.in_ b).bind λd=>
 again (zC.mk a.Sk (a.in_.set (Int.toNat b) 0))
def vi(p0:zC)(p1:List Int):Option (Int×zC):=
 (jI (fK p0 p1) (λ(e:(Nat->Bool))=>(.inl ())) (p1).length 0 (λ_=>false)).bind λa=>match a with
  |.inl f=>
   (jI (fL p0 p1) (λ(g:Unit)=>(.inl ())) (p1).length 0 ()).bind λb=>match b with
    |.inl h=>
     (jI (fM p1) (λ(c:zC)=>c) (p1).length 0 p0).bind λd=>
     some (0,d)
    |.inr r=>some r
  |.inr r=>some r
def gh(p0:Int)(p1:zk):Option Int:=
 (if (p0==0) then
  some (p0==0)
 else
  some (p0==4)).bind λa=>
 if a then
  some p1.Rz
 else
  (if (p0==1) then
   some (p0==1)
  else
   some (p0==3)).bind λb=>
  if b then
   if p1.Found then
    some 1
   else
    some 0
  else
   if (p0==2) then
    if (p1.E==0) then
     some 1
    else
     some 0
   else
    some 0
def jA(p0:zp)(p1:zk)(g0:zl):Option (Int×zp):=
 if (p0.state !=1) then
  some (2,p0)
 else
  (idx p0.module.Code p0.Rj).bind λa=>
  (gh a.RA p1).bind λb=>
  some (0,{p0 with regs:=(aset p0.regs 0 b),Rj:=(w64 (p0.Rj+1)),state:=0})
def xi(p0:zn)(p1:zk):Option (Int×zn):=
 if (p0.QU !=3) then
  some (41,p0)
 else
  p0.Ru.SR.bind λb=>
  (jA b p1 p0.RG).bind λa=>
  some (a.1,{p0 with QU:=2,Ru:=(bf.mk p0.Ru.hook p0.Ru.RB p0.Ru.Rt p0.Ru.prog p0.Ru.calls (some a.2))})
def cx(p0:za)(again:zJ->Option zJ)(a:zJ):Option zJ:=
 (idx p0.QI a.Rw).bind λb=>
 (aV b).bind λc=>
 if (c.Sl==0) then
  (nz ((p0.QI).length:Int)).bind λd=>
  again {a with Rw:=((w64 (a.Rw+1)).tmod ((p0.QI).length:Int))}
 else
  some a
def dc(fu:Nat)(p0:za)(p1:Int):Option za:=
 (zS p0).bind λd=>
 (idx p0.LT (w64 (p1-d))).bind λb=>
 (xo b.QL).bind λe=>
 (jJ b.QL).bind λj=>
 if (j==0) then
  if p0.closed then
   (room (p0.Ri.length+([(zd.mk 15 p1 0 0 0 0 0 0 0 0 (zh.mk 0 0 0 0) (zk.mk 0 false 0 false 0 0) 0 0)]).length) 176).bind λL=>
   (aO p0.QX ([p1])).bind λz=>
   some {p0 with QX:=z.2,LT:=(p0.LT.set (Int.toNat (w64 (p1-d))) {b with QV:=true}),Ri:=(p0.Ri++[(zd.mk 15 p1 0 0 0 0 0 0 0 0 (zh.mk 0 0 0 0) (zk.mk 0 false 0 false 0 0) 0 0)])}
  else
   (loop (cx p0) fu b).bind λg=>
   (idx p0.QI g.Rw).bind λA=>
   (bp A p0.Rx).bind λl=>
   (nz ((p0.QI).length:Int)).bind λM=>
   (vF g.QL g.Rw l.1).bind λB=>
   (room (p0.Ri.length+([(zd.mk 5 p1 0 0 0 l.1.N g.Rw 0 0 0 (zh.mk 0 0 0 0) (zk.mk 0 false 0 false 0 0) 0 0)]).length) 176).bind λO=>
   some {p0 with LT:=(p0.LT.set (Int.toNat (w64 (p1-d))) {g with QL:=B.2,Rw:=((w64 (g.Rw+1)).tmod ((p0.QI).length:Int))}),QI:=(p0.QI.set (Int.toNat g.Rw) l.2.2),Ri:=(p0.Ri++[(zd.mk 5 p1 0 0 0 l.1.N g.Rw 0 0 0 (zh.mk 0 0 0 0) (zk.mk 0 false 0 false 0 0) 0 0)])}
 else
  if (j==1) then
   (jQ p0.Fd.Rg e.1).bind λh=>
   if (!h.2.2) then
    (xF b.QL).bind λC=>
    (room (p0.Ri.length+([(zd.mk 9 p1 0 0 0 e.2.N e.1 0 0 0 (zh.mk 0 0 0 0) (zk.mk 0 false 0 false 0 0) 0 0)]).length) 176).bind λP=>
    some {p0 with LT:=(p0.LT.set (Int.toNat (w64 (p1-d))) {b with QL:=C.2}),Ri:=(p0.Ri++[(zd.mk 9 p1 0 0 0 e.2.N e.1 0 0 0 (zh.mk 0 0 0 0) (zk.mk 0 false 0 false 0 0) 0 0)])}
   else
    (ja p0.Fd h.2.1).bind λD=>
    (vh p0.Fd.Rb (w64 (p1-d))).bind λE=>
    (jR fu b.QL h.1 h.2.1 D.1).bind λF=>
    (room (p0.Ri.length+([(zd.mk 6 p1 0 0 0 e.2.N e.1 h.2.1 h.1 0 (zh.mk 0 0 0 0) (zk.mk 0 false 0 false 0 0) 0 0)]).length) 176).bind λQ=>
    some {p0 with Fd:=(zb.mk p0.Fd.Rg p0.Fd.RN E.2.2 p0.Fd.QS p0.Fd.maps p0.Fd.given p0.Fd.Re p0.Fd.waiting),LT:=(p0.LT.set (Int.toNat (w64 (p1-d))) {b with QL:=F.2}),Ri:=(p0.Ri++[(zd.mk 6 p1 0 0 0 e.2.N e.1 h.2.1 h.1 0 (zh.mk 0 0 0 0) (zk.mk 0 false 0 false 0 0) 0 0)])}
  else
   if (j==2) then
    (xo b.QL).bind λf=>
    (vK b.QL).bind λc=>
    (jd fu b.QL).bind λa=>
    if (a.1.QJ==3) then
     (room (p0.Ri.length+([(zd.mk 8 p1 0 0 0 f.2.N 0 c.2 c.1 a.1.Pc (zh.mk 0 0 0 0) (zk.mk 0 false 0 false 0 0) a.1.Rz 0)]).length) 176).bind λR=>
     some {p0 with LT:=(p0.LT.set (Int.toNat (w64 (p1-d))) {b with QL:=a.2.2}),Ri:=(p0.Ri++[(zd.mk 8 p1 0 0 0 f.2.N 0 c.2 c.1 a.1.Pc (zh.mk 0 0 0 0) (zk.mk 0 false 0 false 0 0) a.1.Rz 0)])}
    else
     if (a.1.QJ==2) then
      (ak a.1.Item.RH ((p0.Id).length:Int)).bind λv=>
      (idx p0.Id v).bind λG=>
      (jE G ([(zr.mk p1 0 false a.1.Item)])).bind λH=>
      (room (p0.Ri.length+([(zd.mk 16 p1 0 0 0 f.2.N 0 c.2 c.1 a.1.Pc a.1.Item (zk.mk 0 false 0 false 0 0) a.1.Rz 0)]).length) 176).bind λS=>
      some {p0 with LT:=(p0.LT.set (Int.toNat (w64 (p1-d))) {b with QL:=a.2.2,pc:=a.1.Pc}),Id:=(p0.Id.set (Int.toNat v) H.2),Ri:=(p0.Ri++[(zd.mk 16 p1 0 0 0 f.2.N 0 c.2 c.1 a.1.Pc a.1.Item (zk.mk 0 false 0 false 0 0) a.1.Rz 0)])}
     else
      if (a.1.QJ==4) then
       (zS {p0 with LT:=(p0.LT.set (Int.toNat (w64 (p1-d))) {b with QL:=a.2.2})}).bind λI=>
       (vi p0.Fd.Rb ([w64 (p1-I)])).bind λJ=>
       (room (p0.Ri.length+([(zd.mk 9 p1 0 0 0 f.2.N f.1 c.2 c.1 a.1.Pc (zh.mk 0 0 0 0) (zk.mk 0 false 0 false 0 0) a.1.Rz 0)]).length) 176).bind λT=>
       some {p0 with Fd:=(zb.mk p0.Fd.Rg p0.Fd.RN J.2 p0.Fd.QS p0.Fd.maps p0.Fd.given p0.Fd.Re p0.Fd.waiting),LT:=(p0.LT.set (Int.toNat (w64 (p1-d))) {b with QL:=a.2.2}),Ri:=(p0.Ri++[(zd.mk 9 p1 0 0 0 f.2.N f.1 c.2 c.1 a.1.Pc (zh.mk 0 0 0 0) (zk.mk 0 false 0 false 0 0) a.1.Rz 0)])}
      else
       (room (p0.Ri.length+([(zd.mk 7 p1 0 0 0 f.2.N 0 c.2 c.1 a.1.Pc (zh.mk 0 0 0 0) (zk.mk 0 false 0 false 0 0) a.1.Rz 0)]).length) 176).bind λU=>
       some {p0 with LT:=(p0.LT.set (Int.toNat (w64 (p1-d))) {b with QL:=a.2.2}),Ri:=(p0.Ri++[(zd.mk 7 p1 0 0 0 f.2.N 0 c.2 c.1 a.1.Pc (zh.mk 0 0 0 0) (zk.mk 0 false 0 false 0 0) a.1.Rz 0)])}
   else
    if (j==3) then
     (vK b.QL).bind λn=>
     b.Sg.bind λq=>
     (room (p0.Ri.length+([(zd.mk 17 p1 0 0 0 e.2.N 0 n.2 n.1 b.pc (zh.mk 0 0 0 0) q 0 0)]).length) 176).bind λV=>
     (xi b.QL q).bind λK=>
     some {p0 with LT:=(p0.LT.set (Int.toNat (w64 (p1-d))) {b with QL:=K.2,Sg:=none}),Ri:=(p0.Ri++[(zd.mk 17 p1 0 0 0 e.2.N 0 n.2 n.1 b.pc (zh.mk 0 0 0 0) q 0 0)])}
    else
     some p0
def zy(p0:List zq):Option (List zq):=
 (room (([]:List zq).length+p0.length) 16).bind λa=>
 some (([]:List zq)++p0)
def vp(p0:ql):Option (List zq):=
 (zy p0.QK).bind λa=>
 some a
def jv(p0:qj):Option (List zq):=
 match p0 with
 |.inl x=>(vp x).bind λq=>some q
 |.inr x=>(vp x.RS).bind λq=>some q
def eQ(p0:zc)(p1:Int):Option ((List zq)×Int):=
 if (decide (p1<0)||decide (p1>=((p0.maps).length:Int))) then
  some (([]:List zq),2)
 else
  (idx p0.maps p1).bind λa=>
  (jv a).bind λb=>
  some (b,0)
def nF(p0:za)(p1:Int)(c:Nat)(again:(List zq)->Option (List zq))(a:(List zq)):Option (List zq):=
 (idx p0.Id (c:Int)).bind λd=>
 (eQ d p1).bind λb=>
 (room (a.length+b.1.length) 16).bind λe=>
 again (a++b.1)
def gH(p0:za)(p1:Int):Option ((List zq)×Int):=
 if (decide (p1<0)||decide (p1>=((p0.QZ.Maps).length:Int))) then
  some (([]:List zq),2)
 else
  (jI (nF p0 p1) (λ(a:(List zq))=>a) (p0.Id).length 0 ([]:List zq)).bind λb=>
  some (b,0)
def vC(p0:zq)(p1:Int):Option Int:=
 if decide (p0.RH<p1) then
  some (-1)
 else
  if decide (p0.RH>p1) then
   some 1
  else
   some 0
def qG(p0:List zq)(p1:Int)(again:(Int×Int)->Option Int)(a:Int×Int):Option Int:=
 if decide (a.1<a.2) then
  (idx p0 (w64 (ic .u64 (xX (w64 (a.1+a.2))) 1))).bind λb=>
  (vC b p1).bind λc=>
  if decide (c<0) then
   again (w64 ((w64 (ic .u64 (xX (w64 (a.1+a.2))) 1))+1),a.2)
  else
   again (a.1,w64 (ic .u64 (xX (w64 (a.1+a.2))) 1))
 else
  some a.1
def zM(fu:Nat)(p0:List zq)(p1:Int):Option (Int×Bool):=
 (loop (qG p0 p1) fu (0,((p0).length:Int))).bind λa=>
 (if decide (a<((p0).length:Int)) then
  (idx p0 a).bind λb=>
  (vC b p1).bind λc=>
  some (c==0)
 else
  some false).bind λd=>
 some (a,d)
def fc(fu:Nat)(p0:ql)(p1:Int):Option (Int×Bool):=
 (zM fu p0.QK p1).bind λa=>
 some (a.1,a.2)
def qf(p0:List zq)(p1 p2:Int):Option (List zq):=K0 p0 p1 p2
def qg(p0:List zq)(p1:Int)(p2:List zq):Option ((List zq)×(List zq)):=Nv 16 p0 p1 p2
def jK(fu:Nat)(p0:ql)(p1:Int)(p2:Int)(p3:Int):Option (zk×ql):=
 if (decide (p1<0)||decide (p1>=5)) then
  some ((zk.mk 2 false 0 false 0 0),p0)
 else
  (fc fu p0 p2).bind λa=>
  (if (a.2&&(p1 !=1)) then
   (idx p0.QK a.1).bind λe=>
   some (zk.mk 0 a.2 e.Rz false 0 0)
  else
   some (zk.mk 0 a.2 0 false 0 0)).bind λb=>
  if (p1==3) then
   if a.2 then
    (qf p0.QK a.1 (w64 (a.1+1))).bind λf=>
    some (b,(ql.mk p0.cap f))
   else
    some (b,p0)
  else
   (if (p1==2) then
    some (p1==2)
   else
    some (p1==4)).bind λg=>
   if g then
    if ((!a.2)&&(((p0.QK).length:Int)==p0.cap)) then
     some ((zk.mk 40 false 0 false 0 0),p0)
    else
     (if (!a.2) then
      (qg p0.QK a.1 ([(zq.mk p2 0)])).bind λh=>
      some (ql.mk p0.cap h.1)
     else
      some p0).bind λc=>
     (if (p1==4) then
      some (xX (b.Rz+p3),{b with Rz:=(xX (b.Rz+p3))})
     else
      some (p3,b)).bind λd=>
     (idx c.QK a.1).bind λj=>
     some (d.2,(ql.mk c.cap (c.QK.set (Int.toNat a.1) (zq.mk j.RH d.1))))
   else
    some (b,p0)
def xT(p0:List Int)(p1:Int)(a:Nat)(again:Unit->Option (Unit⊕Int))(d:Unit):Option (Unit⊕Int):=
 (idx p0 (a:Int)).bind λb=>
 (bm b p1).bind λc=>
 if c then
  some (.inr (a:Int))
 else
  again ()
def qP(p0:List Int)(p1:Int):Option Int:=
 (jI (xT p0 p1) (λ(b:Unit)=>(.inl ())) (p0).length 0 ()).bind λa=>match a with
  |.inl c=>
   some (-1)
  |.inr r=>some r
def xH(p1:Int)(again:((List Int)×Int×Int)->Option ((List Int)×Int))(a:(List Int)×Int×Int):Option ((List Int)×Int):=
 if decide (a.2.2<((a.1).length:Int)) then
  (idx a.1 a.2.2).bind λb=>
  (bm b p1).bind λc=>
  if (!c) then
   (idx a.1 a.2.1).bind λd=>
   again ((a.1.set (Int.toNat a.2.1) b),w64 (a.2.1+1),w64 (a.2.2+1))
  else
   again (a.1,a.2.1,w64 (a.2.2+1))
 else
  some (a.1,a.2.1)
def qJ(fu:Nat)(p0:List Int)(p1:Int):Option (List Int):=
 (qP p0 p1).bind λb=>
 if (b==(-1)) then
  some p0
 else
  (loop (xH p1) fu (p0,b,w64 (b+1))).bind λa=>
  (cut a.1 a.2 (a.1.length:Int)).bind λc=>
  (cut (a.1.take (Int.toNat a.2)++List.replicate c.length 0) 0 a.2).bind λd=>
  some d
def xB(fu:Nat)(p0:qy)(p1:Int):Option qy:=
 (qJ fu p0.Sa p1).bind λa=>
 some (qy.mk p0.RS a)
def cy(fu:Nat)(p0:qy)(p1:zk):Option (qy×zk):=
 (idx p0.Sa (w64 (((p0.Sa).length:Int)-1))).bind λa=>
 (jK fu p0.RS 3 a 0).bind λb=>
 (xB fu (qy.mk b.2 p0.Sa) a).bind λc=>
 some (c,(zk.mk p1.E p1.Found p1.Rz true a b.1.Rz))
def jB(p0:List Int)(p1:Int)(p2:List Int):Option ((List Int)×(List Int)):=Nv 8 p0 p1 p2
def xV(fu:Nat)(p0:qy)(p1:Int):Option qy:=
 (xB fu p0 p1).bind λa=>
 (jB a.Sa 0 ([p1])).bind λb=>
 some (qy.mk a.RS b.1)
def dM(fu:Nat)(p0:qy)(p1:Int)(p2:Int)(p3:Int):Option (zk×qy):=
 (jK fu p0.RS p1 p2 p3).bind λc=>
 (if (c.1.E==40) then
  (cy fu (qy.mk c.2 p0.Sa) (zk.mk 0 false 0 false 0 0)).bind λb=>
  (jK fu b.1.RS p1 p2 p3).bind λd=>
  some ((qy.mk d.2 b.1.Sa),(zk.mk d.1.E d.1.Found d.1.Rz b.2.Ti b.2.Sc b.2.Sd))
 else
  some ((qy.mk c.2 p0.Sa),c.1)).bind λa=>
 if (a.2.E !=0) then
  some (a.2,a.1)
 else
  (if (p1==2) then
   some (p1==2)
  else
   if (p1==4) then
    some (p1==4)
   else
    if (p1==0) then
     some a.2.Found
    else
     some false).bind λe=>
  if e then
   (xV fu a.1 p2).bind λf=>
   some (a.2,f)
  else
   if (p1==3) then
    (xB fu a.1 p2).bind λg=>
    some (a.2,g)
   else
    some (a.2,a.1)
def jC(fu:Nat)(p0:qj)(p1:Int)(p2:Int)(p3:Int):Option (zk×qj):=
 match p0 with
 |.inl x=>(jK fu x p1 p2 p3).bind λq=>some (q.1,(.inl q.2))
 |.inr x=>(dM fu x p1 p2 p3).bind λq=>some (q.1,(.inr q.2))
def jF(fu:Nat)(p0:zc):Option (cZ×Bool×zc):=
 if (((p0.QO).length:Int)==0) then
  some ((cZ.mk 0 0 false (zh.mk 0 0 0 0) (zk.mk 0 false 0 false 0 0) ([]:List zq)),false,p0)
 else
  (idx p0.QO 0).bind λa=>
  (cut p0.QO 1 (p0.QO.length:Int)).bind λb=>
  if a.Sj then
   (idx p0.maps a.Item.Rv).bind λd=>
   (jv d).bind λe=>
   some ({a with To:=a.RT,Rs:=(zk.mk 0 false 0 false 0 0),Pairs:=e},true,{p0 with QO:=b})
  else
   (idx p0.maps a.Item.Rv).bind λf=>
   (jC fu f a.Item.Op a.Item.RH a.Item.Rz).bind λc=>
   some ({a with To:=a.RT,Rs:=c.1,Pairs:=([]:List zq)},true,{p0 with maps:=(p0.maps.set (Int.toNat a.Item.Rv) c.2),QO:=b})
def bS(p0:zc):Option (Int×zc):=
 if decide (((p0.QO).length:Int)>0) then
  some (42,p0)
 else
  some (0,{p0 with QV:=true})
def bT(fu:Nat)(p0:za)(p1:Int):Option za:=
 (qC p0).bind λc=>
 (idx p0.Id (w64 (p1-c))).bind λg=>
 (jF fu g).bind λa=>
 if (!a.2.1) then
  (bS a.2.2).bind λh=>
  (room (p0.Ri.length+([(zd.mk 15 p1 0 0 0 0 0 0 0 0 (zh.mk 0 0 0 0) (zk.mk 0 false 0 false 0 0) 0 0)]).length) 176).bind λn=>
  (aO p0.QX ([p1])).bind λj=>
  some {p0 with QX:=j.2,Id:=(p0.Id.set (Int.toNat (w64 (p1-c))) h.2),Ri:=(p0.Ri++[(zd.mk 15 p1 0 0 0 0 0 0 0 0 (zh.mk 0 0 0 0) (zk.mk 0 false 0 false 0 0) 0 0)])}
 else
  (zS {p0 with Id:=(p0.Id.set (Int.toNat (w64 (p1-c))) a.2.2)}).bind λl=>
  if decide (a.1.To>=l) then
   (zS {p0 with Id:=(p0.Id.set (Int.toNat (w64 (p1-c))) a.2.2)}).bind λd=>
   (idx p0.LT (w64 (a.1.To-d))).bind λe=>
   (xo e.QL).bind λf=>
   (room (p0.Ri.length+([(zd.mk 3 p1 a.1.To 0 a.1.SD f.2.N 0 0 0 0 a.1.Item a.1.Rs 0 0)]).length) 176).bind λq=>
   some {p0 with LT:=(p0.LT.set (Int.toNat (w64 (a.1.To-d))) {e with Sg:=(some a.1.Rs)}),Id:=(p0.Id.set (Int.toNat (w64 (p1-c))) a.2.2),Ri:=(p0.Ri++[(zd.mk 3 p1 a.1.To 0 a.1.SD f.2.N 0 0 0 0 a.1.Item a.1.Rs 0 0)])}
  else
   (idx p0.or a.1.To).bind λb=>
   if a.1.Sj then
    (idx b.parts a.1.SD).bind λv=>
    some {p0 with or:=(p0.or.set (Int.toNat a.1.To) {b with QT:=(w64 (b.QT-1)),parts:=(b.parts.set (Int.toNat a.1.SD) a.1.Pairs)}),Id:=(p0.Id.set (Int.toNat (w64 (p1-c))) a.2.2)}
   else
    (idx b.Fn.Rs a.1.SD).bind λz=>
    (room (p0.Ri.length+([(zd.mk 3 p1 a.1.To b.Rj a.1.SD 0 0 0 0 0 a.1.Item a.1.Rs 0 0)]).length) 176).bind λA=>
    some {p0 with or:=(p0.or.set (Int.toNat a.1.To) {b with QT:=(w64 (b.QT-1)),Fn:=(zA.mk b.Fn.E b.Fn.N (b.Fn.Rs.set (Int.toNat a.1.SD) a.1.Rs) b.Fn.Pairs)}),Id:=(p0.Id.set (Int.toNat (w64 (p1-c))) a.2.2),Ri:=(p0.Ri++[(zd.mk 3 p1 a.1.To b.Rj a.1.SD 0 0 0 0 0 a.1.Item a.1.Rs 0 0)])}
def qc(p0:List zE)(p1 p2:Int):Option (List zE):=K0 p0 p1 p2
abbrev yD:=Unit⊕(Int×zU)
def eR(p0:zU)(p1:List Int)(a:Nat)(again:Unit->Option yD)(e:Unit):Option yD:=
 (idx p1 (a:Int)).bind λb=>
 (cut p1 0 (a:Int)).bind λc=>
 (zY c b).bind λd=>
 if d then
  some (.inr (2,p0))
 else
  again ()
def eS(p0:zU)(p1:List Int)(a:Nat)(again:Unit->Option yD)(c:Unit):Option yD:=
 (idx p1 (a:Int)).bind λb=>
 if (!(jM p0.held b).isSome) then
  some (.inr (41,p0))
 else
  again ()
def eT(p1:List Int)(b:Nat)(again:zU->Option zU)(a:zU):Option zU:=
 (idx p1 (b:Int)).bind λc=>
 again (zU.mk a.maps (mdel a.held c))
def vU(p0:zU)(p1:List Int):Option (Int×zU):=
 (jI (eR p0 p1) (λ(e:Unit)=>(.inl ())) (p1).length 0 ()).bind λa=>match a with
  |.inl f=>
   (jI (eS p0 p1) (λ(g:Unit)=>(.inl ())) (p1).length 0 ()).bind λb=>match b with
    |.inl h=>
     (jI (eT p1) (λ(c:zU)=>c) (p1).length 0 p0).bind λd=>
     some (0,d)
    |.inr r=>some r
  |.inr r=>some r
def aA(p0:List Int)(p1:List Int)(a:Nat)(again:Unit->Option (Unit⊕Int))(d:Unit):Option (Unit⊕Int):=
 (idx p0 (a:Int)).bind λb=>
 (jf b p1).bind λc=>
 if c then
  some (.inr (a:Int))
 else
  again ()
def jw(p0:List Int)(p1:List Int):Option Int:=
 (jI (aA p0 p1) (λ(b:Unit)=>(.inl ())) (p0).length 0 ()).bind λa=>match a with
  |.inl c=>
   some (-1)
  |.inr r=>some r
def xl(p1:List Int)(again:((List Int)×Int×Int)->Option ((List Int)×Int))(a:(List Int)×Int×Int):Option ((List Int)×Int):=
 if decide (a.2.2<((a.1).length:Int)) then
  (idx a.1 a.2.2).bind λb=>
  (jf b p1).bind λc=>
  if (!c) then
   (idx a.1 a.2.1).bind λd=>
   again ((a.1.set (Int.toNat a.2.1) b),w64 (a.2.1+1),w64 (a.2.2+1))
  else
   again (a.1,a.2.1,w64 (a.2.2+1))
 else
  some (a.1,a.2.1)
def qR(fu:Nat)(p0:List Int)(p1:List Int):Option (List Int):=
 (jw p0 p1).bind λb=>
 if (b==(-1)) then
  some p0
 else
  (loop (xl p1) fu (p0,b,w64 (b+1))).bind λa=>
  (cut a.1 a.2 (a.1.length:Int)).bind λc=>
  (cut (a.1.take (Int.toNat a.2)++List.replicate c.length 0) 0 a.2).bind λd=>
  some d
def xe(p0:zb)(p1:Int)(c:Nat)(again:(List Int)->Option (List Int))(a:(List Int)):Option (List Int):=
 (idx p0.waiting (c:Int)).bind λb=>
 (if decide (((a).length:Int)<p1) then
  (jM p0.Re b).bind λd=>
  (xM p0.Rb d.RE).bind λe=>
  some e
 else
  some false).bind λf=>
 if f then
  (room (a.length+([b]).length) 8).bind λg=>
  again (a++[b])
 else
  again a
def xf(c:(List Int))(d:Nat)(again:zb->Option zb)(a:zb):Option zb:=
 (idx c (d:Int)).bind λb=>
 (vU a.RN ([b])).bind λe=>
 again {a with RN:=e.2,Re:=(mdel a.Re b)}
def jx(fu:Nat)(p0:zb)(p1:Int):Option ((List Int)×zb):=
 (jI (xe p0 p1) (λ(c:(List Int))=>c) (p0.waiting).length 0 ([]:List Int)).bind λa=>
 (jI (xf a) (λ(d:zb)=>d) (a).length 0 p0).bind λb=>
 (qR fu b.waiting a).bind λe=>
 some (a,{b with waiting:=e})
def jN(p0:za)(p1:Int)(p2:Int)(p3:Int):Option za:=
 (idx p0.or p1).bind λa=>
 some {p0 with or:=(p0.or.set (Int.toNat p1) {a with QT:=0,Fn:=(zA.mk p3 p2 a.Fn.Rs a.Fn.Pairs)})}
def qA(p0:zu)(p1:Int):Option zu:=
 if (p0.e==0) then
  some {p0 with e:=p1}
 else
  some p0
def fN(again:zu->Option zu)(a:zu):Option zu:=
 if (decide (a.Rj<3)&&(a.e==0)) then
  (if decide (a.Rj>=((a.b).length:Int)) then
   (qA {a with field:=a.Rj} 10).bind λd=>
   some d
  else
   (idx a.b a.Rj).bind λf=>
   (tx (⟨[84,80,1].toArray⟩) a.Rj).bind λg=>
   if (f !=g) then
    (qA {a with field:=a.Rj} 12).bind λh=>
    some h
   else
    some {a with field:=a.Rj}).bind λc=>
  again {c with Rj:=(w64 (c.Rj+1))}
 else
  some a
def aB(fu:Nat)(p0:zu):Option zu:=
 (loop fN fu p0).bind λa=>
 some a
def ud(p0:List Int)(a:Nat)(again:Int->Option (Unit⊕(Int×Int×Int)))(c:Int):Option (Unit⊕(Int×Int×Int)):=
 (idx p0 (a:Int)).bind λb=>
 if ((((a:Int)==9)&&decide (b>1))||(decide ((a:Int)>0)&&(b==0))) then
  some (.inr (0,0,12))
 else
  (nn (w64 (7*(a:Int)))).bind λd=>
  if decide (b<128) then
   some (.inr (bOr .u64 c (uC .u64 (xX (uB .u8 b 127)) (w64 (7*(a:Int)))),w64 ((a:Int)+1),0))
  else
   again (bOr .u64 c (uC .u64 (xX (uB .u8 b 127)) (w64 (7*(a:Int)))))
def oP(p0:List Int):Option (Int×Int×Int):=
 (jI (ud p0) (λ(b:Int)=>(.inl ())) (p0).length 0 0).bind λa=>match a with
  |.inl c=>
   some (0,0,10)
  |.inr r=>some r
def qT(p0:zu)(p1:Int)(p2:Int):Option (Int×zu):=
 if (p0.e !=0) then
  some (0,p0)
 else
  (cut p0.b p0.Rj (p0.b.length:Int)).bind λc=>
  (oP c).bind λa=>
  if (a.2.2 !=0) then
   (qA (zu.mk p0.b (w64 (p0.Rj+a.2.1)) p0.Rj p0.e) a.2.2).bind λd=>
   some (0,d)
  else
   if decide (a.1>p1) then
    (qA (zu.mk p0.b (w64 (p0.Rj+a.2.1)) p0.Rj p0.e) p2).bind λf=>
    some (0,f)
   else
    some (w64 a.1,(zu.mk p0.b (w64 (p0.Rj+a.2.1)) p0.Rj p0.e))
def iS(p0:List Int):Option (Int×Int×Int):=
 (oP p0).bind λa=>
 some (Lh .i64 (w64 (ic .u64 a.1 1)) (w64 (0-(w64 (uB .u64 a.1 1)))),a.2.1,a.2.2)
def aW(p0:zu):Option (zf×zu):=
 (qT p0 22 12).bind λd=>
 (qT d.2 63 12).bind λf=>
 (qT f.2 63 12).bind λg=>
 (qT g.2 63 12).bind λa=>
 if (a.2.e !=0) then
  some ((zf.mk d.1 f.1 g.1 a.1 0),a.2)
 else
  (cut a.2.b a.2.Rj (a.2.b.length:Int)).bind λh=>
  (iS h).bind λc=>
  if (c.2.2 !=0) then
   (qA (zu.mk a.2.b (w64 (a.2.Rj+c.2.1)) a.2.Rj a.2.e) c.2.2).bind λj=>
   some ((zf.mk d.1 f.1 g.1 a.1 c.1),j)
  else
   (fk ([(zf.mk d.1 f.1 g.1 a.1 c.1)])).bind λl=>
   if (!l) then
    (qA (zu.mk a.2.b (w64 (a.2.Rj+c.2.1)) p0.Rj a.2.e) 12).bind λn=>
    some ((zf.mk d.1 f.1 g.1 a.1 c.1),n)
   else
    some ((zf.mk d.1 f.1 g.1 a.1 c.1),(zu.mk a.2.b (w64 (a.2.Rj+c.2.1)) a.2.Rj a.2.e))
def mA(d:Int×zu)(again:(zu×(List Int)×Int)->Option (zu×(List Int)))(a:zu×(List Int)×Int):Option (zu×(List Int)):=
 if decide (a.2.2<d.1) then
  (qT a.1 3 12).bind λb=>
  (zY a.2.1 b.1).bind λf=>
  (if f then
   (qA b.2 12).bind λg=>
   some g
  else
   some b.2).bind λc=>
  if (c.e !=0) then
   some (c,a.2.1)
  else
   (room (a.2.1.length+([b.1]).length) 8).bind λh=>
   again (c,(a.2.1++[b.1]),w64 (a.2.2+1))
 else
  some (a.1,a.2.1)
def mB(c:Int×zu)(again:(zu×(List zf)×Int)->Option (zu×(List zf)))(a:zu×(List zf)×Int):Option (zu×(List zf)):=
 if (decide (a.2.2<c.1)&&(a.1.e==0)) then
  (aW a.1).bind λb=>
  (room (a.2.1.length+([b.1]).length) 40).bind λd=>
  again (b.2,(a.2.1++[b.1]),w64 (a.2.2+1))
 else
  some (a.1,a.2.1)
def dC(fu:Nat)(p0:List Int):Option (zH×Int×Int):=
 (aB fu (zu.mk p0 0 0 0)).bind λh=>
 (qT h 4 11).bind λf=>
 (loop (mA f) fu (f.2,([]:List Int),0)).bind λg=>
 (qT g.1 64 11).bind λc=>
 (if (c.1==0) then
  (qA c.2 12).bind λj=>
  some j
 else
  some c.2).bind λl=>
 (loop (mB c) fu (l,([]:List zf),0)).bind λa=>
 (if ((a.1.e==0)&&decide (a.1.Rj<((p0).length:Int))) then
  (qA (zu.mk a.1.b a.1.Rj a.1.Rj a.1.e) 13).bind λn=>
  some n
 else
  some a.1).bind λd=>
 if (d.e !=0) then
  some ((zH.mk ([]:List Int) ([]:List zf)),d.field,d.e)
 else
  some ((zH.mk g.2 a.2),0,0)
def eU(p0:zU)(p2:List Int)(b:Nat)(again:Unit->Option yD)(f:Unit):Option yD:=
 (idx p2 (b:Int)).bind λa=>
 (if decide (a<0) then
  some true
 else
  if decide (a>=p0.maps) then
   some true
  else
   (cut p2 0 (b:Int)).bind λc=>
   (zY c a).bind λd=>
   some d).bind λe=>
 if e then
  some (.inr (2,p0))
 else
  again ()
def dd(p0:zU)(p1:Int)(p2:List Int):Option (Int×zU):=
 (jI (eU p0 p2) (λ(c:Unit)=>(.inl ())) (p2).length 0 ()).bind λa=>match a with
  |.inl d=>
   if (jM p0.held p1).isSome then
    some (42,p0)
   else
    (qX p2).bind λb=>
    some (0,(zU.mk p0.maps (mput p0.held p1 b)))
  |.inr r=>some r
abbrev yE:=Int×Int×zb
def vV(p0:zb)(a:zH×Int×Int)(b:Nat)(again:Unit->Option (Unit⊕yE))(d:Unit):Option (Unit⊕yE):=
 (idx a.1.Maps (b:Int)).bind λc=>
 if decide (c>=p0.maps) then
  some (.inr (0,41,p0))
 else
  again ()
def jo(fu:Nat)(p0:zb)(p1:List Int):Option yE:=
 (dC fu p1).bind λa=>
 if (a.2.2 !=0) then
  some (0,a.2.2,p0)
 else
  (vT fu a.1).bind λb=>
  if (b.2 !=0) then
   some (0,b.2,p0)
  else
   (jI (vV p0 a) (λ(e:Unit)=>(.inl ())) (a.1.Maps).length 0 ()).bind λc=>match c with
    |.inl f=>
     if decide ((p0.Re.length:Int)>=16) then
      some (0,40,p0)
     else
      (dd p0.RN (w64 (p0.given+1)) a.1.Maps).bind λd=>
      some (w64 (p0.given+1),0,{p0 with RN:=d.2,given:=(w64 (p0.given+1)),Re:=(mput p0.Re (w64 (p0.given+1)) (zX.mk a.1 0))})
    |.inr r=>some r
def ao(p0:xz):Option (Int×xz):=
 some (w64 (p0.last+1),(xz.mk (w64 (p0.last+1))))
def aQ(p0:xz):Option Int:=
 some p0.last
def xr(p0:zz)(p1:Int)(p2:Int):Option (Int×Int×zz):=
 (ao p0.Rq).bind λa=>
 (idx p0.QS p1).bind λc=>
 (aQ a.2).bind λb=>
 some (b,0,(zz.mk a.2 (p0.QS.set (Int.toNat p1) (xd.mk a.1 p2))))
def vL(p0:zz)(p1:Int)(p2:Int):Option (Int×Int×zz):=
 (jl p0 p1).bind λb=>
 if (!b) then
  some (0,2,p0)
 else
  (jn p0 p1).bind λc=>
  if c then
   some (0,42,p0)
  else
   (xr p0 p1 p2).bind λa=>
   some (a.1,a.2.1,a.2.2)
def jy(p0:zb)(p1:Int)(p2:Int):Option yE:=
 if decide (p1<0) then
  some (0,2,p0)
 else
  if decide (p1>=p0.QS) then
   some (0,2,p0)
  else
   if (jM p0.Re p2).isSome then
    (jM p0.Re p2).bind λb=>
    if (!(b.RE==0)) then
     some (0,41,p0)
    else
     (vL p0.Rg p1 p2).bind λa=>
     some (a.1,a.2.1,{p0 with Rg:=a.2.2})
   else
    some (0,41,p0)
def xt(p0:za)(p1:zE)(p2:Int)(p3:Int)(p4:Int):Option za:=
 (if (p4==0) then
  (qF p0).bind λa=>
  (room (p0.Ri.length+([(zd.mk 11 a 0 0 0 0 p1.cmd.Ry p2 p3 0 (zh.mk 0 0 0 0) (zk.mk 0 false 0 false 0 0) 0 0)]).length) 176).bind λd=>
  some {p0 with Ri:=(p0.Ri++[(zd.mk 11 a 0 0 0 0 p1.cmd.Ry p2 p3 0 (zh.mk 0 0 0 0) (zk.mk 0 false 0 false 0 0) 0 0)])}
 else
  some p0).bind λb=>
 (jN b p1.Rn p3 p4).bind λc=>
 some c
def aX(p0:zz)(p1:Int)(p2:Int):Option (Int×Int×zz):=
 (jl p0 p1).bind λb=>
 if (!b) then
  some (0,2,p0)
 else
  (jn p0 p1).bind λc=>
  if (!c) then
   some (0,41,p0)
  else
   (xr p0 p1 p2).bind λa=>
   some (a.1,a.2.1,a.2.2)
def jL(p0:zb)(p1:Int)(p2:Int):Option yE:=
 if decide (p1<0) then
  some (0,2,p0)
 else
  if decide (p1>=p0.QS) then
   some (0,2,p0)
  else
   if (jM p0.Re p2).isSome then
    (jM p0.Re p2).bind λb=>
    if (!(b.RE==0)) then
     some (0,41,p0)
    else
     (aX p0.Rg p1 p2).bind λa=>
     some (a.1,a.2.1,{p0 with Rg:=a.2.2})
   else
    some (0,41,p0)
def ft(p0:zz)(p1:List Int)(a:Nat)(again:Unit->Option (Unit⊕(Int×zz)))(g:Unit):Option (Unit⊕(Int×zz)):=
 (idx p1 (a:Int)).bind λb=>
 ((jl p0 b).bind λc=>
 if (!c) then
  some true
 else
  (cut p1 0 (a:Int)).bind λd=>
  (zY d b).bind λe=>
  some e).bind λf=>
 if f then
  some (.inr (2,p0))
 else
  again ()
def fv(p0:zz)(p1:List Int)(a:Nat)(again:Unit->Option (Unit⊕(Int×zz)))(d:Unit):Option (Unit⊕(Int×zz)):=
 (idx p1 (a:Int)).bind λb=>
 (jn p0 b).bind λc=>
 if (!c) then
  some (.inr (41,p0))
 else
  again ()
def fw(p1:List Int)(c:Nat)(again:zz->Option zz)(a:zz):Option zz:=
 (idx p1 (c:Int)).bind λb=>
 (idx a.QS b).bind λd=>
 again (zz.mk a.Rq (a.QS.set (Int.toNat b) (xd.mk 0 0)))
def xI(p0:zz)(p1:List Int):Option (Int×zz):=
 (jI (ft p0 p1) (λ(e:Unit)=>(.inl ())) (p1).length 0 ()).bind λa=>match a with
  |.inl f=>
   (jI (fv p0 p1) (λ(g:Unit)=>(.inl ())) (p1).length 0 ()).bind λb=>match b with
    |.inl h=>
     (jI (fw p1) (λ(c:zz)=>c) (p1).length 0 p0).bind λd=>
     some (0,d)
    |.inr r=>some r
  |.inr r=>some r
def fP(p0:zz)(p1:List Int)(a:Nat)(again:(List Int)->Option (List Int))(b:(List Int)):Option (List Int):=
 (idx p0.QS (a:Int)).bind λc=>
 (if decide (c.Rt>0) then
  (zY p1 c.prog).bind λd=>
  some d
 else
  some false).bind λe=>
 if e then
  (room (b.length+([(a:Int)]).length) 8).bind λf=>
  again (b++[(a:Int)])
 else
  again b
def aC(p0:zz)(p1:List Int):Option (List Int):=
 (jI (fP p0 p1) (λ(a:(List Int))=>a) (p0.QS).length 0 ([]:List Int)).bind λb=>
 some b
def vq(p0:zC):Option (Int×zC):=
 some (w64 (p0.Sk+1),(zC.mk (w64 (p0.Sk+1)) p0.in_))
def jc(p0:zb)(p1:Int):Option yE:=
 if (!(jM p0.Re p1).isSome) then
  some (0,41,p0)
 else
  (jM p0.Re p1).bind λb=>
  if decide (b.RE>0) then
   some (0,42,p0)
  else
   (aC p0.Rg ([p1])).bind λc=>
   if decide (((c).length:Int)>0) then
    some (0,42,p0)
   else
    (vq p0.Rb).bind λa=>
    (room (p0.waiting.length+([p1]).length) 8).bind λd=>
    some (a.1,0,{p0 with Rb:=a.2,Re:=(tw p0.Re p1 (zX.mk b.module a.1)),waiting:=(p0.waiting++[p1])})
def qp(p0:List zZ):Option (List zZ):=
 (room (([]:List zZ).length+p0.length) 24).bind λa=>
 some (([]:List zZ)++p0)
def de(p0:zw)(g0:zO):Option ((List zZ)×zw):=
 (qp p0.waiting).bind λa=>
 some (a,(zw.mk p0.room true ([]:List zZ) (xx.mk p0.counts.Sf p0.counts.Sn p0.counts.SP (w64 (p0.counts.Sq+((p0.waiting).length:Int))) p0.counts.Sl)))
def cR(p0:za)(p1:zE)(a:Nat)(f:(List zw)×(List zd))(c:(List zZ)×zw)(g:Nat)(again:(List zd)->Option (List zd))(b:(List zd)):Option (List zd):=
 (idx c.1 (g:Int)).bind λd=>
 (qF {p0 with QI:=(f.1.set (Int.toNat (a:Int)) c.2),QQ:=p1.Rn,closed:=true,Ri:=b}).bind λe=>
 (room (b.length+([(zd.mk 10 e 0 0 0 d.N (a:Int) 0 0 0 (zh.mk 0 0 0 0) (zk.mk 0 false 0 false 0 0) 0 0)]).length) 176).bind λh=>
 again (b++[(zd.mk 10 e 0 0 0 d.N (a:Int) 0 0 0 (zh.mk 0 0 0 0) (zk.mk 0 false 0 false 0 0) 0 0)])
def cT(p0:za)(p1:zE)(b:Nat)(again:((List zw)×(List zd))->Option za)(a:(List zw)×(List zd)):Option za:=
 (idx a.1 (b:Int)).bind λd=>
 (de d p0.Rx).bind λc=>
 (jI (cR p0 p1 b a c) (λ(e:(List zd))=>e) (c.1).length 0 a.2).bind λf=>
 again ((a.1.set (Int.toNat (b:Int)) c.2),f)
def cz(fu:Nat)(p0:za)(p1:zE):Option za:=
 if (p1.cmd.QJ==4) then
  (jo fu p0.Fd p1.cmd.Rf).bind λa=>
  (if (a.2.1==0) then
   (qF {p0 with Fd:=a.2.2}).bind λf=>
   (room (p0.Ri.length+([(zd.mk 12 f 0 0 0 0 0 a.1 0 0 (zh.mk 0 0 0 0) (zk.mk 0 false 0 false 0 0) 0 0)]).length) 176).bind λB=>
   some {p0 with Fd:=a.2.2,Ri:=(p0.Ri++[(zd.mk 12 f 0 0 0 0 0 a.1 0 0 (zh.mk 0 0 0 0) (zk.mk 0 false 0 false 0 0) 0 0)])}
  else
   some {p0 with Fd:=a.2.2}).bind λl=>
  (jN l p1.Rn a.1 a.2.1).bind λn=>
  some n
 else
  if (p1.cmd.QJ==5) then
   (jy p0.Fd p1.cmd.Ry p1.cmd.RM).bind λd=>
   (xt {p0 with Fd:=d.2.2} p1 p1.cmd.RM d.1 d.2.1).bind λq=>
   some q
  else
   if (p1.cmd.QJ==6) then
    (jL p0.Fd p1.cmd.Ry p1.cmd.RM).bind λe=>
    (xt {p0 with Fd:=e.2.2} p1 p1.cmd.RM e.1 e.2.1).bind λv=>
    some v
   else
    if (p1.cmd.QJ==7) then
     (xI p0.Fd.Rg ([p1.cmd.Ry])).bind λg=>
     (xt {p0 with Fd:=(zb.mk g.2 p0.Fd.RN p0.Fd.Rb p0.Fd.QS p0.Fd.maps p0.Fd.given p0.Fd.Re p0.Fd.waiting)} p1 0 0 g.1).bind λz=>
     some z
    else
     if (p1.cmd.QJ==8) then
      (jc p0.Fd p1.cmd.RM).bind λb=>
      if (b.2.1 !=0) then
       (jN {p0 with Fd:=b.2.2} p1.Rn 0 b.2.1).bind λA=>
       some A
      else
       (room (p0.held.length+([{p1 with Sv:=b.1}]).length) 144).bind λC=>
       some {p0 with Fd:=b.2.2,held:=(p0.held++[{p1 with Sv:=b.1}])}
     else
      if (p1.cmd.QJ==9) then
       (room (p0.held.length+([p1]).length) 144).bind λD=>
       some {p0 with held:=(p0.held++[p1])}
      else
       if (p1.cmd.QJ==10) then
        (jI (cT p0 p1) (λ(h:(List zw)×(List zd))=>{p0 with QI:=h.1,QQ:=p1.Rn,closed:=true,Ri:=h.2}) (p0.QI).length 0 (p0.QI,p0.Ri)).bind λc=>
        (qF c).bind λj=>
        (room (c.Ri.length+([(zd.mk 14 j 0 0 0 0 0 0 0 0 (zh.mk 0 0 0 0) (zk.mk 0 false 0 false 0 0) 0 0)]).length) 176).bind λE=>
        some {c with Ri:=(c.Ri++[(zd.mk 14 j 0 0 0 0 0 0 0 0 (zh.mk 0 0 0 0) (zk.mk 0 false 0 false 0 0) 0 0)])}
       else
        some p0
def df(fu:Nat)(p0:za):Option za:=
 (xh p0).bind λb=>
 if decide (b>=0) then
  (idx p0.held b).bind λc=>
  (qc p0.held b (w64 (b+1))).bind λd=>
  (if (c.cmd.QJ==8) then
   (jx fu p0.Fd 1).bind λf=>
   (qF {p0 with Fd:=f.2,held:=d}).bind λg=>
   (room (p0.Ri.length+([(zd.mk 13 g 0 0 0 0 0 c.cmd.RM 0 0 (zh.mk 0 0 0 0) (zk.mk 0 false 0 false 0 0) 0 0)]).length) 176).bind λA=>
   some {p0 with Fd:=f.2,held:=d,Ri:=(p0.Ri++[(zd.mk 13 g 0 0 0 0 0 c.cmd.RM 0 0 (zh.mk 0 0 0 0) (zk.mk 0 false 0 false 0 0) 0 0)])}
  else
   some {p0 with held:=d}).bind λl=>
  (jN l c.Rn 0 0).bind λn=>
  some n
 else
  if (((p0.QO).length:Int)==0) then
   (jN {p0 with over:=true} p0.QQ 0 0).bind λa=>
   (qF a).bind λe=>
   (room (a.Ri.length+([(zd.mk 15 e 0 0 0 0 0 0 0 0 (zh.mk 0 0 0 0) (zk.mk 0 false 0 false 0 0) 0 0)]).length) 176).bind λB=>
   (aO a.QX ([e])).bind λq=>
   some {a with QX:=q.2,Ri:=(a.Ri++[(zd.mk 15 e 0 0 0 0 0 0 0 0 (zh.mk 0 0 0 0) (zk.mk 0 false 0 false 0 0) 0 0)])}
  else
   (idx p0.QO 0).bind λh=>
   (cut p0.QO 1 (p0.QO.length:Int)).bind λj=>
   if p0.closed then
    (jN {p0 with QO:=j} h.Rn 0 43).bind λv=>
    some v
   else
    (cz fu {p0 with QO:=j} h).bind λz=>
    some z
def vW(fu:Nat)(p0:za)(p1:Int)(p2:Bool):Option (Int×Bool×za):=
 if (!p2) then
  some (p1,p2,p0)
 else
  (zS p0).bind λa=>
  if decide (p1<a) then
   (xO p0 p1).bind λb=>
   some (p1,p2,b)
  else
   (qC p0).bind λc=>
   if decide (p1<c) then
    (dc fu p0 p1).bind λd=>
    some (p1,p2,d)
   else
    (qF p0).bind λe=>
    if decide (p1<e) then
     (bT fu p0 p1).bind λf=>
     some (p1,p2,f)
    else
     (df fu p0).bind λg=>
     some (p1,p2,g)
def bu(fu:Nat)(p0:za)(p1:Int):Option (Int×Bool×za):=
 (vf p0).bind λc=>
 (db c.QX p1).bind λa=>
 (vW fu {c with QX:=a.2.2} a.1 a.2.1).bind λb=>
 some (b.1,b.2.1,b.2.2)
def oQ(p0:zo)(c:(List Int))(d:Nat)(again:(Int×Bool)->Option (Int×Bool))(a:Int×Bool):Option (Int×Bool):=
 (idx c (d:Int)).bind λb=>
 (if (!a.2) then
  some true
 else
  (idx p0.QN b).bind λe=>
  (idx p0.QN a.1).bind λf=>
  some (decide (e.Sh<f.Sh))).bind λg=>
 if g then
  again (b,true)
 else
  again (a.1,a.2)
def iq(p0:zo):Option (Int×Bool×zo):=
 (az p0).bind λb=>
 (jI (oQ p0 b) (λ(c:Int×Bool)=>(c.1,c.2)) (b).length 0 (0,false)).bind λd=>
 if (!d.2) then
  some (0,false,p0)
 else
  (vS p0 d.1).bind λa=>
  some (a.1,a.2.1,a.2.2)
def ir(fu:Nat)(p0:za):Option (Int×Bool×za):=
 (vf p0).bind λc=>
 (iq c.QX).bind λa=>
 (vW fu {c with QX:=a.2.2} a.1 a.2.1).bind λb=>
 some (b.1,b.2.1,b.2.2)
def pS(fu:Nat)(p1:List Int)(a:Nat)(again:za->Option za)(b:za):Option za:=
 (idx p1 (a:Int)).bind λc=>
 (bu fu b c).bind λd=>
 again d.2.2
def pT(fu:Nat)(again:(za×Bool)->Option za)(a:za×Bool):Option za:=
 if a.2 then
  (ir fu a.1).bind λb=>
  again (b.2.2,b.2.1)
 else
  some a.1
def kz(fu:Nat)(p0:za)(p1:List Int):Option (Int×za):=
 (dW p0.QX).bind λb=>
 (jI (pS fu p1) (λ(c:za)=>c) (p1).length 0 p0).bind λd=>
 (loop (pT fu) fu (d,true)).bind λa=>
 (dW a.QX).bind λe=>
 some (w64 (e-b),a)
def zK(p0:List zk):Option (List zk):=
 (room (([]:List zk).length+p0.length) 48).bind λa=>
 some (([]:List zk)++p0)
def jU(p0:za)(p1:Int):Option (List zA):=
 if decide (p1<0)||decide (p1>=(p0.or.length:Int)) then some [] else
 (idx p0.or p1).bind λc=>(room (0+c.QR.length) 64).bind λ_=>(c.QR.foldlM (λ(_:Unit)a=>(zK a.Rs).bind λ_=>(zy a.Pairs).bind λ_=>some ()) ()).bind λ_=>some c.QR
def bU(p0:zo):Option (List Int):=
 (dJ p0 2).bind λa=>
 some a
def xC(p0:za):Option (List Int):=
 (bU p0.QX).bind λa=>
 some a
def cB(fu:Nat) :Option Bool:=
 (dV fu (zR.mk 1 1 1 1 ([(je.mk 0 2)])) ([[(zI.mk 0 (zh.mk 0 2 3 9) ([]:List zh) 0 0 0 (qO.mk 0 0) ([]:List Int)),(zI.mk 3 (zh.mk 0 0 0 0) ([]:List zh) 0 0 0 (qO.mk 7 0) ([]:List Int)),(zI.mk 10 (zh.mk 0 0 0 0) ([]:List zh) 0 0 0 (qO.mk 0 0) ([]:List Int))]])).bind λc=>
 ae c.1
  (some false)
  (λf=>
  if (c.2 !=0) then
   some false
  else
   (kz fu f ([]:List Int)).bind λa=>
   (jU a.2 0).bind λd=>
   (gH a.2 0).bind λb=>
   (xC a.2).bind λg=>
   (if (((d).length:Int)==3) then
    (idx d 1).bind λh=>
    if (h.N==1) then
     if (((b.1).length:Int)==1) then
      (idx b.1 0).bind λe=>
      if ((e.RH==3)&&((e.Rz==9)&&true)) then
       if (b.2==0) then
        some (((g).length:Int)==3)
       else
        some false
      else
       some false
     else
      some false
    else
     some false
   else
    some false).bind λj=>
   some j)
def aD(p0:zR):Option zR:=
 (room (([]:List je).length+p0.Maps.length) 16).bind λa=>
 some {p0 with Maps:=(([]:List je)++p0.Maps)}
def vM(p0:List (List zI))(d:Nat)(again:((List zI)×Int)->Option (List zI))(b:(List zI)×Int):Option (List zI):=
 (idx p0 (d:Int)).bind λc=>
 if decide (b.2<((c).length:Int)) then
  (idx c b.2).bind λa=>
  (room (([]:List zh).length+a.Rk.length) 32).bind λe=>
  (room (([]:List Int).length+a.Rf.length) 1).bind λf=>
  (room (b.1.length+([{a with Rk:=(([]:List zh)++a.Rk),Rf:=(([]:List Int)++a.Rf)}]).length) 128).bind λg=>
  again ((b.1++[{a with Rk:=(([]:List zh)++a.Rk),Rf:=(([]:List Int)++a.Rf)}]),w64 (b.2+1))
 else
  some b.1
abbrev yF:=List (List zI)
def bV(fu:Nat)(p0:List (List zI))(c:Nat)(again:yF->Option yF)(a:yF):Option yF:=
 (loop (vM p0 c) fu (([]:List zI),0)).bind λb=>
 (room (a.length+([b]).length) 24).bind λd=>
 again (a++[b])
def vN(fu:Nat)(p0:List (List zI)):Option yF:=
 (jI (bV fu p0) (λ(a:yF)=>a) (p0).length 0 ([]:List (List zI))).bind λb=>
 some b
def qv(p0:List zd):Option (List zd):=
 (room (([]:List zd).length+p0.length) 176).bind λa=>
 some (([]:List zd)++p0)
def cC(p0:za):Option (List zd):=
 (qv p0.Ri).bind λa=>
 some a
def dD(p0:List zd)(p1:List zd)(c:Nat)(again:Unit->Option (Unit⊕Bool))(d:Unit):Option (Unit⊕Bool):=
 (idx p0 (c:Int)).bind λa=>
 (idx p1 (c:Int)).bind λb=>
 if (!((a.Tz==b.Tz)&&((a.Te==b.Te)&&((a.RT==b.RT)&&((a.TH==b.TH)&&((a.SD==b.SD)&&((a.Ra==b.Ra)&&((a.Ry==b.Ry)&&((a.RM==b.RM)&&((a.Tb==b.Tb)&&((a.Pc==b.Pc)&&(((a.Item.Rv==b.Item.Rv)&&((a.Item.Op==b.Item.Op)&&((a.Item.RH==b.Item.RH)&&((a.Item.Rz==b.Item.Rz)&&true))))&&(((a.Rs.E==b.Rs.E)&&((a.Rs.Found==b.Rs.Found)&&((a.Rs.Rz==b.Rs.Rz)&&((a.Rs.Ti==b.Rs.Ti)&&((a.Rs.Sc==b.Rs.Sc)&&((a.Rs.Sd==b.Rs.Sd)&&true))))))&&((a.Rz==b.Rz)&&((a.E==b.E)&&true))))))))))))))) then
  some (.inr false)
 else
  again ()
def aY(p0:List zd)(p1:List zd):Option Bool:=
 if (((p0).length:Int) !=((p1).length:Int)) then
  some false
 else
  (jI (dD p0 p1) (λ(b:Unit)=>(.inl ())) (p0).length 0 ()).bind λa=>match a with
   |.inl c=>
    some true
   |.inr r=>some r
def xJ(c:Int×Bool×za)(b:(List zd))(again:Int->Option (Unit⊕Bool))(a:Int):Option (Unit⊕Bool):=
 if decide (a<((b).length:Int)) then
  (idx b a).bind λd=>
  if (d.Te !=c.1) then
   some (.inr false)
  else
   again (w64 (a+1))
 else
  some (.inl ())
def aE(c:(List Int))(a:Int×Bool×za)(b:Nat)(again:Unit->Option (Unit⊕Bool))(h:Unit):Option (Unit⊕Bool):=
 ((idx c (b:Int)).bind λd=>
 if (d==a.1) then
  if a.2.1 then
   some true
  else
   (xC a.2.2).bind λe=>
   some (decide ((b:Int)>=((e).length:Int)))
 else
  (xC a.2.2).bind λf=>
  some (decide ((b:Int)>=((f).length:Int)))).bind λg=>
 if g then
  some (.inr false)
 else
  again ()
def aF(a:Int×Bool×za)(b:Nat)(again:Int->Option Int)(c:Int):Option Int:=
 (jU a.2.2 (b:Int)).bind λd=>
 again (w64 (c+((d).length:Int)))
def xK(fu:Nat)(p0:jk)(again:(za×(List zd)×Int×Int)->Option (Unit⊕Bool))(a:za×(List zd)×Int×Int):Option (Unit⊕Bool):=
 if (decide (a.2.2.2<((p0.Se).length:Int))&&decide (a.2.2.2<400)) then
  (xC a.1).bind λe=>
  (idx p0.Se a.2.2.2).bind λf=>
  (bu fu a.1 f).bind λb=>
  (cC b.2.2).bind λc=>
  (if decide (((c).length:Int)<((a.2.1).length:Int)) then
   some true
  else
   (cut c 0 ((a.2.1).length:Int)).bind λg=>
   (aY g a.2.1).bind λh=>
   if (!h) then
    some true
   else
    if (!b.2.1) then
     some (((c).length:Int) !=((a.2.1).length:Int))
    else
     some false).bind λj=>
  if j then
   some (.inr false)
  else
   (loop (xJ b c) fu ((a.2.1).length:Int)).bind λl=>match l with
    |.inl v=>
     (jI (aE e b) (λ(z:Unit)=>(.inl ())) (e).length 0 ()).bind λn=>match n with
      |.inl A=>
       (jI (aF b) (λ(q:Int)=>q) (p0.RK).length 0 0).bind λd=>
       if (decide (d<a.2.2.1)||decide (d>(w64 (a.2.2.1+1)))) then
        some (.inr false)
       else
        again (b.2.2,c,d,w64 (a.2.2.2+1))
      |.inr r=>some (.inr r)
    |.inr r=>some (.inr r)
 else
  some (.inl ())
def jV(fu:Nat)(p0:jk):Option Bool:=
 (cB fu).bind λc=>
 if (!c) then
  some false
 else
  (aD p0.C).bind λd=>
  (vN fu p0.RK).bind λe=>
  (dV fu d e).bind λa=>
  ae a.1
   (some (a.2 !=0))
   (λb=>
   if (a.2 !=0) then
    some false
   else
    (cC b).bind λf=>
    (loop (xK fu p0) fu (b,f,0,0)).bind λg=>match g with
     |.inl h=>
      some true
     |.inr r=>some r)
end Go.Proofs.YtplmgfkghomelaaGreatDoor
