/- Lemmas. -/
import Derived.Test.YtplmgfkghomelaaGreatDoorIns
set_option linter.unusedVariables false
set_option linter.unusedSimpArgs false
namespace Go.Proofs.YtplmgfkghomelaaGreatDoor
open Go.Sx
structure zD where
 TC:Int
 in_:List Int
def C4:Rp (List Int):=mU 3 (zx .i64) 1 (λ_=>rfl) (by decide)
def oj:Rp zD:=qL (λ(x:zD)vs=>[.int .i64 x.TC,vs.getD 0 undef]) 2 (λ_ _=>rfl) (λx=>x.in_) (C4)
def eH:Rp zD:=vC 231 oj
structure qv where
 A:Int
 B:Int
def ol(x:qv):List Value:=[.int .u64 x.A,.int .u64 x.B]
structure zY where
 N:Int
 Sz:qv
def xA(x:zY):List Value:=[.int .i64 x.N,.int .u64 x.Sz.A,.int .u64 x.Sz.B]
structure zV where
 Td:Int
 Ta:Int
 TJ:Int
 Ti:Int
 Tp:Int
def vJ(x:zV):List Value:=[.int .i64 x.Td,.int .i64 x.Ta,.int .i64 x.TJ,.int .i64 x.Ti,.int .i64 x.Tp]
structure zq where
 room:Int
 Tu:Bool
 waiting:List zY
 counts:zV
def O5:Rp (List zY):=mU 193 (xA) 3 (λ_=>rfl) (by decide)
def pX(fx:Value):Rp zq:=qL (λ(x:zq)vs=>[fx,.int .i64 x.room,.bool x.Tu,vs.getD 0 undef,.int .i64 x.counts.Td,.int .i64 x.counts.Ta,.int .i64 x.counts.TJ,.int .i64 x.counts.Ti,.int .i64 x.counts.Tp]) 9 (λ_ _=>rfl) (λx=>x.waiting) (O5)
def cM(fx:Value):Rp zq:=vC 178 (pX fx)
structure xB where
 last:Int
structure xf where
 SA:Int
 prog:Int
def gF(x:xf):List Value:=[.int .i64 x.SA,.int .i64 x.prog]
structure zy where
 SH:xB
 Sh:List xf
structure zZ where
 maps:Int
 held:List (Int×(List Int))
structure zf where
 Op:Int
 D:Int
 A:Int
 B:Int
 SU:Int
def qd(x:zf):List Value:=[.int .i64 x.Op,.int .i64 x.D,.int .i64 x.A,.int .i64 x.B,.int .i64 x.SU]
structure zC where
 Maps:List Int
 Code:List zf
structure zT where
 module:zC
 SR:Int
structure zb where
 Sr:zy
 Tl:zZ
 Sq:zD
 Sh:Int
 maps:Int
 given:Int
 Su:List (Int×zT)
 waiting:List Int
structure qw where
 Si:Int
 Tz:Int
def om(x:qw):List Value:=[.int .i64 x.Si,.int .i64 x.Tz]
structure zo where
 Sd:List qw
 LE:Int
structure jL where
 RZ:Int
 Ur:Int
def xe(x:jL):List Value:=[.int .i64 x.RZ,.int .i64 x.Ur]
structure zH where
 Sa:Int
 Sf:Int
 Sj:Int
 SS:Int
 Maps:List jL
structure zg where
 SO:Int
 Op:Int
 Tc:Int
 SV:Int
def qj(x:zg):List Value:=[.int .i64 x.SO,.int .i64 x.Op,.int .u64 x.Tc,.int .u64 x.SV]
structure zK where
 RZ:Int
 Item:zg
 SI:List zg
 SO:Int
 SJ:Int
 Tf:Int
 Sz:qv
 SC:List Int
structure zk where
 E:Int
 Found:Bool
 SV:Int
 Uv:Bool
 TD:Int
 TE:Int
def qc(x:zk):List Value:=[.int .i64 x.E,.bool x.Found,.int .u64 x.SV,.bool x.Uv,.int .u64 x.TD,.int .u64 x.TE]
structure zr where
 Tc:Int
 SV:Int
def zL(x:zr):List Value:=[.int .u64 x.Tc,.int .u64 x.SV]
structure zA where
 E:Int
 N:Int
 SQ:List zk
 Pairs:List zr
structure ze where
 Sw:List zK
 SB:Int
 waits:Bool
 Sl:Int
 Id:zA
 parts:List (List zr)
 Sm:List zA
structure qQ where
 Sy:Nat->Int
structure jq where
 counts:Nat->Int
structure zl where
 Tb:qQ
 SF:jq
def xo(x:zl):List Value:=[.int .u64 (x.Tb.Sy 0),.int .u64 (x.Tb.Sy 1),.int .u64 (x.Tb.Sy 2),.int .u64 (x.Tb.Sy 3),.int .u64 (x.Tb.Sy 4),.int .u64 (x.Tb.Sy 5),.int .u64 (x.Tb.Sy 6),.int .u64 (x.Tb.Sy 7),.int .u64 (x.Tb.Sy 8),.int .u64 (x.Tb.Sy 9),.int .u64 (x.Tb.Sy 10),.int .u64 (x.Tb.Sy 11),.int .u64 (x.Tb.Sy 12),.int .u64 (x.Tb.Sy 13),.int .u64 (x.Tb.Sy 14),.int .u64 (x.Tb.Sy 15),.int .u64 (x.SF.counts 0),.int .u64 (x.SF.counts 1),.int .u64 (x.SF.counts 2),.int .u64 (x.SF.counts 3),.int .u64 (x.SF.counts 4),.int .u64 (x.SF.counts 5),.int .u64 (x.SF.counts 6),.int .u64 (x.SF.counts 7),.int .u64 (x.SF.counts 8),.int .u64 (x.SF.counts 9),.int .u64 (x.SF.counts 10),.int .u64 (x.SF.counts 11),.int .u64 (x.SF.counts 12),.int .u64 (x.SF.counts 13),.int .u64 (x.SF.counts 14),.int .u64 (x.SF.counts 15)]
structure zN where
 Ud:Int
 Ts:Int
 TN:Int
 Calls:Int
 Sum:Int
def qY(x:zN):List Value:=[.int .u64 x.Ud,.int .u64 x.Ts,.int .u64 x.TN,.int .u64 x.Calls,.int .u64 x.Sum]
structure zR where
 Sh:Nat->zN
def dR(x:zR):List Value:=[.int .u64 (x.Sh 0).Ud,.int .u64 (x.Sh 0).Ts,.int .u64 (x.Sh 0).TN,.int .u64 (x.Sh 0).Calls,.int .u64 (x.Sh 0).Sum,.int .u64 (x.Sh 1).Ud,.int .u64 (x.Sh 1).Ts,.int .u64 (x.Sh 1).TN,.int .u64 (x.Sh 1).Calls,.int .u64 (x.Sh 1).Sum,.int .u64 (x.Sh 2).Ud,.int .u64 (x.Sh 2).Ts,.int .u64 (x.Sh 2).TN,.int .u64 (x.Sh 2).Calls,.int .u64 (x.Sh 2).Sum,.int .u64 (x.Sh 3).Ud,.int .u64 (x.Sh 3).Ts,.int .u64 (x.Sh 3).TN,.int .u64 (x.Sh 3).Calls,.int .u64 (x.Sh 3).Sum]
structure zp where
 Sz:qv
 module:zC
 regs:Nat->Int
 LE:Nat->Int
 SB:Int
 steps:Int
 state:Int
structure bu where
 hook:Int
 SP:zY
 SA:Int
 prog:Int
 calls:Int
 TR:Option zp
structure zm where
 SX:zl
 Tm:zR
 Si:Int
 SL:bu
structure zE where
 RY:zm
 SN:Int
 pc:Int
 Tw:Option zk
 Sk:Bool
structure qp where
 cap:Int
 Sc:List zr
structure qB where
 Tq:qp
 Tx:List Int
abbrev qo:Type:=qp⊕qB
structure zt where
 Tt:Int
 TT:Int
 TB:Bool
 Item:zg
def qM(x:zt):List Value:=[.int .i64 x.Tt,.int .i64 x.TT,.bool x.TB,.int .i64 x.Item.SO,.int .i64 x.Item.Op,.int .u64 x.Item.Tc,.int .u64 x.Item.SV]
structure zc where
 TA:Int
 Te:Int
 maps:List qo
 Se:List zt
 Sk:Bool
structure zB where
 SG:Int
 cmd:zK
 TK:Int
structure zd where
 Ty:Int
 Uk:Int
 Tt:Int
 UM:Int
 TT:Int
 Sz:Int
 SJ:Int
 Tf:Int
 UC:Int
 Pc:Int
 Item:zg
 SQ:zk
 SV:Int
 E:Int
def zF(x:zd):List Value:=[.int .i64 x.Ty,.int .i64 x.Uk,.int .i64 x.Tt,.int .i64 x.UM,.int .i64 x.TT,.int .i64 x.Sz,.int .i64 x.SJ,.int .i64 x.Tf,.int .i64 x.UC,.int .i64 x.Pc,.int .i64 x.Item.SO,.int .i64 x.Item.Op,.int .u64 x.Item.Tc,.int .u64 x.Item.SV,.int .i64 x.SQ.E,.bool x.SQ.Found,.int .u64 x.SQ.SV,.bool x.SQ.Uv,.int .u64 x.SQ.TD,.int .u64 x.SQ.TE,.int .u64 x.SV,.int .i64 x.E]
structure zJ where
 last:Int
def dv(x:zJ):List Value:=[.int .i64 x.last]
structure za where
 Fd:zb
 Sn:zo
 Sv:zH
 or:List ze
 LT:List zE
 Fn:List zc
 RX:List zq
 Se:List zB
 held:List zB
 Sg:Int
 closed:Bool
 over:Bool
 SE:List zd
 SK:zJ
def O6:Rp (List xf):=mU 294 (gF) 2 (λ_=>rfl) (by decide)
def pY:Rp zy:=qL (λ(x:zy)vs=>[.int .i64 x.SH.last,vs.getD 0 undef]) 2 (λ_ _=>rfl) (λx=>x.Sh) (O6)
def ay:Rp zy:=vC 229 pY
def O7:Rp (List (Int×(List Int))):=Jc C4
def ni:Rp zZ:=qL (λ(x:zZ)vs=>[.int .i64 x.maps,vs.getD 0 undef]) 2 (λ_ _=>rfl) (λx=>x.held) (O7)
def iX:Rp zZ:=vC 223 ni
def O8:Rp (List zf):=mU 160 (qd) 5 (λ_=>rfl) (by decide)
def lP:Rp zT:=qL (λ(x:zT)vs=>[vs.getD 0 undef,vs.getD 1 undef,.int .i64 x.SR]) 3 (λ_ _=>rfl) (λx=>(x.module.Maps,x.module.Code)) (jp C4 O8)
def lQ:Rp zT:=vC 299 lP
def O9:Rp (List (Int×zT)):=Jc lQ
def vm:Rp zb:=qL (λ(x:zb)vs=>[vs.getD 0 undef,vs.getD 1 undef,vs.getD 2 undef,.int .i64 x.Sh,.int .i64 x.maps,.int .i64 x.given,vs.getD 3 undef,vs.getD 4 undef]) 8 (λ_ _=>rfl) (λx=>(x.Sr,(x.Tl,(x.Sq,(x.Su,x.waiting))))) (jp ay (jp iX (jp eH (jp O9 C4))))
def bL:Rp zb:=vC 169 vm
def Pb:Rp (List qw):=mU 210 (om) 2 (λ_=>rfl) (by decide)
def fq:Rp zo:=qL (λ(x:zo)vs=>[vs.getD 0 undef,.int .i64 x.LE]) 2 (λ_ _=>rfl) (λx=>x.Sd) (Pb)
def xx:Rp zo:=vC 203 fq
def Pd:Rp (List zg):=mU 46 (qj) 4 (λ_=>rfl) (by decide)
def Pe:Rp (List Int):=uq 5 (zx .u8) 1 (λ_=>rfl) (by decide)
def nD:Rp zK:=qL (λ(x:zK)vs=>[.int .i64 x.RZ,.int .i64 x.Item.SO,.int .i64 x.Item.Op,.int .u64 x.Item.Tc,.int .u64 x.Item.SV,vs.getD 0 undef,.int .i64 x.SO,.int .i64 x.SJ,.int .i64 x.Tf,.int .u64 x.Sz.A,.int .u64 x.Sz.B,vs.getD 1 undef]) 12 (λ_ _=>rfl) (λx=>(x.SI,x.SC)) (jp Pd Pe)
def wu:Rp (List zK):=kH 71 nD (by decide)
def MT:Rp (List zk):=mU 48 (qc) 6 (λ_=>rfl) (by decide)
def sM:Rp (List zr):=mU 86 (zL) 2 (λ_=>rfl) (by decide)
def L3:Rp (List (List zr)):=kH 76 sM (by decide)
def mW:Rp zA:=qL (λ(x:zA)vs=>[.int .i64 x.E,.int .i64 x.N,vs.getD 0 undef,vs.getD 1 undef]) 4 (λ_ _=>rfl) (λx=>(x.SQ,x.Pairs)) (jp MT sM)
def Pf:Rp (List zA):=kH 96 mW (by decide)
def aO(wb:World)(Sb:List Nat):Rp ze:=qL (λ(x:ze)vs=>[vs.getD 0 undef,.int .i64 x.SB,.bool x.waits,.int .i64 x.Sl,.int .i64 x.Id.E,.int .i64 x.Id.N,vs.getD 1 undef,vs.getD 2 undef,vs.getD 3 undef,vs.getD 4 undef]) 10 (λ_ _=>rfl) (λx=>(x.Sw,(x.Id.SQ,(x.Id.Pairs,(x.parts,x.Sm))))) (jp (rdP (wu) wb Sb) (jp MT (jp sM (jp L3 Pf))))
def lS(wb:World)(Sb:List Nat):Rp ze:=vC 135 (aO wb Sb)
def L4(wb:World)(Sb:List Nat):Rp (List ze):=kH 131 (lS wb Sb) (q8 rfl)
def Pg:Rp zl:=rL (xo) 32 (λ_=>rfl)
def io:Rp zl:=vC 244 Pg
def Ph:Rp zR:=rL (dR) 20 (λ_=>rfl)
def gG:Rp zR:=vC 247 Ph
def vy(fx:Value):Rp zp:=qL (λ(x:zp)vs=>[.int .u64 x.Sz.A,.int .u64 x.Sz.B,vs.getD 0 undef,vs.getD 1 undef,fx,.int .u64 (x.regs 0),.int .u64 (x.regs 1),.int .u64 (x.regs 2),.int .u64 (x.regs 3),.int .u64 (x.regs 4),.int .u64 (x.regs 5),.int .u64 (x.regs 6),.int .u64 (x.regs 7),.int .i64 (x.LE 0),.int .i64 (x.LE 1),.int .i64 (x.LE 2),.int .i64 (x.LE 3),.int .i64 (x.LE 4),.int .i64 (x.LE 5),.int .i64 (x.LE 6),.int .i64 (x.LE 7),.int .i64 (x.LE 8),.int .i64 (x.LE 9),.int .i64 (x.LE 10),.int .i64 (x.LE 11),.int .i64 (x.LE 12),.int .i64 (x.LE 13),.int .i64 (x.LE 14),.int .i64 (x.LE 15),.int .i64 (x.LE 16),.int .i64 (x.LE 17),.int .i64 (x.LE 18),.int .i64 (x.LE 19),.int .i64 (x.LE 20),.int .i64 (x.LE 21),.int .i64 (x.LE 22),.int .i64 (x.LE 23),.int .i64 (x.LE 24),.int .i64 (x.LE 25),.int .i64 (x.LE 26),.int .i64 (x.LE 27),.int .i64 (x.LE 28),.int .i64 (x.LE 29),.int .i64 (x.LE 30),.int .i64 (x.LE 31),.int .i64 (x.LE 32),.int .i64 (x.LE 33),.int .i64 (x.LE 34),.int .i64 (x.LE 35),.int .i64 (x.LE 36),.int .i64 (x.LE 37),.int .i64 (x.LE 38),.int .i64 (x.LE 39),.int .i64 (x.LE 40),.int .i64 (x.LE 41),.int .i64 (x.LE 42),.int .i64 (x.LE 43),.int .i64 (x.LE 44),.int .i64 (x.LE 45),.int .i64 (x.LE 46),.int .i64 (x.LE 47),.int .i64 (x.LE 48),.int .i64 (x.LE 49),.int .i64 (x.LE 50),.int .i64 (x.LE 51),.int .i64 (x.LE 52),.int .i64 (x.LE 53),.int .i64 (x.LE 54),.int .i64 (x.LE 55),.int .i64 (x.LE 56),.int .i64 (x.LE 57),.int .i64 (x.LE 58),.int .i64 (x.LE 59),.int .i64 (x.LE 60),.int .i64 (x.LE 61),.int .i64 (x.LE 62),.int .i64 (x.LE 63),.int .i64 x.SB,.int .i64 x.steps,.int .i64 x.state]) 80 (λ_ _=>rfl) (λx=>(x.module.Maps,x.module.Code)) (jp C4 O8)
def eI:Rp zm:=qL (λ(x:zm)vs=>[vs.getD 0 undef,vs.getD 1 undef,.int .i64 x.Si,.int .i64 x.SL.hook,.int .i64 x.SL.SP.N,.int .u64 x.SL.SP.Sz.A,.int .u64 x.SL.SP.Sz.B,.int .i64 x.SL.SA,.int .i64 x.SL.prog,.int .u64 x.SL.calls,vs.getD 2 undef]) 11 (λ_ _=>rfl) (λx=>(x.SX,x.Tm,x.SL.TR)) (Qh io gG (λfx=>(AD 330 (vy fx))) 1 (λ_=>rfl))
def ft:Rp zm:=vC 198 eI
def dS:Rp zE:=qL (λ(x:zE)vs=>[vs.getD 0 undef,.int .i64 x.SN,.int .i64 x.pc,vs.getD 1 undef,.bool x.Sk]) 5 (λ_ _=>rfl) (λx=>(x.RY,x.Tw)) (jp ft (Kf 268 qc))
def ip:Rp zE:=vC 130 dS
def L5:Rp (List zE):=kH 125 ip (by decide)
def nj:Rp qp:=qL (λ(x:qp)vs=>[.int .i64 x.cap,vs.getD 0 undef]) 2 (λ_ _=>rfl) (λx=>x.Sc) (sM)
def az:Rp qp:=vC 280 nj
def Pi:Rp (List Int):=mU 44 (zx .u64) 1 (λ_=>rfl) (by decide)
def oq:Rp qB:=qL (λ(x:qB)vs=>[vs.getD 0 undef,vs.getD 1 undef]) 2 (λ_ _=>rfl) (λx=>(x.Tq,x.Tx)) (jp az Pi)
def dd:Rp qB:=vC 283 oq
def fv:Rp qo:=M4 (GX 232 az) (GX 235 dd) rfl rfl
def Pj:Rp (List qo):=kH 184 fv (by decide)
def Pk:Rp (List zt):=mU 286 (qM) 7 (λ_=>rfl) (by decide)
def eJ:Rp zc:=qL (λ(x:zc)vs=>[.int .i64 x.TA,.int .i64 x.Te,vs.getD 0 undef,vs.getD 1 undef,.bool x.Sk]) 5 (λ_ _=>rfl) (λx=>(x.maps,x.Se)) (jp Pj Pk)
def xz:Rp zc:=vC 182 eJ
def L6:Rp (List zc):=kH 122 xz (by decide)
def L7(fx:Value):Rp (List zq):=kH 119 (cM fx) (q8 rfl)
def gH(wb:World)(Sb:List Nat):Rp zB:=qL (λ(x:zB)vs=>[.int .i64 x.SG,.int .i64 x.cmd.RZ,.int .i64 x.cmd.Item.SO,.int .i64 x.cmd.Item.Op,.int .u64 x.cmd.Item.Tc,.int .u64 x.cmd.Item.SV,vs.getD 0 undef,.int .i64 x.cmd.SO,.int .i64 x.cmd.SJ,.int .i64 x.cmd.Tf,.int .u64 x.cmd.Sz.A,.int .u64 x.cmd.Sz.B,vs.getD 1 undef,.int .i64 x.TK]) 14 (λ_ _=>rfl) (λx=>(x.cmd.SI,x.cmd.SC)) (jp (Hl wb Sb (qj) 4) (Hl wb Sb (zx .u8) 1))
def Ht(wb:World)(Sb:List Nat):Rp (List zB):=kH 272 (gH wb Sb) (q8 rfl)
def Pm:Rp (List zd):=mU 50 (zF) 22 (λ_=>rfl) (by decide)
def Po:Rp zJ:=rL (dv) 1 (λ_=>rfl)
def dT:Rp zJ:=vC 118 Po
def qF(wb:World)(Sb:List Nat):Rp za:=qL (λ(x:za)vs=>[vs.getD 0 undef,vs.getD 1 undef,.int .i64 x.Sv.Sa,.int .i64 x.Sv.Sf,.int .i64 x.Sv.Sj,.int .i64 x.Sv.SS,vs.getD 2 undef,vs.getD 3 undef,vs.getD 4 undef,vs.getD 5 undef,vs.getD 6 undef,vs.getD 7 undef,vs.getD 8 undef,.int .i64 x.Sg,.bool x.closed,.bool x.over,vs.getD 9 undef]) 17 (λ_ _=>rfl) (λx=>(x.SK,(x.Fd,(x.Sn,(x.Sv.Maps,(x.or,(x.LT,(x.Fn,(x.RX,(x.Se,(x.held,x.SE))))))))))) (M3 dT (λfx=>jp bL (jp xx (jp (L8 jL) (jp (L4 wb Sb) (jp L5 (jp L6 (jp (L7 fx) (jp (Ht wb Sb) (jp (Ht wb Sb) Pm))))))))) 10 (λ_=>rfl))
def jM(wb:World)(Sb:List Nat):Rp za:=vC 115 (qF wb Sb)
def QJ:Rp zk:=rL (qc) 6 (λ_=>rfl)
def wv:Rp ze:=qL (λ(x:ze)vs=>[vs.getD 0 undef,.int .i64 x.SB,.bool x.waits,.int .i64 x.Sl,.int .i64 x.Id.E,.int .i64 x.Id.N,vs.getD 1 undef,vs.getD 2 undef,vs.getD 3 undef,vs.getD 4 undef]) 10 (λ_ _=>rfl) (λx=>(x.Sw,(x.Id.SQ,(x.Id.Pairs,(x.parts,x.Sm))))) (jp wu (jp MT (jp sM (jp L3 Pf))))
def iH:Rp ze:=vC 135 wv
def ww:Rp zB:=qL (λ(x:zB)vs=>[.int .i64 x.SG,.int .i64 x.cmd.RZ,.int .i64 x.cmd.Item.SO,.int .i64 x.cmd.Item.Op,.int .u64 x.cmd.Item.Tc,.int .u64 x.cmd.Item.SV,vs.getD 0 undef,.int .i64 x.cmd.SO,.int .i64 x.cmd.SJ,.int .i64 x.cmd.Tf,.int .u64 x.cmd.Sz.A,.int .u64 x.cmd.Sz.B,vs.getD 1 undef,.int .i64 x.TK]) 14 (λ_ _=>rfl) (λx=>(x.cmd.SI,x.cmd.SC)) (jp Pd Pe)
def Hu:Rp (List ze):=kH 131 iH (by decide)
def C5:Rp (List zB):=kH 272 ww (by decide)
def C6:Rp za:=qL (λ(x:za)vs=>[vs.getD 0 undef,vs.getD 1 undef,.int .i64 x.Sv.Sa,.int .i64 x.Sv.Sf,.int .i64 x.Sv.Sj,.int .i64 x.Sv.SS,vs.getD 2 undef,vs.getD 3 undef,vs.getD 4 undef,vs.getD 5 undef,vs.getD 6 undef,vs.getD 7 undef,vs.getD 8 undef,.int .i64 x.Sg,.bool x.closed,.bool x.over,vs.getD 9 undef]) 17 (λ_ _=>rfl) (λx=>(x.SK,(x.Fd,(x.Sn,(x.Sv.Maps,(x.or,(x.LT,(x.Fn,(x.RX,(x.Se,(x.held,x.SE))))))))))) (M3 dT (λfx=>jp bL (jp xx (jp (L8 jL) (jp Hu (jp L5 (jp L6 (jp (L7 fx) (jp C5 (jp C5 Pm))))))))) 10 (λ_=>rfl))
def Pp:Rp za:=vC 115 C6
structure je where
 name:ByteArray
 SZ:ByteArray
def zW(x:je):List Value:=[.string x.name,.string x.SZ]
def xE:List je:=[(je.mk (⟨[115,101,116].toArray⟩) (⟨[100,115].toArray⟩)),
 (je.mk (⟨[97,100,100].toArray⟩) (⟨[100,97,115].toArray⟩)),
 (je.mk (⟨[115,117,98].toArray⟩) (⟨[100,97,115].toArray⟩)),
 (je.mk (⟨[109,117,108].toArray⟩) (⟨[100,97,115].toArray⟩)),
 (je.mk (⟨[100,105,118].toArray⟩) (⟨[100,97,115].toArray⟩)),
 (je.mk (⟨[114,101,109].toArray⟩) (⟨[100,97,115].toArray⟩)),
 (je.mk (⟨[97,110,100].toArray⟩) (⟨[100,97,115].toArray⟩)),
 (je.mk (⟨[111,114].toArray⟩) (⟨[100,97,115].toArray⟩)),
 (je.mk (⟨[120,111,114].toArray⟩) (⟨[100,97,115].toArray⟩)),
 (je.mk (⟨[115,104,108].toArray⟩) (⟨[100,97,115].toArray⟩)),
 (je.mk (⟨[115,104,114].toArray⟩) (⟨[100,97,115].toArray⟩)),
 (je.mk (⟨[108,111,97,100].toArray⟩) (⟨[100,115].toArray⟩)),
 (je.mk (⟨[115,116,111,114,101].toArray⟩) (⟨[97,115].toArray⟩)),
 (je.mk (⟨[102,105,101,108,100].toArray⟩) (⟨[100,102].toArray⟩)),
 (je.mk (⟨[109,97,112].toArray⟩) (⟨[100,109].toArray⟩)),
 (je.mk (⟨[106,117,109,112].toArray⟩) (⟨[106].toArray⟩)),
 (je.mk (⟨[106,101,113].toArray⟩) (⟨[106,97,115].toArray⟩)),
 (je.mk (⟨[106,110,101].toArray⟩) (⟨[106,97,115].toArray⟩)),
 (je.mk (⟨[106,108,116].toArray⟩) (⟨[106,97,115].toArray⟩)),
 (je.mk (⟨[106,103,101].toArray⟩) (⟨[106,97,115].toArray⟩)),
 (je.mk (⟨[108,111,111,112].toArray⟩) (⟨[98,97,110].toArray⟩)),
 (je.mk (⟨[99,97,108,108].toArray⟩) (⟨[104].toArray⟩)),
 (je.mk (⟨[101,120,105,116].toArray⟩) (⟨[97].toArray⟩))]
structure qA where
 Tr:Int
 At:Int
 TL:Int
def xY(x:qA):List Value:=[.int .i64 x.Tr,.int .i64 x.At,.int .i64 x.TL]
structure zh where
 Lo:Int
 Hi:Int
def dL(x:zh):List Value:=[.int .u64 x.Lo,.int .u64 x.Hi]
structure zi where
 RZ:Int
 SD:zh
 SO:Int
def zu(x:zi):List Value:=[.int .i64 x.RZ,.int .u64 x.SD.Lo,.int .u64 x.SD.Hi,.int .i64 x.SO]
structure zj where
 SC:zC
 came:List (Nat->zi)
 any:List Bool
 loops:List qA
def Pq:Rp (List (Nat->zi)):=mU 379 (eG (zu) 8) 32 (λ_=>rfl) (by decide)
def Pr:Rp (List Bool):=mU 4 (iO) 1 (λ_=>rfl) (by decide)
def Pt:Rp (List qA):=mU 400 (xY) 3 (λ_=>rfl) (by decide)
def dM(wb:World)(Sb:List Nat):Rp zj:=qL (λ(x:zj)vs=>[vs.getD 0 undef,vs.getD 1 undef,vs.getD 2 undef,vs.getD 3 undef,vs.getD 4 undef]) 5 (λ_ _=>rfl) (λx=>(x.SC.Maps,(x.SC.Code,(x.came,(x.any,x.loops))))) (jp (Hl wb Sb (zx .i64) 1) (jp (Hl wb Sb (qd) 5) (jp Pq (jp Pr Pt))))
def de(wb:World)(Sb:List Nat):Rp zj:=vC 370 (dM wb Sb)
structure bE where
 name:ByteArray
 Ub:ByteArray
 most:Int
 asks:Int
 TS:Bool
def qk(x:bE):List Value:=[.string x.name,.string x.Ub,.int .u64 x.most,.int .i64 x.asks,.bool x.TS]
def ae:List bE:=[(bE.mk (⟨[103,101,116].toArray⟩) (⟨[104,110].toArray⟩) 18446744073709551615 0 true),
 (bE.mk (⟨[104,97,115].toArray⟩) (⟨[104,110].toArray⟩) 1 1 true),
 (bE.mk (⟨[112,117,116].toArray⟩) (⟨[104,110,110].toArray⟩) 1 2 true),
 (bE.mk (⟨[100,101,108].toArray⟩) (⟨[104,110].toArray⟩) 1 3 true),
 (bE.mk (⟨[97,100,100].toArray⟩) (⟨[104,110,110].toArray⟩) 18446744073709551615 4 true),
 (bE.mk (⟨[109,97,114,107].toArray⟩) (⟨[115].toArray⟩) 18446744073709551615 0 false),
 (bE.mk (⟨[110,111,116,101].toArray⟩) (⟨[110].toArray⟩) 0 0 false)]
def lx(fx:Value):Rp zp:=vC 330 (vy fx)
structure qZ where
 RZ:Int
 Pc:Int
 Item:zg
 SV:Int
def ot:Rp zk:=vC 48 QJ
structure bM where
 To:Int
 TT:Int
 TB:Bool
 Item:zg
 SQ:zk
 Pairs:List zr
structure zw where
 b:List Int
 SB:Int
 field:Int
 e:Int
def bF(wb:World)(Sb:List Nat):Rp zw:=qL (λ(x:zw)vs=>[vs.getD 0 undef,.int .i64 x.SB,.int .i64 x.field,.int .i64 x.e]) 4 (λ_ _=>rfl) (λx=>x.b) ((Hl wb Sb (zx .u8) 1))
def eK(wb:World)(Sb:List Nat):Rp zw:=vC 155 (bF wb Sb)
structure qq where
 C:zH
 SM:List (List zK)
 Tj:List Int
theorem MU:Cv wv (λwb Sb=>aO wb Sb):=Cv.struct (x2 (Cv.bor _) (x2 (Cv.refl _) (x2 (Cv.refl _) (x2 (Cv.refl _) (Cv.refl _)))))
theorem MV:Cv iH (λwb Sb=>lS wb Sb):=Cv.ptr MU
theorem MW:Cv Hu (λwb Sb=>L4 wb Sb):=Cv.rowN MV
theorem MX:Cv ww (λwb Sb=>gH wb Sb):=Cv.struct (x2 Cv.row (Cv.rowF))
theorem Hv:Cv C5 (λwb Sb=>Ht wb Sb):=Cv.rowN MX
theorem MY:Cv C6 (λwb Sb=>qF wb Sb):=Cv.struct (Cv.gho (λ_=>x2 (Cv.refl _) (x2 (Cv.refl _) (x2 (Cv.refl _) (x2 MW (x2 (Cv.refl _) (x2 (Cv.refl _) (x2 (Cv.refl _) (x2 Hv (x2 Hv (Cv.refl _)))))))))))
theorem Pu:Cv Pp (λwb Sb=>jM wb Sb):=Cv.ptr MY
def bv(p0:Int)(p1:Int):Option Bool:=
 some (p0==p1)
def aS(p0:List Int)(p1:Int)(a:Nat)(again:Unit->Option (Unit⊕Int))(c:Unit):Option (Unit⊕Int):=
 (idx p0 (a:Int)).bind λb=>
 if (p1==b) then
  some (.inr (a:Int))
 else
  again ()
def xg(p0:List Int)(p1:Int):Option Int:=
 (jN (aS p0 p1) (λ(b:Unit)=>(.inl ())) (p0).length 0 ()).bind λa=>match a with
  |.inl c=>
   some (-1)
  |.inr r=>some r
def qa(p0:List Int)(p1:Int):Option Bool:=
 (xg p0 p1).bind λa=>
 some (decide (a>=0))
def jk(p0:Int)(p1:List Int):Option Bool:=
 (qa p1 p0).bind λa=>
 some a
def gI(p0:zD)(p1:Int)(b:Nat)(again:Unit->Option (Unit⊕Bool))(c:Unit):Option (Unit⊕Bool):=
 (idx p0.in_ (b:Int)).bind λa=>
 if ((a !=0)&&decide (a<p1)) then
  some (.inr false)
 else
  again ()
def vD(p0:zD)(p1:Int):Option Bool:=
 ((room (p0.in_).length 1).bind λb=>
 jN (gI p0 p1) (λ(c:Unit)=>(.inl ())) (p0.in_).length 0 ()).bind λa=>match a with
  |.inl d=>
   some true
  |.inr r=>some r
def xM(p0:zq):Option zV:=
 some (zV.mk p0.counts.Td p0.counts.Ta p0.counts.TJ p0.counts.Ti ((p0.waiting).length:Int))
def cO(p0:za)(a:Nat)(again:Unit->Option (Unit⊕Bool))(d:Unit):Option (Unit⊕Bool):=
 (idx p0.RX (a:Int)).bind λb=>
 (xM b).bind λc=>
 if decide (c.Tp>0) then
  some (.inr true)
 else
  again ()
def vd(p0:za):Option Bool:=
 ((room (p0.RX).length 1).bind λb=>
 jN (cO p0) (λ(c:Unit)=>(.inl ())) (p0.RX).length 0 ()).bind λa=>match a with
  |.inl d=>
   some false
  |.inr r=>some r
def jO(p0:zm):Option Int:=
 some p0.Si
def cP(p0:za)(a:Nat)(again:Unit->Option (Unit⊕Bool))(d:Unit):Option (Unit⊕Bool):=
 (idx p0.LT (a:Int)).bind λb=>
 (jO b.RY).bind λc=>
 if (c !=0) then
  some (.inr false)
 else
  again ()
def aA(p0:za):Option Bool:=
 ((room (p0.LT).length 1).bind λb=>
 jN (cP p0) (λ(c:Unit)=>(.inl ())) (p0.LT).length 0 ()).bind λa=>match a with
  |.inl d=>
   some true
  |.inr r=>some r
def xm(p0:zB)(p1:za):Option Bool:=
 if (p0.cmd.RZ==8) then
  (vD p1.Fd.Sq p0.TK).bind λa=>
  some a
 else
  ((vd p1).bind λb=>
  if (!b) then
   (aA p1).bind λc=>
   some c
  else
   some false).bind λd=>
  some d
def cw(p0:zg)(p1:za):Option Bool:=
 (if decide (p0.SO<0) then
  some true
 else
  if decide (p0.SO>=((p1.Sv.Maps).length:Int)) then
   some true
  else
   if decide (p0.Op<0) then
    some true
   else
    some (decide (p0.Op>=5))).bind λa=>
 some a
def iY(p0:Int):Option ((Option zy)×Int):=
 if (decide (p0<1)||decide (p0>4)) then
  some (none,2)
 else
  (mkLen p0 16).bind λa=>
  some ((some (zy.mk (xB.mk 0) (List.replicate a (xf.mk 0 0)))),0)
def kM(p0:Int):Option ((Option zZ)×Int):=
 if (decide (p0<0)||decide (p0>4)) then
  some (none,2)
 else
  some ((some (zZ.mk p0 ([]:List (Int×(List Int))))),0)
def dU(p0:Int):Option ((Option zD)×Int):=
 if (decide (p0<1)||decide (p0>4)) then
  some (none,2)
 else
  (mkLen p0 8).bind λa=>
  some ((some (zD.mk 1 (List.replicate a 0))),0)
def bN(p0:Int)(p1:Int)(p2:Int):Option ((Option zb)×Int):=
 (iY p0).bind λa=>
 vB a.1
  ((kM p1).bind λb=>
  vB b.1
   ((dU p2).bind λd=>
   vB d.1
    (if (((a.2 !=0)||(b.2 !=0))||(d.2 !=0)) then
     some (none,2)
    else
     none)
    (λn=>
    if (((a.2 !=0)||(b.2 !=0))||(d.2 !=0)) then
     some (none,2)
    else
     none))
   (λq=>
   (dU p2).bind λe=>
   vB e.1
    (if (((a.2 !=0)||(b.2 !=0))||(e.2 !=0)) then
     some (none,2)
    else
     none)
    (λv=>
    if (((a.2 !=0)||(b.2 !=0))||(e.2 !=0)) then
     some (none,2)
    else
     none)))
  (λh=>
  (kM p1).bind λc=>
  vB c.1
   ((dU p2).bind λf=>
   vB f.1
    (if (((a.2 !=0)||(c.2 !=0))||(f.2 !=0)) then
     some (none,2)
    else
     none)
    (λz=>
    if (((a.2 !=0)||(c.2 !=0))||(f.2 !=0)) then
     some (none,2)
    else
     none))
   (λj=>
   (dU p2).bind λg=>
   vB g.1
    (if (((a.2 !=0)||(c.2 !=0))||(g.2 !=0)) then
     some (none,2)
    else
     none)
    (λl=>
    if (((a.2 !=0)||(c.2 !=0))||(g.2 !=0)) then
     some (none,2)
    else
     some ((some (zb.mk h j l p0 p1 0 ([]:List (Int×zT)) ([]:List Int))),0))))
def kN(p0:Int)(p1:zJ):Option ((Option zq)×Int):=
 if ((decide (p0<1)||decide (p0>16))||false) then
  some (none,2)
 else
  some ((some (zq.mk p0 false ([]:List zY) (zV.mk 0 0 0 0 0))),0)
def ir(p0:Int):Option ((Option qp)×Int):=
 if (decide (p0<1)||decide (p0>16)) then
  some (none,2)
 else
  some ((some (qp.mk p0 ([]:List zr))),0)
def pu(p0:Int):Option ((Option qB)×Int):=
 (ir p0).bind λa=>
 vB a.1
  (if (a.2 !=0) then
   some (none,a.2)
  else
   none)
  (λb=>
  if (a.2 !=0) then
   some (none,a.2)
  else
   some ((some (qB.mk b ([]:List Int))),0))
def dV(p0:jL):Option ((Option qo)×Int):=
 if (p0.RZ==0) then
  (ir p0.Ur).bind λa=>
  vB a.1
   (if (a.2==0) then
    none
   else
    some (none,2))
   (λc=>
   if (a.2==0) then
    some ((some (.inl c)),a.2)
   else
    some (none,2))
 else
  if (p0.RZ==1) then
   (pu p0.Ur).bind λb=>
   vB b.1
    (if (b.2==0) then
     none
    else
     some (none,2))
    (λd=>
    if (b.2==0) then
     some ((some (.inr d)),b.2)
    else
     some (none,2))
  else
   some (none,2)
def iu(p2:List jL)(d:Nat)(again:zc->Option (zc⊕((Option zc)×Int)))(b:zc):Option (zc⊕((Option zc)×Int)):=
 (idx p2 (d:Int)).bind λe=>
 (dV e).bind λa=>
 vB a.1
  (if (a.2 !=0) then
   some (.inr (none,a.2))
  else
   none)
  (λc=>
  if (a.2 !=0) then
   some (.inr (none,a.2))
  else
   (room (b.maps.length+([c]).length) 16).bind λf=>
   again {b with maps:=(b.maps++[c])})
def bO(p0:Int)(p1:Int)(p2:List jL):Option ((Option zc)×Int):=
 if ((((decide (p1<1)||decide (p1>4))||decide (p0<0))||decide (p0>=p1))||decide (((p2).length:Int)>4)) then
  some (none,2)
 else
  (jN (iu p2) (λ(a:zc)=>(.inl a)) (p2).length 0 (zc.mk p0 p1 ([]:List qo) ([]:List zt) false)).bind λb=>match b with
   |.inl c=>
    some ((some c),0)
   |.inr r=>some r
def nE :Option zl:=
 some (zl.mk (qQ.mk (λ_=>0)) (jq.mk (λ_=>0)))
def sN :Option zR:=
 some (zR.mk (λ_=>(zN.mk 0 0 0 0 0)))
def eN :Option zm:=
 nE.bind λa=>
 sN.bind λb=>
 some (zm.mk a b 0 (bu.mk 0 (zY.mk 0 (qv.mk 0 0)) 0 0 0 none))
def zG(p0:List zg):Option (List zg):=
 (room (([]:List zg).length+p0.length) 32).bind λa=>
 some (([]:List zg)++p0)
def qR(p0:List Int):Option (List Int):=
 (room (([]:List Int).length+p0.length) 1).bind λa=>
 some (([]:List Int)++p0)
def bP(p0:List zK):Option (List zK):=
 (room (0+p0.length) 128).bind λ_=>(p0.foldlM (λ(_:Unit)c=>(zG c.SI).bind λ_=>(qR c.SC).bind λ_=>some ()) ()).bind λ_=>some p0
def mJ(p0:Int):Option ((Option zo)×Int):=
 if (decide (p0<1)||decide (p0>64)) then
  some (none,2)
 else
  (mkLen p0 16).bind λa=>
  some ((some (zo.mk (List.replicate a (qw.mk 0 0)) 0)),0)
abbrev yA:=(Option za)×Int
def nF(p0:zH)(again:((List zq)×Int)->Option ((List zq)⊕yA))(a:(List zq)×Int):Option ((List zq)⊕yA):=
 if decide (a.2<p0.Sj) then
  (kN p0.SS (zJ.mk 0)).bind λb=>
  vB b.1
   (if (b.2 !=0) then
    some (.inr (none,b.2))
   else
    none)
   (λc=>
   if (b.2 !=0) then
    some (.inr (none,b.2))
   else
    (room (a.1.length+([c]).length) 8).bind λd=>
    again ((a.1++[c]),w64 (a.2+1)))
 else
  some (.inl a.1)
def nG(p0:zH)(again:((List zc)×Int)->Option ((List zc)⊕yA))(a:(List zc)×Int):Option ((List zc)⊕yA):=
 if decide (a.2<p0.Sf) then
  (bO a.2 p0.Sf p0.Maps).bind λb=>
  vB b.1
   (if (b.2 !=0) then
    some (.inr (none,b.2))
   else
    none)
   (λc=>
   if (b.2 !=0) then
    some (.inr (none,b.2))
   else
    (room (a.1.length+([c]).length) 8).bind λd=>
    again ((a.1++[c]),w64 (a.2+1)))
 else
  some (.inl a.1)
def kP(p0:zH)(again:((List zE)×Int)->Option (List zE))(a:(List zE)×Int):Option (List zE):=
 if decide (a.2<p0.Sa) then
  eN.bind λb=>
  (room (a.1.length+([(zE.mk b 0 0 none false)]).length) 8).bind λc=>
  again ((a.1++[(zE.mk b 0 0 none false)]),w64 (a.2+1))
 else
  some a.1
def nJ(p1:List (List zK))(d:Nat)(again:(List ze)->Option ((List ze)⊕yA))(a:(List ze)):Option ((List ze)⊕yA):=
 (idx p1 (d:Int)).bind λb=>
 if decide (((b).length:Int)>64) then
  some (.inr (none,11))
 else
  (bP b).bind λc=>
  (room (a.length+([(ze.mk c 0 false 0 (zA.mk 0 0 ([]:List zk) ([]:List zr)) ([]:List (List zr)) ([]:List zA))]).length) 8).bind λe=>
  again (a++[(ze.mk c 0 false 0 (zA.mk 0 0 ([]:List zk) ([]:List zr)) ([]:List (List zr)) ([]:List zA))])
def C7(p0:zH)(again:((List zq)×Int)->Option ((List zq)⊕yA))(a:(List zq)×Int):Option ((List zq)⊕yA):=
 if decide (a.2<p0.Sj) then
  (kN p0.SS (zJ.mk 0)).bind λb=>
  vB b.1
   (if (b.2 !=0) then
    some (.inr (none,b.2))
   else
    none)
   (λc=>
   if (b.2 !=0) then
    some (.inr (none,b.2))
   else
    (room (a.1.length+([c]).length) 8).bind λd=>
    again ((a.1++[c]),w64 (a.2+1)))
 else
  some (.inl a.1)
def C8(p0:zH)(again:((List zc)×Int)->Option ((List zc)⊕yA))(a:(List zc)×Int):Option ((List zc)⊕yA):=
 if decide (a.2<p0.Sf) then
  (bO a.2 p0.Sf p0.Maps).bind λb=>
  vB b.1
   (if (b.2 !=0) then
    some (.inr (none,b.2))
   else
    none)
   (λc=>
   if (b.2 !=0) then
    some (.inr (none,b.2))
   else
    (room (a.1.length+([c]).length) 8).bind λd=>
    again ((a.1++[c]),w64 (a.2+1)))
 else
  some (.inl a.1)
def C9(p0:zH)(again:((List zE)×Int)->Option (List zE))(a:(List zE)×Int):Option (List zE):=
 if decide (a.2<p0.Sa) then
  eN.bind λb=>
  (room (a.1.length+([(zE.mk b 0 0 none false)]).length) 8).bind λc=>
  again ((a.1++[(zE.mk b 0 0 none false)]),w64 (a.2+1))
 else
  some a.1
def Da(p1:List (List zK))(d:Nat)(again:(List ze)->Option ((List ze)⊕yA))(a:(List ze)):Option ((List ze)⊕yA):=
 (idx p1 (d:Int)).bind λb=>
 if decide (((b).length:Int)>64) then
  some (.inr (none,11))
 else
  (bP b).bind λc=>
  (room (a.length+([(ze.mk c 0 false 0 (zA.mk 0 0 ([]:List zk) ([]:List zr)) ([]:List (List zr)) ([]:List zA))]).length) 8).bind λe=>
  again (a++[(ze.mk c 0 false 0 (zA.mk 0 0 ([]:List zk) ([]:List zr)) ([]:List (List zr)) ([]:List zA))])
def dW(fu:Nat)(p0:zH)(p1:List (List zK)):Option yA:=
 (bN p0.Sj ((p0.Maps).length:Int) p0.Sa).bind λa=>
 vB a.1
  (if (((((a.2 !=0)||decide (p0.Sf<1))||decide (p0.Sf>4))||decide (((p1).length:Int)<1))||decide (((p1).length:Int)>4)) then
   some (none,2)
  else
   (loop (C7 p0) fu (([]:List zq),0)).bind λb=>match b with
    |.inl D=>
     (loop (C8 p0) fu (([]:List zc),0)).bind λc=>match c with
      |.inl E=>
       (loop (C9 p0) fu (([]:List zE),0)).bind λF=>
       (jN (Da p1) (λ(d:(List ze))=>(.inl d)) (p1).length 0 ([]:List ze)).bind λe=>match e with
        |.inl G=>
         (mJ (w64 ((w64 ((w64 (((p1).length:Int)+p0.Sa))+p0.Sf))+1))).bind λf=>
         vB f.1
          (none)
          (λH=>
          none)
        |.inr r=>some r
      |.inr r=>some r
    |.inr r=>some r)
  (λg=>
  if (((((a.2 !=0)||decide (p0.Sf<1))||decide (p0.Sf>4))||decide (((p1).length:Int)<1))||decide (((p1).length:Int)>4)) then
   some (none,2)
  else
   (loop (nF p0) fu (([]:List zq),0)).bind λh=>match h with
    |.inl j=>
     (loop (nG p0) fu (([]:List zc),0)).bind λl=>match l with
      |.inl n=>
       (loop (kP p0) fu (([]:List zE),0)).bind λq=>
       (jN (nJ p1) (λ(v:(List ze))=>(.inl v)) (p1).length 0 ([]:List ze)).bind λz=>match z with
        |.inl A=>
         (mJ (w64 ((w64 ((w64 (((p1).length:Int)+p0.Sa))+p0.Sf))+1))).bind λB=>
         vB B.1
          (none)
          (λC=>
          some ((some (za.mk g C p0 A q n j ([]:List zB) ([]:List zB) 0 false false ([]:List zd) (zJ.mk 0))),0))
        |.inr r=>some r
      |.inr r=>some r
    |.inr r=>some r)
def bQ(p0:zo):Option Int:=
 some p0.LE
def qH(p0:za):Option Int:=
 some (w64 ((w64 (((p0.or).length:Int)+((p0.LT).length:Int)))+((p0.Fn).length:Int)))
def zX(p0:za):Option Int:=
 some ((p0.or).length:Int)
def qE(p0:za):Option Int:=
 some (w64 (((p0.or).length:Int)+((p0.LT).length:Int)))
def qr(p0:List zt):Option (List zt):=
 (room (([]:List zt).length+p0.length) 56).bind λa=>
 some (([]:List zt)++p0)
def vn(p0:zc):Option (List zt):=
 (qr p0.Se).bind λa=>
 some a
def ve(p0:zc):Option Bool:=
 some p0.Sk
def bR(p0:za)(a:Nat)(again:Unit->Option (Unit⊕Bool))(c:Unit):Option (Unit⊕Bool):=
 (idx p0.LT (a:Int)).bind λb=>
 if (!b.Sk) then
  some (.inr false)
 else
  again ()
def bS(p0:za)(p1:Bool)(a:Nat)(again:Unit->Option (Unit⊕Bool))(e:Unit):Option (Unit⊕Bool):=
 (idx p0.Fn (a:Int)).bind λb=>
 (if p1 then
  (ve b).bind λc=>
  some (!c)
 else
  some false).bind λd=>
 if d then
  some (.inr false)
 else
  again ()
def xF(p0:za)(p1:Bool):Option Bool:=
 ((room (p0.LT).length 1).bind λc=>
 jN (bR p0) (λ(d:Unit)=>(.inl ())) (p0.LT).length 0 ()).bind λa=>match a with
  |.inl e=>
   ((room (p0.Fn).length 1).bind λf=>
   jN (bS p0 p1) (λ(g:Unit)=>(.inl ())) (p0.Fn).length 0 ()).bind λb=>match b with
    |.inl h=>
     some true
    |.inr r=>some r
  |.inr r=>some r
def qy(p0:List zB)(p1:za)(a:Nat)(again:Unit->Option (Unit⊕Int))(d:Unit):Option (Unit⊕Int):=
 (idx p0 (a:Int)).bind λb=>
 (xm b p1).bind λc=>
 if c then
  some (.inr (a:Int))
 else
  again ()
def qh(p0:List zB)(p1:za):Option Int:=
 (jN (qy p0 p1) (λ(b:Unit)=>(.inl ())) (p0).length 0 ()).bind λa=>match a with
  |.inl c=>
   some (-1)
  |.inr r=>some r
def xh(p0:za):Option Int:=
 (qh p0.held p0).bind λa=>
 some a
def aB(p0:za):Option Bool:=
 (if p0.closed then
  (xF p0 true).bind λa=>
  if a then
   some (((p0.held).length:Int)==0)
  else
   some false
 else
  some false).bind λb=>
 some b
def qX(p0:za)(p1:Int):Option Bool:=
 (zX p0).bind λe=>
 if decide (p1<e) then
  (idx p0.or p1).bind λa=>
  if a.waits then
   some (a.Sl==0)
  else
   some (decide (a.SB<((a.Sw).length:Int)))
 else
  (qE p0).bind λf=>
  if decide (p1<f) then
   (zX p0).bind λg=>
   (idx p0.LT (w64 (p1-g))).bind λb=>
   (jO b.RY).bind λc=>
   if (c==0) then
    (if (!b.Sk) then
     if p0.closed then
      some true
     else
      (vd p0).bind λh=>
      some h
    else
     some false).bind λj=>
    some j
   else
    if (c==3) then
     some b.Tw.isSome
    else
     some true
  else
   (qH p0).bind λl=>
   if decide (p1<l) then
    (qE p0).bind λn=>
    (idx p0.Fn (w64 (p1-n))).bind λd=>
    ((vn d).bind λq=>
    if decide (((q).length:Int)>0) then
     some true
    else
     if p0.closed then
      (xF p0 false).bind λv=>
      if v then
       (ve d).bind λz=>
       some (!z)
      else
       some false
     else
      some false).bind λA=>
    some A
   else
    (if (!p0.over) then
     if decide (((p0.Se).length:Int)>0) then
      some true
     else
      (xh p0).bind λB=>
      if decide (B>=0) then
       some true
      else
       (aB p0).bind λC=>
       some C
    else
     some false).bind λD=>
    some D
def fK(p1:List Bool)(b:Nat)(again:zo->Option zo)(a:zo):Option zo:=
 (idx p1 (b:Int)).bind λd=>
 (idx a.Sd (b:Int)).bind λc=>
 if (c.Si==2) then
  again a
 else
  if d then
   again (zo.mk (a.Sd.set (Int.toNat (b:Int)) (qw.mk 1 c.Tz)) a.LE)
  else
   again (zo.mk (a.Sd.set (Int.toNat (b:Int)) (qw.mk 0 c.Tz)) a.LE)
def dX(p0:zo)(p1:List Bool):Option (Int×zo):=
 if (((p1).length:Int) !=((p0.Sd).length:Int)) then
  some (2,p0)
 else
  (jN (fK p1) (λ(a:zo)=>a) (p1).length 0 p0).bind λb=>
  some (0,b)
def cQ(p0:za)(a:Nat)(again:(List Bool)->Option (List Bool))(b:(List Bool)):Option (List Bool):=
 (qX p0 (a:Int)).bind λc=>
 (idx b (a:Int)).bind λd=>
 again (b.set (Int.toNat (a:Int)) c)
def vf(p0:za):Option za:=
 (qH p0).bind λb=>
 (mkLen (w64 (b+1)) 1).bind λa=>
 ((room a 1).bind λf=>
 jN (cQ p0) (λ(c:(List Bool))=>c) a 0 (List.replicate a false)).bind λd=>
 (dX p0.Sn d).bind λe=>
 some {p0 with Sn:=e.2}
def gJ(p0:zo)(p1:Int)(a:Nat)(again:(List Int)->Option (List Int))(b:(List Int)):Option (List Int):=
 (idx p0.Sd (a:Int)).bind λc=>
 if (c.Si==p1) then
  (room (b.length+([(a:Int)]).length) 8).bind λd=>
  again (b++[(a:Int)])
 else
  again b
def dN(p0:zo)(p1:Int):Option (List Int):=
 (jN (gJ p0 p1) (λ(a:(List Int))=>a) (p0.Sd).length 0 ([]:List Int)).bind λb=>
 some b
def aC(p0:zo):Option (List Int):=
 (dN p0 1).bind λa=>
 some a
def vU(p0:zo)(p1:Int):Option (Int×Bool×zo):=
 (idx p0.Sd p1).bind λa=>
 some (p1,true,(zo.mk (p0.Sd.set (Int.toNat p1) (qw.mk a.Si (w64 (p0.LE+1)))) (w64 (p0.LE+1))))
def df(p0:zo)(p1:Int):Option (Int×Bool×zo):=
 (aC p0).bind λa=>
 if (((a).length:Int)==0) then
  some (0,false,p0)
 else
  (nz ((a).length:Int)).bind λe=>
  (if decide ((p1.tmod ((a).length:Int))<0) then
   some (w64 ((p1.tmod ((a).length:Int))+((a).length:Int)))
  else
   some (p1.tmod ((a).length:Int))).bind λc=>
  (idx a c).bind λd=>
  (vU p0 d).bind λb=>
  some (b.1,b.2.1,b.2.2)
def eO(c:ze)(d:Nat)(again:(List zr)->Option ze)(a:(List zr)):Option ze:=
 (idx c.parts (d:Int)).bind λb=>
 (room (a.length+b.length) 16).bind λe=>
 again (a++b)
def jd(p0:za)(p1:Int):Option za:=
 (idx p0.or p1).bind λb=>
 (jN (eO b) (λ(c:(List zr))=>{b with Id:=(zA.mk b.Id.E b.Id.N b.Id.SQ c)}) (b.parts).length 0 b.Id.Pairs).bind λa=>
 (room (p0.SE.length+([(zd.mk 2 p1 0 a.SB 0 0 0 0 0 0 (zg.mk 0 0 0 0) (zk.mk 0 false 0 false 0 0) (xS a.Id.N) a.Id.E)]).length) 176).bind λd=>
 (room (a.Sm.length+([a.Id]).length) 64).bind λe=>
 some {p0 with or:=(p0.or.set (Int.toNat p1) (ze.mk a.Sw (w64 (a.SB+1)) false a.Sl (zA.mk 0 0 ([]:List zk) ([]:List zr)) ([]:List (List zr)) (a.Sm++[a.Id]))),SE:=(p0.SE++[(zd.mk 2 p1 0 a.SB 0 0 0 0 0 0 (zg.mk 0 0 0 0) (zk.mk 0 false 0 false 0 0) (xS a.Id.N) a.Id.E)])}
def qC(p0:List zg)(p1:za)(a:Nat)(again:Unit->Option (Unit⊕Int))(d:Unit):Option (Unit⊕Int):=
 (idx p0 (a:Int)).bind λb=>
 (cw b p1).bind λc=>
 if c then
  some (.inr (a:Int))
 else
  again ()
def qn(p0:List zg)(p1:za):Option Int:=
 (jN (qC p0 p1) (λ(b:Unit)=>(.inl ())) (p0).length 0 ()).bind λa=>match a with
  |.inl c=>
   some (-1)
  |.inr r=>some r
def qg(p0:List zg)(p1:za):Option Bool:=
 (qn p0 p1).bind λa=>
 some (decide (a>=0))
def xC(p0:za)(p1:List zg):Option Bool:=
 (qg p1 p0).bind λa=>
 some a
def aq(p0:Int)(p1:Int):Option Int:=
 if decide (p1<1) then
  some 0
 else
  (nz (xS p1)).bind λa=>
  some (w64 ((iE .u64 (xS (p0*11400714819323198485)) 32).tmod (xS p1)))
def xN(p0:zc)(p1:zt):Option Bool:=
 if (decide (p1.Item.SO<0)||decide (p1.Item.SO>=((p0.maps).length:Int))) then
  some false
 else
  (if p1.TB then
   some true
  else
   if decide (p1.Item.Op>=0) then
    if decide (p1.Item.Op<5) then
     (aq p1.Item.Tc p0.Te).bind λa=>
     some (a==p0.TA)
    else
     some false
   else
    some false).bind λb=>
  some b
def gK(p0:zc)(p1:List zt)(a:Nat)(again:Unit->Option (Unit⊕(Int×zc)))(d:Unit):Option (Unit⊕(Int×zc)):=
 (idx p1 (a:Int)).bind λb=>
 (xN p0 b).bind λc=>
 if (!c) then
  some (.inr (2,p0))
 else
  again ()
def jJ(p0:zc)(p1:List zt):Option (Int×zc):=
 if p0.Sk then
  some (43,p0)
 else
  (jN (gK p0 p1) (λ(b:Unit)=>(.inl ())) (p1).length 0 ()).bind λa=>match a with
   |.inl c=>
    (room (p0.Se.length+p1.length) 56).bind λd=>
    some (0,{p0 with Se:=(p0.Se++p1)})
   |.inr r=>some r
def aD(p0:zJ):Option (Int×zJ):=
 some (w64 (p0.last+1),(zJ.mk (w64 (p0.last+1))))
def xj(p0:zq)(p1:qv)(g0:zJ):Option (Int×Int×zq×zJ):=
 if p0.Tu then
  some (0,43,p0,g0)
 else
  if (((p0.waiting).length:Int)==p0.room) then
   some (0,40,{p0 with counts:=(zV.mk p0.counts.Td (w64 (p0.counts.Ta+1)) p0.counts.TJ p0.counts.Ti p0.counts.Tp)},g0)
  else
   (aD g0).bind λa=>
   (room (p0.waiting.length+([(zY.mk a.1 p1)]).length) 24).bind λb=>
   some (a.1,0,(zq.mk p0.room p0.Tu (p0.waiting++[(zY.mk a.1 p1)]) (zV.mk (w64 (p0.counts.Td+1)) p0.counts.Ta p0.counts.TJ p0.counts.Ti p0.counts.Tp)),a.2)
def dC(p1:Int)(e:zK)(b:Nat)(again:(List zc)->Option (List zc))(a:(List zc)):Option (List zc):=
 (idx ([e.Item]) (b:Int)).bind λc=>
 (aq c.Tc ((a).length:Int)).bind λd=>
 (idx a d).bind λf=>
 (jJ f ([(zt.mk p1 (b:Int) false c)])).bind λg=>
 again (a.set (Int.toNat d) g.2)
def gL(p1:Int)(e:zK)(b:Nat)(again:(List zc)->Option (List zc))(a:(List zc)):Option (List zc):=
 (idx e.SI (b:Int)).bind λc=>
 (aq c.Tc ((a).length:Int)).bind λd=>
 (idx a d).bind λf=>
 (jJ f ([(zt.mk p1 (b:Int) false c)])).bind λg=>
 again (a.set (Int.toNat d) g.2)
def dD(p1:Int)(c:zK)(a:Nat)(again:(List zc)->Option (List zc))(b:(List zc)):Option (List zc):=
 (idx b (a:Int)).bind λd=>
 (jJ d ([(zt.mk p1 (a:Int) true (zg.mk c.SO 0 0 0))])).bind λe=>
 again (b.set (Int.toNat (a:Int)) e.2)
def xO(p0:za)(p1:Int):Option za:=
 (idx p0.or p1).bind λa=>
 if a.waits then
  (jd p0 p1).bind λe=>
  some e
 else
  (room (p0.SE.length+([(zd.mk 1 p1 0 a.SB 0 0 0 0 0 0 (zg.mk 0 0 0 0) (zk.mk 0 false 0 false 0 0) 0 0)]).length) 176).bind λR=>
  (idx a.Sw a.SB).bind λb=>
  if p0.closed then
   (jd {p0 with or:=(p0.or.set (Int.toNat p1) {a with Id:=(zA.mk 43 a.Id.N a.Id.SQ a.Id.Pairs)}),SE:=(p0.SE++[(zd.mk 1 p1 0 a.SB 0 0 0 0 0 0 (zg.mk 0 0 0 0) (zk.mk 0 false 0 false 0 0) 0 0)])} p1).bind λf=>
   some f
  else
   (((if (b.RZ==0) then
    some (b.RZ==0)
   else
    some (b.RZ==1)).bind λg=>
   if g then
    if (b.RZ==0) then
     (xC {p0 with SE:=(p0.SE++[(zd.mk 1 p1 0 a.SB 0 0 0 0 0 0 (zg.mk 0 0 0 0) (zk.mk 0 false 0 false 0 0) 0 0)])} ([b.Item])).bind λh=>
     if h then
      (jd {p0 with or:=(p0.or.set (Int.toNat p1) {a with Id:=(zA.mk 2 a.Id.N a.Id.SQ a.Id.Pairs)}),SE:=(p0.SE++[(zd.mk 1 p1 0 a.SB 0 0 0 0 0 0 (zg.mk 0 0 0 0) (zk.mk 0 false 0 false 0 0) 0 0)])} p1).bind λj=>
      some (.inr j)
     else
      (mkLen 1 48).bind λl=>
      (jN (dC p1 b) (λ(n:(List zc))=>n) 1 0 p0.Fn).bind λq=>
      some (.inl ({a with Sl:=1,Id:=(zA.mk a.Id.E a.Id.N (List.replicate l (zk.mk 0 false 0 false 0 0)) a.Id.Pairs)},q,p0.Se))
    else
     (if decide (((b.SI).length:Int)<1) then
      some true
     else
      if decide (((b.SI).length:Int)>16) then
       some true
      else
       (xC {p0 with SE:=(p0.SE++[(zd.mk 1 p1 0 a.SB 0 0 0 0 0 0 (zg.mk 0 0 0 0) (zk.mk 0 false 0 false 0 0) 0 0)])} b.SI).bind λv=>
       some v).bind λz=>
     if z then
      (jd {p0 with or:=(p0.or.set (Int.toNat p1) {a with Id:=(zA.mk 2 a.Id.N a.Id.SQ a.Id.Pairs)}),SE:=(p0.SE++[(zd.mk 1 p1 0 a.SB 0 0 0 0 0 0 (zg.mk 0 0 0 0) (zk.mk 0 false 0 false 0 0) 0 0)])} p1).bind λA=>
      some (.inr A)
     else
      (mkLen ((b.SI).length:Int) 48).bind λB=>
      ((room (b.SI).length 1).bind λS=>
      jN (gL p1 b) (λ(C:(List zc))=>C) (b.SI).length 0 p0.Fn).bind λD=>
      some (.inl ({a with Sl:=((b.SI).length:Int),Id:=(zA.mk a.Id.E a.Id.N (List.replicate B (zk.mk 0 false 0 false 0 0)) a.Id.Pairs)},D,p0.Se))
   else
    if (b.RZ==2) then
     if (decide (b.SO<0)||decide (b.SO>=((p0.Sv.Maps).length:Int))) then
      (jd {p0 with or:=(p0.or.set (Int.toNat p1) {a with Id:=(zA.mk 2 a.Id.N a.Id.SQ a.Id.Pairs)}),SE:=(p0.SE++[(zd.mk 1 p1 0 a.SB 0 0 0 0 0 0 (zg.mk 0 0 0 0) (zk.mk 0 false 0 false 0 0) 0 0)])} p1).bind λF=>
      some (.inr F)
     else
      (mkLen ((p0.Fn).length:Int) 24).bind λG=>
      (jN (dD p1 b) (λ(H:(List zc))=>H) (p0.Fn).length 0 p0.Fn).bind λI=>
      some (.inl ({a with Sl:=((p0.Fn).length:Int),parts:=(List.replicate G [])},I,p0.Se))
    else
     if (b.RZ==3) then
      if (decide (b.SJ<0)||decide (b.SJ>=((p0.RX).length:Int))) then
       (jd {p0 with or:=(p0.or.set (Int.toNat p1) {a with Id:=(zA.mk 2 a.Id.N a.Id.SQ a.Id.Pairs)}),SE:=(p0.SE++[(zd.mk 1 p1 0 a.SB 0 0 0 0 0 0 (zg.mk 0 0 0 0) (zk.mk 0 false 0 false 0 0) 0 0)])} p1).bind λJ=>
       some (.inr J)
      else
       (idx p0.RX b.SJ).bind λK=>
       (xj K b.Sz p0.SK).bind λc=>
       if (c.2.1==0) then
        (room ((p0.SE++[(zd.mk 1 p1 0 a.SB 0 0 0 0 0 0 (zg.mk 0 0 0 0) (zk.mk 0 false 0 false 0 0) 0 0)]).length+([(zd.mk 4 p1 0 a.SB 0 c.1 b.SJ 0 0 0 (zg.mk 0 0 0 0) (zk.mk 0 false 0 false 0 0) 0 0)]).length) 176).bind λT=>
        if ((c.2.1 !=0)||(!a.waits)) then
         (jd {p0 with or:=(p0.or.set (Int.toNat p1) {a with Id:=(zA.mk c.2.1 c.1 a.Id.SQ a.Id.Pairs)}),RX:=(p0.RX.set (Int.toNat b.SJ) c.2.2.1),SE:=((p0.SE++[(zd.mk 1 p1 0 a.SB 0 0 0 0 0 0 (zg.mk 0 0 0 0) (zk.mk 0 false 0 false 0 0) 0 0)])++[(zd.mk 4 p1 0 a.SB 0 c.1 b.SJ 0 0 0 (zg.mk 0 0 0 0) (zk.mk 0 false 0 false 0 0) 0 0)]),SK:=c.2.2.2} p1).bind λL=>
         some (.inr L)
        else
         some (.inr {p0 with or:=(p0.or.set (Int.toNat p1) {a with Id:=(zA.mk c.2.1 c.1 a.Id.SQ a.Id.Pairs)}),RX:=(p0.RX.set (Int.toNat b.SJ) c.2.2.1),SE:=((p0.SE++[(zd.mk 1 p1 0 a.SB 0 0 0 0 0 0 (zg.mk 0 0 0 0) (zk.mk 0 false 0 false 0 0) 0 0)])++[(zd.mk 4 p1 0 a.SB 0 c.1 b.SJ 0 0 0 (zg.mk 0 0 0 0) (zk.mk 0 false 0 false 0 0) 0 0)]),SK:=c.2.2.2})
       else
        if ((c.2.1 !=0)||(!a.waits)) then
         (jd {p0 with or:=(p0.or.set (Int.toNat p1) {a with Id:=(zA.mk c.2.1 a.Id.N a.Id.SQ a.Id.Pairs)}),RX:=(p0.RX.set (Int.toNat b.SJ) c.2.2.1),SE:=(p0.SE++[(zd.mk 1 p1 0 a.SB 0 0 0 0 0 0 (zg.mk 0 0 0 0) (zk.mk 0 false 0 false 0 0) 0 0)]),SK:=c.2.2.2} p1).bind λM=>
         some (.inr M)
        else
         some (.inr {p0 with or:=(p0.or.set (Int.toNat p1) {a with Id:=(zA.mk c.2.1 a.Id.N a.Id.SQ a.Id.Pairs)}),RX:=(p0.RX.set (Int.toNat b.SJ) c.2.2.1),SE:=(p0.SE++[(zd.mk 1 p1 0 a.SB 0 0 0 0 0 0 (zg.mk 0 0 0 0) (zk.mk 0 false 0 false 0 0) 0 0)]),SK:=c.2.2.2})
     else
      (if (b.RZ==4) then
       some (b.RZ==4)
      else
       if (b.RZ==5) then
        some (b.RZ==5)
       else
        if (b.RZ==6) then
         some (b.RZ==6)
        else
         if (b.RZ==7) then
          some (b.RZ==7)
         else
          if (b.RZ==8) then
           some (b.RZ==8)
          else
           if (b.RZ==9) then
            some (b.RZ==9)
           else
            some (b.RZ==10)).bind λO=>
      if O then
       (room (p0.Se.length+([(zB.mk p1 b 0)]).length) 144).bind λU=>
       some (.inl ({a with Sl:=1},p0.Fn,(p0.Se++[(zB.mk p1 b 0)])))
      else
       (jd {p0 with or:=(p0.or.set (Int.toNat p1) {a with Id:=(zA.mk 2 a.Id.N a.Id.SQ a.Id.Pairs)}),SE:=(p0.SE++[(zd.mk 1 p1 0 a.SB 0 0 0 0 0 0 (zg.mk 0 0 0 0) (zk.mk 0 false 0 false 0 0) 0 0)])} p1).bind λP=>
       some (.inr P)):Option ((ze×(List zc)×(List zB))⊕za)).bind λQ=>match Q with
    |.inl d=>
     some {p0 with or:=(p0.or.set (Int.toNat p1) (ze.mk d.1.Sw d.1.SB true d.1.Sl (zA.mk 0 d.1.Id.N d.1.Id.SQ d.1.Id.Pairs) d.1.parts d.1.Sm)),Fn:=d.2.1,Se:=d.2.2,SE:=(p0.SE++[(zd.mk 1 p1 0 a.SB 0 0 0 0 0 0 (zg.mk 0 0 0 0) (zk.mk 0 false 0 false 0 0) 0 0)])}
    |.inr r=>some r
def xp(p0:zm):Option (Int×zY):=
 some (p0.SL.hook,p0.SL.SP)
def iZ(p0:zo)(p2:List Int)(b:Nat)(again:Unit->Option (Unit⊕(Int×zo)))(c:Unit):Option (Unit⊕(Int×zo)):=
 (idx p2 (b:Int)).bind λa=>
 if (decide (a<0)||decide (a>=((p0.Sd).length:Int))) then
  some (.inr (2,p0))
 else
  again ()
def ka(p0:zo)(p2:List Int)(a:Nat)(again:Unit->Option (Unit⊕(Int×zo)))(d:Unit):Option (Unit⊕(Int×zo)):=
 (idx p2 (a:Int)).bind λb=>
 (idx p0.Sd b).bind λc=>
 if (c.Si==2) then
  some (.inr (43,p0))
 else
  again ()
def kb(p1:Int)(p2:List Int)(c:Nat)(again:zo->Option zo)(a:zo):Option zo:=
 (idx p2 (c:Int)).bind λb=>
 (idx a.Sd b).bind λd=>
 again (zo.mk (a.Sd.set (Int.toNat b) (qw.mk p1 d.Tz)) a.LE)
def fe(p0:zo)(p1:Int)(p2:List Int):Option (Int×zo):=
 (jN (iZ p0 p2) (λ(e:Unit)=>(.inl ())) (p2).length 0 ()).bind λa=>match a with
  |.inl f=>
   (jN (ka p0 p2) (λ(g:Unit)=>(.inl ())) (p2).length 0 ()).bind λb=>match b with
    |.inl h=>
     (jN (kb p1 p2) (λ(c:zo)=>c) (p2).length 0 p0).bind λd=>
     some (0,d)
    |.inr r=>some r
  |.inr r=>some r
def aT(p0:zo)(p1:List Int):Option (Int×zo):=
 (fe p0 2 p1).bind λa=>
 some (a.1,a.2)
def xZ(p0:zq)(g0:zJ):Option (zY×Bool×zq):=
 if (((p0.waiting).length:Int)==0) then
  some ((zY.mk 0 (qv.mk 0 0)),false,p0)
 else
  (idx p0.waiting 0).bind λa=>
  (cut p0.waiting 1 (p0.waiting.length:Int)).bind λb=>
  some (a,true,(zq.mk p0.room p0.Tu b (zV.mk p0.counts.Td p0.counts.Ta (w64 (p0.counts.TJ+1)) p0.counts.Ti p0.counts.Tp)))
def vK(p0:zm)(p1:Int)(p2:zY):Option (Int×zm):=
 if (decide (p1<0)||decide (p1>=4)) then
  some (2,p0)
 else
  if (p0.Si !=0) then
   some (42,p0)
  else
   some (0,{p0 with Si:=1,SL:=(bu.mk p1 p2 0 0 0 none)})
def jh(p0:zy)(p1:Int):Option Bool:=
 some (decide (p1>=0)&&decide (p1<((p0.Sh).length:Int)))
def jj(p0:zy)(p1:Int):Option Bool:=
 (idx p0.Sh p1).bind λa=>
 some (decide (a.SA>0))
def jo(p0:zy)(p1:Int):Option (Int×Int×Bool):=
 ((jh p0 p1).bind λb=>
 if (!b) then
  some true
 else
  (jj p0 p1).bind λc=>
  some (!c)).bind λd=>
 if d then
  some (0,0,false)
 else
  (idx p0.Sh p1).bind λa=>
  some (a.SA,a.prog,true)
def eP(p0:Int):Option Bool:=
 some (decide (p0>=0)&&decide (p0<4))
def vL(p0:zR)(p1:List Int)(a:Nat)(again:Unit->Option (Unit⊕(Int×zR)))(d:Unit):Option (Unit⊕(Int×zR)):=
 (idx p1 (a:Int)).bind λb=>
 (eP b).bind λc=>
 if (!c) then
  some (.inr (2,p0))
 else
  again ()
def vM(p1:List Int)(c:Nat)(again:zR->Option zR)(a:zR):Option zR:=
 (idx p1 (c:Int)).bind λd=>
 (ain 4 d).bind λb=>
 again (zR.mk (aset a.Sh b (zN.mk (a.Sh b).Ud (xS ((a.Sh b).Ts+1)) (a.Sh b).TN (a.Sh b).Calls (a.Sh b).Sum)))
def vN(p0:zR)(p1:List Int):Option (Int×zR):=
 (jN (vL p0 p1) (λ(d:Unit)=>(.inl ())) (p1).length 0 ()).bind λa=>match a with
  |.inl e=>
   (jN (vM p1) (λ(b:zR)=>b) (p1).length 0 p0).bind λc=>
   some (0,c)
  |.inr r=>some r
def bH(p0:zm):Option zm:=
 some {p0 with Si:=0,SL:=(bu.mk 0 (zY.mk 0 (qv.mk 0 0)) 0 0 0 none)}
def xG(p0:zm):Option (Int×zm):=
 if (p0.Si !=1) then
  some (41,p0)
 else
  (vN p0.Tm ([p0.SL.hook])).bind λa=>
  (bH {p0 with Tm:=a.2}).bind λb=>
  some (0,b)
def jf(p0:List Int):Option (List Int):=
 (room (([]:List Int).length+p0.length) 8).bind λa=>
 some (([]:List Int)++p0)
def zS(p0:List zf):Option (List zf):=
 (room (([]:List zf).length+p0.length) 40).bind λa=>
 some (([]:List zf)++p0)
def qS(p0:zb)(p1:Int):Option (zC×Bool):=
 if (!(jB p0.Su p1).isSome) then
  some ((zC.mk ([]:List Int) ([]:List zf)),false)
 else
  (jB p0.Su p1).bind λa=>
  (jf a.module.Maps).bind λb=>
  (zS a.module.Code).bind λc=>
  some ((zC.mk b c),true)
def vg(p0:zD)(p1:Int):Option Bool:=
 some (decide (p1>=0)&&decide (p1<((p0.in_).length:Int)))
def vh(p0:zD)(p1:Int):Option (Int×Int×zD):=
 (vg p0 p1).bind λa=>
 if (!a) then
  some (0,2,p0)
 else
  (idx p0.in_ p1).bind λb=>
  if (b !=0) then
   some (0,42,p0)
  else
   some (p0.TC,0,(zD.mk p0.TC (p0.in_.set (Int.toNat p1) p0.TC)))
def ow(p0:List Int)(b:Nat)(again:Unit->Option (Unit⊕Bool))(f:Unit):Option (Unit⊕Bool):=
 (idx p0 (b:Int)).bind λa=>
 (if decide (a<0) then
  some true
 else
  if decide (a>=4) then
   some true
  else
   (cut p0 0 (b:Int)).bind λc=>
   (qa c a).bind λd=>
   some d).bind λe=>
 if e then
  some (.inr false)
 else
  again ()
def kg(p0:List Int):Option Bool:=
 (jN (ow p0) (λ(b:Unit)=>(.inl ())) (p0).length 0 ()).bind λa=>match a with
  |.inl c=>
   some (decide (((p0).length:Int)<=4))
  |.inr r=>some r
def eL(p0:Int):Option (je×Bool):=
 if (decide (p0<0)||decide (p0>=23)) then
  some ((je.mk ByteArray.empty ByteArray.empty),false)
 else
  (idx xE p0).bind λa=>
  some (a,true)
def dO(p0:Int):Option Bool:=
 some (decide (p0>=0)&&decide (p0<8))
def cx(p0:Int)(p1:Int)(p2:Int):Option Bool:=
 some (decide (p0>=p1)&&decide (p0<=p2))
def iv(p0:zf)(c:je×Bool)(d:Nat)(again:(Bool×zf)->Option (Bool×zf))(a:Bool×zf):Option (Bool×zf):=
 (ue c.1.SZ (d:Int)).bind λb=>
 if (b==100) then
  if a.1 then
   (dO p0.D).bind λe=>
   again (e,(zf.mk a.2.Op 0 a.2.A a.2.B a.2.SU))
  else
   again (false,(zf.mk a.2.Op 0 a.2.A a.2.B a.2.SU))
 else
  if (b==97) then
   if a.1 then
    (dO p0.A).bind λf=>
    again (f,(zf.mk a.2.Op a.2.D 0 a.2.B a.2.SU))
   else
    again (false,(zf.mk a.2.Op a.2.D 0 a.2.B a.2.SU))
  else
   if (b==115) then
    if (p0.B==8) then
     again (a.1,(zf.mk a.2.Op a.2.D a.2.A 0 0))
    else
     if a.1 then
      (dO p0.B).bind λg=>
      again (g,(zf.mk a.2.Op a.2.D a.2.A 0 a.2.SU))
     else
      again (false,(zf.mk a.2.Op a.2.D a.2.A 0 a.2.SU))
   else
    if (b==102) then
     if a.1 then
      (cx p0.SU 0 1).bind λh=>
      again (h,(zf.mk a.2.Op a.2.D a.2.A a.2.B 0))
     else
      again (false,(zf.mk a.2.Op a.2.D a.2.A a.2.B 0))
    else
     if (b==109) then
      if a.1 then
       (cx p0.SU 0 3).bind λj=>
       again (j,(zf.mk a.2.Op a.2.D a.2.A a.2.B 0))
      else
       again (false,(zf.mk a.2.Op a.2.D a.2.A a.2.B 0))
     else
      if (b==104) then
       if a.1 then
        (cx p0.SU 0 6).bind λl=>
        again (l,(zf.mk a.2.Op a.2.D a.2.A a.2.B 0))
       else
        again (false,(zf.mk a.2.Op a.2.D a.2.A a.2.B 0))
      else
       if (b==110) then
        if a.1 then
         (cx p0.SU 1 255).bind λn=>
         again (n,(zf.mk a.2.Op a.2.D a.2.A a.2.B 0))
        else
         again (false,(zf.mk a.2.Op a.2.D a.2.A a.2.B 0))
       else
        if (b==106) then
         if a.1 then
          (cx p0.D 0 63).bind λq=>
          again (q,(zf.mk a.2.Op 0 a.2.A a.2.B a.2.SU))
         else
          again (false,(zf.mk a.2.Op 0 a.2.A a.2.B a.2.SU))
        else
         if (b==98) then
          if a.1 then
           (cx p0.D 1 63).bind λv=>
           again (v,(zf.mk a.2.Op 0 a.2.A a.2.B a.2.SU))
          else
           again (false,(zf.mk a.2.Op 0 a.2.A a.2.B a.2.SU))
         else
          again (a.1,a.2)
def vO(p0:zf):Option Bool:=
 (eL p0.Op).bind λb=>
 if (!b.2) then
  some false
 else
  ((room b.1.SZ.size 1).bind λe=>
  jN (iv p0 b) (λ(c:Bool×zf)=>(c.1,c.2)) b.1.SZ.size 0 (b.2,{p0 with Op:=0})).bind λa=>
  (if a.1 then
   some ((a.2.Op==0)&&((a.2.D==0)&&((a.2.A==0)&&((a.2.B==0)&&((a.2.SU==0)&&true)))))
  else
   some false).bind λd=>
  some d
def rB(p0:je)(p1:Int)(a:Nat)(again:Unit->Option (Unit⊕Bool))(c:Unit):Option (Unit⊕Bool):=
 (ue p0.SZ (a:Int)).bind λb=>
 if (b==p1) then
  some (.inr true)
 else
  again ()
def jx(p0:je)(p1:Int):Option Bool:=
 ((room p0.SZ.size 1).bind λb=>
 jN (rB p0 p1) (λ(c:Unit)=>(.inl ())) p0.SZ.size 0 ()).bind λa=>match a with
  |.inl d=>
   some false
  |.inr r=>some r
def kQ(p0:zf):Option (Int×Bool×Bool):=
 (vO p0).bind λb=>
 if (!b) then
  some (0,false,false)
 else
  (eL p0.Op).bind λa=>
  (jx a.1 106).bind λc=>
  if c then
   some (w64 (p0.D+1),true,(p0.Op !=15))
  else
   (jx a.1 98).bind λd=>
   if d then
    some (w64 (0-p0.D),true,true)
   else
    some (0,false,(p0.Op !=22))
def lT(p0:List zf)(a:Nat)(again:Unit->Option (Unit⊕Bool))(d:Unit):Option (Unit⊕Bool):=
 (idx p0 (a:Int)).bind λb=>
 (vO b).bind λc=>
 if (!c) then
  some (.inr false)
 else
  again ()
def fw(p0:List zf):Option Bool:=
 (jN (lT p0) (λ(b:Unit)=>(.inl ())) (p0).length 0 ()).bind λa=>match a with
  |.inl c=>
   some true
  |.inr r=>some r
abbrev yC:=Unit⊕(Int×Int)
def nk(p0:List zf)(a:Nat)(again:Unit->Option yC)(e:Unit):Option yC:=
 (idx p0 (a:Int)).bind λc=>
 (kQ c).bind λb=>
 (fw ([c])).bind λd=>
 if (!d) then
  some (.inr ((a:Int),12))
 else
  if (b.2.1&&(decide ((w64 ((a:Int)+b.1))<0)||decide ((w64 ((a:Int)+b.1))>=((p0).length:Int)))) then
   some (.inr ((a:Int),30))
  else
   if (b.2.2&&((a:Int)==(w64 (((p0).length:Int)-1)))) then
    some (.inr ((a:Int),36))
   else
    again ()
def gM(p0:List zf):Option (Int×Int):=
 (jN (nk p0) (λ(b:Unit)=>(.inl ())) (p0).length 0 ()).bind λa=>match a with
  |.inl c=>
   some (0,0)
  |.inr r=>some r
def ox(p0:List zf)(a:Nat)(again:(List qA)->Option (List qA))(c:(List qA)):Option (List qA):=
 (idx p0 (a:Int)).bind λb=>
 if (b.Op==20) then
  (room (c.length+([(qA.mk (w64 ((a:Int)-b.D)) (a:Int) b.SU)]).length) 24).bind λd=>
  again (c++[(qA.mk (w64 ((a:Int)-b.D)) (a:Int) b.SU)])
 else
  again c
def eQ(p0:List zf):Option (List qA):=
 (jN (ox p0) (λ(a:(List qA))=>a) (p0).length 0 ([]:List qA)).bind λb=>
 some b
def nK(p0:qA)(p1:Int):Option Bool:=
 some (decide (p1>=p0.Tr)&&decide (p1<=p0.At))
def iI(a:qA)(c:List qA)(d:Nat)(again:Unit->Option yC)(e:Unit):Option yC:=
 (idx c (d:Int)).bind λb=>
 if (decide (b.At>=a.Tr)&&decide (b.Tr<a.Tr)) then
  some (.inr (a.At,31))
 else
  again ()
def fg(a:(List qA))(b:Nat)(again:Unit->Option yC)(f:Unit):Option yC:=
 (idx a (b:Int)).bind λd=>
 (cut a 0 (b:Int)).bind λc=>
 (jN (iI d c) (λ(g:Unit)=>(.inl ())) (c).length 0 ()).bind λe=>match e with
  |.inl h=>
   again ()
  |.inr r=>some (.inr r)
def iJ(d:(List qA))(a:Nat)(b:Int×Bool×Bool)(e:Nat)(again:Unit->Option yC)(j:Unit):Option yC:=
 (idx d (e:Int)).bind λc=>
 (if b.2.1 then
  if decide (b.1>0) then
   (nK c (a:Int)).bind λf=>
   if (!f) then
    (nK c (w64 ((a:Int)+b.1))).bind λg=>
    if g then
     some ((w64 ((a:Int)+b.1)) !=c.Tr)
    else
     some false
   else
    some false
  else
   some false
 else
  some false).bind λh=>
 if h then
  some (.inr ((a:Int),31))
 else
  again ()
def iK(p0:List zf)(a:(List qA))(b:Nat)(again:Unit->Option yC)(f:Unit):Option yC:=
 (idx p0 (b:Int)).bind λc=>
 (kQ c).bind λd=>
 (jN (iJ a b d) (λ(g:Unit)=>(.inl ())) (a).length 0 ()).bind λe=>match e with
  |.inl h=>
   again ()
  |.inr r=>some (.inr r)
def gN(p0:List zf):Option (Int×Int):=
 (eQ p0).bind λa=>
 (jN (fg a) (λ(d:Unit)=>(.inl ())) (a).length 0 ()).bind λb=>match b with
  |.inl e=>
   (jN (iK p0 a) (λ(f:Unit)=>(.inl ())) (p0).length 0 ()).bind λc=>match c with
    |.inl g=>
     some (0,0)
    |.inr r=>some r
  |.inr r=>some r
def lU(c:(List qA))(d:Nat)(e:Nat)(again:Int->Option Int)(a:Int):Option Int:=
 (idx c (e:Int)).bind λb=>
 (nK b (d:Int)).bind λf=>
 if f then
  again (mV (w64 (a*(w64 (b.TL+1)))) 257)
 else
  again a
def pZ(a:(List qA))(b:Nat)(again:Int->Option Int)(c:Int):Option Int:=
 (jN (lU a b) (λ(d:Int)=>d) (a).length 0 1).bind λe=>
 again (mV (w64 (c+e)) 257)
def lV(p0:List zf):Option Int:=
 (eQ p0).bind λa=>
 (jN (pZ a) (λ(b:Int)=>b) (p0).length 0 0).bind λc=>
 some c
def eR(p0:List zf):Option (Int×Int):=
 if (((p0).length:Int)==0) then
  some (0,10)
 else
  if decide (((p0).length:Int)>64) then
   some (0,11)
  else
   (gM p0).bind λa=>
   if (a.2 !=0) then
    some (a.1,a.2)
   else
    (gN p0).bind λb=>
    if (b.2 !=0) then
     some (b.1,b.2)
    else
     (lV p0).bind λc=>
     if decide (c>256) then
      some (0,32)
     else
      some (0,0)
def kh(p0:List zf):Option ((List qA)×Int):=
 (eR p0).bind λa=>
 if (a.2 !=0) then
  some (([]:List qA),a.2)
 else
  (eQ p0).bind λb=>
  some (b,0)
def cy(p0:zf):Option (Int×Bool):=
 (vO p0).bind λa=>
 if (!a) then
  some (0,false)
 else
  (eL p0.Op).bind λb=>
  (jx b.1 100).bind λc=>
  if c then
   some (p0.D,true)
  else
   some (0,(p0.Op==21))
def bT :Option zh:=
 some (zh.mk 0 18446744073709551615)
def va(p0:zh):Option zi:=
 some (zi.mk 1 p0 0)
def cR(p1:Int)(e:List zf)(f:Nat)(again:(List (Nat->zi))->Option (List (Nat->zi)))(a:(List (Nat->zi))):Option (List (Nat->zi)):=
 (idx e (f:Int)).bind λg=>
 (cy g).bind λd=>
 if (!d.2) then
  again a
 else
  (idx a p1).bind λb=>
  (ain 8 d.1).bind λc=>
  if ((b c).RZ==1) then
   bT.bind λh=>
   (va h).bind λj=>
   again (a.set (Int.toNat p1) (aset b c j))
  else
   again (a.set (Int.toNat p1) (aset b c (zi.mk 0 (zh.mk 0 0) 0)))
def cT(p0:zj)(p1:Int)(d:Nat)(again:(List (Nat->zi))->Option zj)(b:(List (Nat->zi))):Option zj:=
 (idx p0.loops (d:Int)).bind λa=>
 if (a.Tr !=p1) then
  again b
 else
  (cut p0.SC.Code a.Tr (w64 (a.At+1))).bind λc=>
  (jN (cR p1 c) (λ(e:(List (Nat->zi)))=>e) (c).length 0 b).bind λf=>
  again f
def xq(p0:zj)(p1:Int):Option zj:=
 (jN (cT p0 p1) (λ(a:(List (Nat->zi)))=>{p0 with came:=a}) (p0.loops).length 0 p0.came).bind λb=>
 some b
def ki(p0:zf):Option Bool:=
 (eL p0.Op).bind λa=>
 ((vO p0).bind λb=>
 if b then
  (jx a.1 115).bind λc=>
  some c
 else
  some false).bind λd=>
 some d
def kS(p0:Int):Option zh:=
 some (zh.mk p0 p0)
def dP(p0:zf)(p1:Nat->zi):Option zi:=
 if (p0.B==8) then
  (kS (xS p0.SU)).bind λa=>
  (va a).bind λb=>
  some b
 else
  (ain 8 p0.B).bind λc=>
  some (p1 c)
def kT(p0:List zi)(a:Nat)(again:Unit->Option (Unit⊕Int))(c:Unit):Option (Unit⊕Int):=
 (idx p0 (a:Int)).bind λb=>
 if (b.RZ !=1) then
  some (.inr 33)
 else
  again ()
def vE(p0:List zi):Option Int:=
 (jN (kT p0) (λ(b:Unit)=>(.inl ())) (p0).length 0 ()).bind λa=>match a with
  |.inl c=>
   some 0
  |.inr r=>some r
def vF(p0:zh):Option Bool:=
 some (decide (p0.Lo<=p0.Hi))
def dE(p0:zh)(p1:zh):Option Bool:=
 ((vF p0).bind λa=>
 if a then
  if decide (p1.Lo<=p0.Lo) then
   some (decide (p0.Hi<=p1.Hi))
  else
   some false
 else
  some false).bind λb=>
 some b
def gu(p0:zi):Option Int:=
 (dE p0.SD (zh.mk 0 15)).bind λa=>
 if (!a) then
  some 35
 else
  some 0
def np(p0:List Int)(b:Nat)(again:Unit->Option (Unit⊕Int))(c:Unit):Option (Unit⊕Int):=
 (idx p0 (b:Int)).bind λa=>
 if (a !=0) then
  some (.inr a)
 else
  again ()
def eS(p0:List Int):Option Int:=
 (jN (np p0) (λ(b:Unit)=>(.inl ())) (p0).length 0 ()).bind λa=>match a with
  |.inl c=>
   some 0
  |.inr r=>some r
def kj(p0:zi)(p1:zi):Option Bool:=
 if (p1.RZ==1) then
  (if (p0.RZ==1) then
   (dE p0.SD p1.SD).bind λa=>
   some a
  else
   some false).bind λb=>
  some b
 else
  if (p1.RZ==2) then
   some ((p0.RZ==p1.RZ)&&(((p0.SD.Lo==p1.SD.Lo)&&((p0.SD.Hi==p1.SD.Hi)&&true))&&((p0.SO==p1.SO)&&true)))
  else
   some true
def cU(p0:Int):Option (bE×Bool):=
 if (decide (p0<0)||decide (p0>=7)) then
  some ((bE.mk ByteArray.empty ByteArray.empty 0 0 false),false)
 else
  (idx ae p0).bind λa=>
  some (a,true)
def gO(p0:Int):Option zi:=
 some (zi.mk 1 (zh.mk 0 p0) 0)
def AX(b:bE×Bool)(again:((List zi)×Nat)->Option (List zi))(a:(List zi)×Nat):Option (List zi):=
 if decide (a.2<b.1.Ub.size) then
  if ((AN b.1.Ub a.2)==104) then
   (room (a.1.length+([(zi.mk 2 (zh.mk 0 0) 0)]).length) 32).bind λe=>
   again ((a.1++[(zi.mk 2 (zh.mk 0 0) 0)]),(nB b.1.Ub a.2))
  else
   if ((AN b.1.Ub a.2)==115) then
    (gO 15).bind λc=>
    (room (a.1.length+([c]).length) 32).bind λf=>
    again ((a.1++[c]),(nB b.1.Ub a.2))
   else
    (gO 18446744073709551615).bind λd=>
    (room (a.1.length+([d]).length) 32).bind λg=>
    again ((a.1++[d]),(nB b.1.Ub a.2))
 else
  some a.1
def xT(fu:Nat)(p0:Int):Option (List zi):=
 (cU p0).bind λa=>
 (loop (AX a) fu (([]:List zi),0)).bind λb=>
 some b
def kU(p1:List zi)(d:(List zi))(b:Nat)(again:Unit->Option (Unit⊕Int))(g:Unit):Option (Unit⊕Int):=
 (idx d (b:Int)).bind λa=>
 (idx p1 (b:Int)).bind λc=>
 if (a.RZ !=c.RZ) then
  some (.inr 33)
 else
  (if (a.RZ==1) then
   (dE c.SD a.SD).bind λe=>
   some (!e)
  else
   some false).bind λf=>
  if f then
   some (.inr 35)
  else
   again ()
def eT(fu:Nat)(p0:Int)(p1:List zi):Option Int:=
 (cU p0).bind λb=>
 if (!b.2) then
  some 34
 else
  (xT fu p0).bind λa=>
  if (((a).length:Int) !=((p1).length:Int)) then
   some 2
  else
   (jN (kU p1 a) (λ(d:Unit)=>(.inl ())) (a).length 0 ()).bind λc=>match c with
    |.inl e=>
     some 0
    |.inr r=>some r
def gP(p0:Int):Option (zi×Bool):=
 (cU p0).bind λa=>
 if (!a.2) then
  some ((zi.mk 0 (zh.mk 0 0) 0),false)
 else
  (gO a.1.most).bind λb=>
  some (b,true)
def ga(p0:Int)(p1:Int)(p2:Int):Option (Int×Bool):=
 if (p0==1) then
  some (xS (p1+p2),true)
 else
  if (p0==2) then
   some (xS (p1-p2),true)
  else
   if (p0==3) then
    some (xS (p1*p2),true)
   else
    if (p0==4) then
     if (p2==0) then
      some (0,true)
     else
      (nz p2).bind λa=>
      some (xS (p1.tdiv p2),true)
    else
     if (p0==5) then
      if (p2==0) then
       some (p1,true)
      else
       (nz p2).bind λb=>
       some (p1.tmod p2,true)
     else
      if (p0==6) then
       some (wc .u64 p1 p2,true)
      else
       if (p0==7) then
        some (bOr .u64 p1 p2,true)
       else
        if (p0==8) then
         some (Mo .u64 p1 p2,true)
        else
         if (p0==9) then
          (nn p2).bind λc=>
          some (wd .u64 p1 p2,true)
         else
          if (p0==10) then
           (nn p2).bind λd=>
           some (iE .u64 p1 p2,true)
          else
           some (0,false)
def xP(p0:zh):Option Bool:=
 some (p0.Lo==p0.Hi)
def kV(p0:zh)(p1:zh):Option zh:=
 (FM p0.Hi p1.Hi 0).bind λa=>
 if decide (a.2>0) then
  bT.bind λb=>
  some b
 else
  some (zh.mk (xS (p0.Lo+p1.Lo)) a.1)
def ko(p0:Int)(p1:Int):Option (Int×Int):=
 some (xS ((xS ((xS ((iE .u64 p0 32)*(iE .u64 p1 32)))+(iE .u64 (xS ((xS ((iE .u64 p0 32)*(wc .u64 p1 4294967295)))+(iE .u64 (xS ((wc .u64 p0 4294967295)*(wc .u64 p1 4294967295))) 32))) 32)))+(iE .u64 (xS ((wc .u64 (xS ((xS ((iE .u64 p0 32)*(wc .u64 p1 4294967295)))+(iE .u64 (xS ((wc .u64 p0 4294967295)*(wc .u64 p1 4294967295))) 32))) 4294967295)+(xS ((wc .u64 p0 4294967295)*(iE .u64 p1 32))))) 32)),xS (p0*p1))
def bU(p0:zh)(p1:zh):Option zh:=
 (ko p0.Hi p1.Hi).bind λa=>
 if decide (a.1>0) then
  bT.bind λb=>
  some b
 else
  some (zh.mk (xS (p0.Lo*p1.Lo)) a.2)
def bV(p0:zh)(p1:zh):Option zh:=
 if (p1.Lo==0) then
  some (zh.mk 0 p0.Hi)
 else
  (nz p1.Hi).bind λa=>
  (nz p1.Lo).bind λb=>
  some (zh.mk (xS (p0.Lo.tdiv p1.Hi)) (xS (p0.Hi.tdiv p1.Lo)))
def gQ(p0:zh)(p1:zh):Option zh:=
 if (p1.Lo==0) then
  some (zh.mk 0 p0.Hi)
 else
  if decide (p0.Hi<p1.Lo) then
   some p0
  else
   some (zh.mk 0 (mV p0.Hi (xS (p1.Hi-1))))
def gv(p0:Int):Option Int:=
 (if decide (p0>=4294967296) then
  some (iE .u64 p0 32,32)
 else
  some (p0,0)).bind λa=>
 (if decide (a.1>=65536) then
  some (iE .u64 a.1 16,w64 (a.2+16))
 else
  some (a.1,a.2)).bind λb=>
 (if decide (b.1>=256) then
  some (iE .u64 b.1 8,w64 (b.2+8))
 else
  some (b.1,b.2)).bind λc=>
 (ue (⟨[0,1,2,2,3,3,3,3,4,4,4,4,4,4,4,4,5,5,5,5,5,5,5,5,5,5,5,5,5,5,5,5,6,6,6,6,6,6,6,6,6,6,6,6,6,6,6,6,6,6,6,6,6,6,6,6,6,6,6,6,6,6,6,6,7,7,7,7,7,7,7,7,7,7,7,7,7,7,7,7,7,7,7,7,7,7,7,7,7,7,7,7,7,7,7,7,7,7,7,7,7,7,7,7,7,7,7,7,7,7,7,7,7,7,7,7,7,7,7,7,7,7,7,7,7,7,7,7,8,8,8,8,8,8,8,8,8,8,8,8,8,8,8,8,8,8,8,8,8,8,8,8,8,8,8,8,8,8,8,8,8,8,8,8,8,8,8,8,8,8,8,8,8,8,8,8,8,8,8,8,8,8,8,8,8,8,8,8,8,8,8,8,8,8,8,8,8,8,8,8,8,8,8,8,8,8,8,8,8,8,8,8,8,8,8,8,8,8,8,8,8,8,8,8,8,8,8,8,8,8,8,8,8,8,8,8,8,8,8,8,8,8,8,8,8,8,8,8,8,8,8,8,8,8,8,8].toArray⟩) (IntKind.u8.wrap c.1)).bind λd=>
 some (w64 (c.2+(w64 d)))
def fy(p0:Int):Option Int:=
 (gv p0).bind λa=>
 (nn a).bind λb=>
 some (xS ((wd .u64 1 a)-1))
def gR(p0:zh)(p1:zh):Option zh:=
 ((xP p1).bind λa=>
 if (!a) then
  some true
 else
  (gv p0.Hi).bind λb=>
  if decide (b>0) then
   if decide (p1.Lo>64) then
    some true
   else
    (gv p0.Hi).bind λc=>
    some (decide ((xS ((xS c)+p1.Lo))>64))
  else
   some false).bind λd=>
 if d then
  bT.bind λe=>
  some e
 else
  (nn p1.Lo).bind λf=>
  (nn p1.Lo).bind λg=>
  some (zh.mk (wd .u64 p0.Lo p1.Lo) (wd .u64 p0.Hi p1.Lo))
def nL(p0:Int)(p1:zh)(p2:zh):Option (zh×Bool):=
 (ga p0 p1.Lo p2.Lo).bind λa=>
 (if (!a.2) then
  some true
 else
  (vF p1).bind λb=>
  if (!b) then
   some true
  else
   (vF p2).bind λc=>
   some (!c)).bind λd=>
 if d then
  some ((zh.mk 0 0),false)
 else
  ((xP p1).bind λe=>
  if e then
   (xP p2).bind λf=>
   some f
  else
   some false).bind λg=>
  if g then
   (kS a.1).bind λh=>
   some (h,true)
  else
   if (p0==1) then
    (kV p1 p2).bind λj=>
    some (j,true)
   else
    if (p0==2) then
     if decide (p1.Lo<p2.Hi) then
      bT.bind λl=>
      some (l,true)
     else
      some ((zh.mk (xS (p1.Lo-p2.Hi)) (xS (p1.Hi-p2.Lo))),true)
    else
     if (p0==3) then
      (bU p1 p2).bind λn=>
      some (n,true)
     else
      if (p0==4) then
       (bV p1 p2).bind λq=>
       some (q,true)
      else
       if (p0==5) then
        (gQ p1 p2).bind λv=>
        some (v,true)
       else
        if (p0==6) then
         some ((zh.mk 0 (mV p1.Hi p2.Hi)),true)
        else
         if (p0==7) then
          (fy (bOr .u64 p1.Hi p2.Hi)).bind λz=>
          some ((zh.mk (pN p1.Lo p2.Lo) z),true)
         else
          if (p0==8) then
           (fy (bOr .u64 p1.Hi p2.Hi)).bind λA=>
           some ((zh.mk 0 A),true)
          else
           if (p0==9) then
            (gR p1 p2).bind λB=>
            some (B,true)
           else
            (nn p2.Hi).bind λC=>
            (nn p2.Lo).bind λD=>
            some ((zh.mk (iE .u64 p1.Lo p2.Hi) (iE .u64 p1.Hi p2.Lo)),true)
def dY(p0:zj)(p1:Int)(a:zf×(Nat->zi))(c:Nat)(again:Unit->Option (Unit⊕((Nat->zi)×Int)))(f:Unit):Option (Unit⊕((Nat->zi)×Int)):=
 (ain 8 (c:Int)).bind λb=>
 (idx p0.came (w64 (p1-a.1.D))).bind λd=>
 (kj (a.2 b) (d b)).bind λe=>
 if (!e) then
  some (.inr (a.2,33))
 else
  again ()
def vo(fu:Nat)(p0:zj)(p1:Int):Option ((Nat->zi)×Int):=
 ((idx p0.SC.Code p1).bind λf=>
 (idx p0.came p1).bind λg=>
 some (f,g)).bind λa=>
 (ki a.1).bind λh=>
 (if h then
  (dP a.1 a.2).bind λj=>
  some j
 else
  some (zi.mk 0 (zh.mk 0 0) 0)).bind λb=>
 (ain 8 a.1.A).bind λc=>
 if (a.1.Op==0) then
  if (b.RZ==0) then
   some (a.2,33)
  else
   (ain 8 a.1.D).bind λl=>
   some ((aset a.2 l b),0)
 else
  if (a.1.Op==11) then
   bT.bind λn=>
   (va n).bind λq=>
   (ain 8 a.1.D).bind λv=>
   (vE ([b])).bind λz=>
   (gu b).bind λB=>
   (eS ([z,B])).bind λC=>
   some ((aset a.2 v q),C)
  else
   if (a.1.Op==12) then
    (vE ([(a.2 c),b])).bind λE=>
    (gu b).bind λF=>
    (eS ([E,F])).bind λG=>
    some (a.2,G)
   else
    if (a.1.Op==13) then
     bT.bind λH=>
     (va H).bind λI=>
     (ain 8 a.1.D).bind λJ=>
     some ((aset a.2 J I),0)
    else
     if (a.1.Op==14) then
      (ain 8 a.1.D).bind λd=>
      if decide (a.1.SU>=((p0.SC.Maps).length:Int)) then
       some ((aset a.2 d (zi.mk 2 (zh.mk 0 0) a.1.SU)),35)
      else
       some ((aset a.2 d (zi.mk 2 (zh.mk 0 0) a.1.SU)),0)
     else
      if (a.1.Op==15) then
       some (a.2,0)
      else
       (if (a.1.Op==16) then
        some (a.1.Op==16)
       else
        if (a.1.Op==17) then
         some (a.1.Op==17)
        else
         if (a.1.Op==18) then
          some (a.1.Op==18)
         else
          some (a.1.Op==19)).bind λK=>
       if K then
        (vE ([(a.2 c),b])).bind λL=>
        some (a.2,L)
       else
        if (a.1.Op==20) then
         (vE ([(a.2 c)])).bind λe=>
         if (e !=0) then
          some (a.2,e)
         else
          (jN (dY p0 p1 a) (λ(W:Unit)=>(.inl ())) 8 0 ()).bind λM=>match M with
           |.inl X=>
            some (a.2,0)
           |.inr r=>some r
        else
         if (a.1.Op==21) then
          (xT fu a.1.SU).bind λN=>
          (cut (Hj 8 a.2) 1 (w64 (1+((N).length:Int)))).bind λO=>
          (eT fu a.1.SU O).bind λP=>
          (gP a.1.SU).bind λQ=>
          some ((aset a.2 0 Q.1),P)
         else
          if (a.1.Op==22) then
           (vE ([(a.2 c)])).bind λR=>
           some (a.2,R)
          else
           (nL a.1.Op (a.2 c).SD b.SD).bind λS=>
           (va S.1).bind λT=>
           (ain 8 a.1.D).bind λU=>
           (vE ([(a.2 c),b])).bind λV=>
           some ((aset a.2 U T),V)
def rh(p0:List zh)(c:Nat)(again:zh->Option (zh⊕(zh×Bool)))(b:zh):Option (zh⊕(zh×Bool)):=
 (idx p0 (c:Int)).bind λa=>
 (vF a).bind λd=>
 if (!d) then
  some (.inr ((zh.mk 0 0),false))
 else
  again (zh.mk (mV b.Lo a.Lo) (pN b.Hi a.Hi))
def lW(p0:List zh):Option (zh×Bool):=
 (jN (rh p0) (λ(a:zh)=>(.inl a)) (p0).length 0 (zh.mk 18446744073709551615 0)).bind λb=>match b with
  |.inl c=>
   if (((p0).length:Int)==0) then
    some ((zh.mk 0 0),false)
   else
    some (c,true)
  |.inr r=>some r
def fz(p0:zi)(p1:zi):Option zi:=
 if ((p0.RZ !=p1.RZ)||(p0.SO !=p1.SO)) then
  some (zi.mk 0 (zh.mk 0 0) 0)
 else
  if (p0.RZ==1) then
   (lW ([p0.SD,p1.SD])).bind λa=>
   (va a.1).bind λb=>
   some b
  else
   some p0
def dF(p1:Int)(p2:Nat->zi)(d:Nat)(again:zj->Option zj)(a:zj):Option zj:=
 (idx a.came p1).bind λc=>
 (ain 8 (d:Int)).bind λb=>
 (fz (c b) (p2 b)).bind λe=>
 again {a with came:=(a.came.set (Int.toNat p1) (aset c b e))}
def jg(p0:zj)(p1:Int)(p2:Nat->zi):Option zj:=
 (idx p0.any p1).bind λa=>
 if (!a) then
  (idx p0.came p1).bind λd=>
  some {p0 with came:=(p0.came.set (Int.toNat p1) p2),any:=(p0.any.set (Int.toNat p1) true)}
 else
  (jN (dF p1 p2) (λ(b:zj)=>b) 8 0 p0).bind λc=>
  some c
def aU(p0:Int)(p1:Int)(p2:Int):Option (Bool×Bool):=
 if (p0==16) then
  some ((p1==p2),true)
 else
  if (p0==17) then
   some ((p1 !=p2),true)
  else
   if (p0==18) then
    some (decide (p1<p2),true)
   else
    if (p0==19) then
     some (decide (p1>=p2),true)
    else
     some (false,false)
def lX(p0:List zh)(c:Nat)(again:zh->Option (zh⊕(zh×Bool)))(b:zh):Option (zh⊕(zh×Bool)):=
 (idx p0 (c:Int)).bind λa=>
 (vF a).bind λd=>
 if (!d) then
  some (.inr ((zh.mk 0 0),false))
 else
  again (zh.mk (pN b.Lo a.Lo) (mV b.Hi a.Hi))
def dZ(p0:List zh):Option (zh×Bool):=
 bT.bind λb=>
 (jN (lX p0) (λ(c:zh)=>(.inl c)) (p0).length 0 b).bind λd=>match d with
  |.inl a=>
   (if (((p0).length:Int)==0) then
    some true
   else
    (vF a).bind λe=>
    some (!e)).bind λf=>
   if f then
    some ((zh.mk 0 0),false)
   else
    some (a,true)
  |.inr r=>some r
def dG(p0:Int)(p1:zh)(p2:zh)(p3:Bool):Option (zh×Bool):=
 (aU p0 0 0).bind λd=>
 (if (!d.2) then
  some true
 else
  (vF p1).bind λe=>
  if (!e) then
   some true
  else
   (vF p2).bind λf=>
   some (!f)).bind λg=>
 if g then
  some ((zh.mk 0 0),false)
 else
  (xP p2).bind λh=>
  if (!h) then
   some (p1,true)
  else
   (if ((p0==18)&&p3) then
    some ((p0==18)&&p3)
   else
    if (p0==19) then
     some (!p3)
    else
     some false).bind λj=>
   if j then
    if (p2.Lo==0) then
     some ((zh.mk 0 0),false)
    else
     (dZ ([p1,(zh.mk 0 (xS (p2.Lo-1)))])).bind λa=>
     some (a.1,a.2)
   else
    (if (p0==18) then
     some (p0==18)
    else
     some (p0==19)).bind λl=>
    if l then
     (dZ ([p1,(zh.mk p2.Lo 18446744073709551615)])).bind λb=>
     some (b.1,b.2)
    else
     (if ((p0==16)&&p3) then
      some ((p0==16)&&p3)
     else
      if (p0==17) then
       some (!p3)
      else
       some false).bind λn=>
     if n then
      (dZ ([p1,p2])).bind λc=>
      some (c.1,c.2)
     else
      if ((p1.Lo==p2.Lo)&&((p1.Hi==p2.Hi)&&true)) then
       some ((zh.mk 0 0),false)
      else
       if (p1.Lo==p2.Lo) then
        some ((zh.mk (xS (p1.Lo+1)) p1.Hi),true)
       else
        if (p1.Hi==p2.Lo) then
         some ((zh.mk p1.Lo (xS (p1.Hi-1))),true)
        else
         some (p1,true)
def dH(p1:Int)(p2:Nat->zi)(a:zf)(f:Int×Bool×Bool)(g:zi)(h:Nat)(again:zj->Option zj)(b:zj):Option zj:=
 (idx ([true,false]) (h:Int)).bind λc=>
 (if (!c) then
  some (w64 (p1+1))
 else
  some (w64 (p1+f.1))).bind λj=>
 ((ain 8 a.A).bind λl=>
 (dG a.Op (p2 l).SD g.SD c).bind λd=>
 some (d.1,d.2)).bind λe=>
 if e.2 then
  (va e.1).bind λn=>
  (ain 8 a.A).bind λq=>
  (jg b j (aset p2 q n)).bind λv=>
  again v
 else
  again b
def xQ(p0:zj)(p1:Int)(p2:Nat->zi):Option zj:=
 (idx p0.SC.Code p1).bind λb=>
 (kQ b).bind λa=>
 if ((!a.2.1)||decide (a.1<0)) then
  (if a.2.2 then
   (jg p0 (w64 (p1+1)) p2).bind λc=>
   some c
  else
   some p0).bind λd=>
  some d
 else
  if (!a.2.2) then
   (jg p0 (w64 (p1+a.1)) p2).bind λe=>
   some e
  else
   (dP b p2).bind λf=>
   (jN (dH p1 p2 b a f) (λ(g:zj)=>g) 2 0 p0).bind λh=>
   some h
def bW(fu:Nat)(a:Nat)(again:zj->Option (zj⊕((Option zj)×Int×Int)))(b:zj):Option (zj⊕((Option zj)×Int×Int)):=
 (idx b.any (a:Int)).bind λe=>
 if (!e) then
  again b
 else
  (xq b (a:Int)).bind λd=>
  (vo fu d (a:Int)).bind λc=>
  if (c.2 !=0) then
   some (.inr (none,(a:Int),c.2))
  else
   (xQ d (a:Int) c.1).bind λf=>
   again f
def jX(fu:Nat)(p0:zC):Option ((Option zj)×Int×Int):=
 (kg p0.Maps).bind λc=>
 if (!c) then
  some (none,0,2)
 else
  (eR p0.Code).bind λa=>
  if (a.2 !=0) then
   some (none,a.1,a.2)
  else
   ((mkLen ((p0.Code).length:Int) 256).bind λd=>
   (mkLen ((p0.Code).length:Int) 1).bind λe=>
   some (zj.mk p0 (List.replicate d (λ_=>(zi.mk 0 (zh.mk 0 0) 0))) (List.replicate e false) ([]:List qA))).bind λb=>
   (kh p0.Code).bind λf=>
   (idx b.any 0).bind λl=>
   (jN (bW fu) (λ(g:zj)=>(.inl g)) (p0.Code).length 0 {b with any:=(b.any.set (Int.toNat 0) true),loops:=f.1}).bind λh=>match h with
    |.inl j=>
     some ((some j),0,0)
    |.inr r=>some r
def vp(fu:Nat)(p0:zC):Option (Int×Int):=
 (jX fu p0).bind λa=>
 vB a.1
  (some (a.2.1,a.2.2))
  (λb=>
  some (a.2.1,a.2.2))
def bI(p0:qQ):Option qQ:=
 some (qQ.mk (λ_=>0))
def eU(fu:Nat)(p0:zC)(p1:qv)(p2:zl):Option ((Option zp)×Int×zl):=
 (vp fu p0).bind λa=>
 if (a.2 !=0) then
  some (none,a.2,p2)
 else
  (bI p2.Tb).bind λb=>
  (jf p0.Maps).bind λc=>
  (zS p0.Code).bind λd=>
  some ((some (zp.mk p1 (zC.mk c d) (λ_=>0) (λ_=>0) 0 0 0)),0,(zl.mk b p2.SF))
def jV(fu:Nat)(p0:zm)(p1:Int)(p2:Int)(p3:zC):Option (Int×zm):=
 if (p0.Si !=1) then
  some (41,p0)
 else
  (eU fu p3 p0.SL.SP.Sz p0.SX).bind λa=>
  vB a.1
   (if (a.2.1 !=0) then
    some (a.2.1,{p0 with SX:=a.2.2})
   else
    some (0,(zm.mk a.2.2 p0.Tm 2 (bu.mk p0.SL.hook p0.SL.SP p1 p2 p0.SL.calls none))))
   (λb=>
   if (a.2.1 !=0) then
    some (a.2.1,{p0 with SX:=a.2.2})
   else
    some (0,(zm.mk a.2.2 p0.Tm 2 (bu.mk p0.SL.hook p0.SL.SP p1 p2 p0.SL.calls (some b)))))
def vP(p0:zm):Option (Int×Int):=
 some (p0.SL.SA,p0.SL.prog)
def lY(p0:Int):Option (Int×Bool):=
 (cU p0).bind λa=>
 some (a.1.asks,a.1.TS)
def jY(p0:jq)(p1:Int):Option (Int×Int×jq):=
 if (decide (p1<0)||decide (p1>=16)) then
  some (0,35,p0)
 else
  (ain 16 p1).bind λa=>
  some (((aset p0.counts a (xS ((p0.counts a)+1))) a),0,(jq.mk (aset p0.counts a (xS ((p0.counts a)+1)))))
def jW(fu:Nat)(p0:zp)(p1:Int)(g0:zl):Option (qZ×zp×zl):=
 (lY p1).bind λc=>
 if c.2 then
  (idx p0.module.Maps (p0.regs 1)).bind λd=>
  (xT fu p1).bind λe=>
  (if decide (((e).length:Int)>2) then
   some (p0.regs 3)
  else
   some 0).bind λf=>
  some ((qZ.mk 2 p0.SB (zg.mk d c.1 (p0.regs 2) f) 0),{p0 with state:=1},g0)
 else
  (if (p1==5) then
   (jY g0.SF (w64 (p0.regs 1))).bind λb=>
   some ({p0 with regs:=(aset p0.regs 0 b.1)},(zl.mk g0.Tb b.2.2),(qZ.mk 1 p0.SB (zg.mk 0 0 0 0) b.1))
  else
   some ({p0 with regs:=(aset p0.regs 0 0)},g0,(qZ.mk 3 p0.SB (zg.mk 0 0 0 0) (p0.regs 1)))).bind λa=>
  some (a.2.2,(zp.mk a.1.Sz a.1.module a.1.regs a.1.LE (w64 (a.1.SB+1)) a.1.steps a.1.state),a.2.1)
def jE(p0:zp)(p1:zf):Option Int:=
 if (p1.B==8) then
  some (xS p1.SU)
 else
  (ain 8 p1.B).bind λa=>
  some (p0.regs a)
def xH(p0:qQ)(p1:Int):Option (Int×Int):=
 if (decide (p1<0)||decide (p1>=16)) then
  some (0,35)
 else
  (ain 16 p1).bind λa=>
  some ((p0.Sy a),0)
def xr(p0:qQ)(p1:Int)(p2:Int):Option (Int×qQ):=
 if (decide (p1<0)||decide (p1>=16)) then
  some (35,p0)
 else
  (ain 16 p1).bind λa=>
  some (0,(qQ.mk (aset p0.Sy a p2)))
def jy(p0:zp)(p1:zf)(g0:zl):Option (Int×zp×zl):=
 if (p1.Op==0) then
  (jE p0 p1).bind λe=>
  (ain 8 p1.D).bind λf=>
  some (1,{p0 with regs:=(aset p0.regs f e)},g0)
 else
  if (p1.Op==11) then
   (jE p0 p1).bind λg=>
   (xH g0.Tb (w64 g)).bind λh=>
   (ain 8 p1.D).bind λj=>
   some (1,{p0 with regs:=(aset p0.regs j h.1)},g0)
  else
   if (p1.Op==12) then
    (ain 8 p1.A).bind λl=>
    (jE p0 p1).bind λn=>
    (xr g0.Tb (w64 n) (p0.regs l)).bind λq=>
    some (1,p0,(zl.mk q.2 g0.SF))
   else
    if (p1.Op==13) then
     (ain 8 p1.D).bind λa=>
     if (p1.SU==1) then
      some (1,{p0 with regs:=(aset (aset p0.regs a p0.Sz.A) a p0.Sz.B)},g0)
     else
      some (1,{p0 with regs:=(aset p0.regs a p0.Sz.A)},g0)
    else
     if (p1.Op==14) then
      (ain 8 p1.D).bind λv=>
      some (1,{p0 with regs:=(aset p0.regs v (xS p1.SU))},g0)
     else
      if (p1.Op==15) then
       some (w64 (p1.D+1),p0,g0)
      else
       if (p1.Op==20) then
        ((ain 8 p1.A).bind λz=>
        if ((p0.regs z) !=0) then
         (ain 64 p0.SB).bind λC=>
         some (decide ((p0.LE C)<p1.SU))
        else
         some false).bind λE=>
        if E then
         (ain 64 p0.SB).bind λb=>
         some (w64 (0-p1.D),{p0 with LE:=(aset p0.LE b (w64 ((p0.LE b)+1)))},g0)
        else
         (ain 64 p0.SB).bind λF=>
         some (1,{p0 with LE:=(aset p0.LE F 0)},g0)
       else
        (ain 8 p1.A).bind λc=>
        (jE p0 p1).bind λG=>
        (ga p1.Op (p0.regs c) G).bind λd=>
        if d.2 then
         (ain 8 p1.D).bind λH=>
         some (1,{p0 with regs:=(aset p0.regs H d.1)},g0)
        else
         (jE p0 p1).bind λI=>
         (aU p1.Op (p0.regs c) I).bind λJ=>
         if J.1 then
          some (w64 (p1.D+1),p0,g0)
         else
          some (1,p0,g0)
def qN(fu:Nat)(p0:zp)(g0:zl):Option (qZ×zp×zl):=
 if (p0.state==1) then
  some ((qZ.mk 5 p0.SB (zg.mk 0 0 0 0) 0),p0,g0)
 else
  if (p0.state==2) then
   (idx p0.module.Code p0.SB).bind λd=>
   (ain 8 d.A).bind λe=>
   some ((qZ.mk 6 p0.SB (zg.mk 0 0 0 0) (p0.regs e)),p0,g0)
  else
   (idx p0.module.Code p0.SB).bind λb=>
   if (b.Op==21) then
    (jW fu {p0 with steps:=(w64 (p0.steps+1))} b.SU g0).bind λc=>
    some (c.1,c.2.1,c.2.2)
   else
    if (b.Op==22) then
     (ain 8 b.A).bind λf=>
     some ((qZ.mk 4 p0.SB (zg.mk 0 0 0 0) (p0.regs f)),{p0 with steps:=(w64 (p0.steps+1)),state:=2},g0)
    else
     (jy {p0 with steps:=(w64 (p0.steps+1))} b g0).bind λa=>
     some ((qZ.mk 1 p0.SB (zg.mk 0 0 0 0) 0),(zp.mk a.2.1.Sz a.2.1.module a.2.1.regs a.2.1.LE (w64 (p0.SB+a.1)) a.2.1.steps a.2.1.state),a.2.2)
def au(p0:zp):Option Int:=
 some p0.steps
def AY(p0:List zN)(c:Nat)(again:zN->Option zN)(a:zN):Option zN:=
 (idx p0 (c:Int)).bind λb=>
 again (zN.mk (xS (a.Ud+b.Ud)) (xS (a.Ts+b.Ts)) (xS (a.TN+b.TN)) (xS (a.Calls+b.Calls)) (xS (a.Sum+b.Sum)))
def lZ(p0:List zN):Option zN:=
 (jN (AY p0) (λ(a:zN)=>a) (p0).length 0 (zN.mk 0 0 0 0 0)).bind λb=>
 some b
def bX(p0:zR)(p1:Int)(p2:Int)(p3:Int)(p4:Int):Option (Int×zR):=
 (eP p1).bind λb=>
 if (!b) then
  some (2,p0)
 else
  (ain 4 p1).bind λa=>
  (lZ ([(p0.Sh a),(zN.mk 1 0 p2 p3 p4)])).bind λc=>
  some (0,(zR.mk (aset p0.Sh a c)))
def ja(fu:Nat)(p0:zm):Option (qZ×Bool×zm):=
 if (p0.Si !=2) then
  some ((qZ.mk 0 0 (zg.mk 0 0 0 0) 0),false,p0)
 else
  p0.SL.TR.bind λb=>
  (qN fu b p0.SX).bind λa=>
  if (a.1.RZ==2) then
   some (a.1,true,(zm.mk a.2.2 p0.Tm 3 (bu.mk p0.SL.hook p0.SL.SP p0.SL.SA p0.SL.prog (xS (p0.SL.calls+1)) (some a.2.1))))
  else
   if (a.1.RZ==4) then
    (au a.2.1).bind λc=>
    (bX p0.Tm p0.SL.hook (xS c) p0.SL.calls a.1.SV).bind λd=>
    (bH (zm.mk a.2.2 d.2 p0.Si (bu.mk p0.SL.hook p0.SL.SP p0.SL.SA p0.SL.prog p0.SL.calls (some a.2.1)))).bind λe=>
    some (a.1,true,e)
   else
    some (a.1,true,{p0 with SX:=a.2.2,SL:=(bu.mk p0.SL.hook p0.SL.SP p0.SL.SA p0.SL.prog p0.SL.calls (some a.2.1))})
def fR(p0:zD)(p1:List Int)(c:Nat)(again:(Nat->Bool)->Option (Unit⊕(Int×zD)))(b:(Nat->Bool)):Option (Unit⊕(Int×zD)):=
 (idx p1 (c:Int)).bind λa=>
 ((vg p0 a).bind λd=>
 if (!d) then
  some true
 else
  (ain 4 a).bind λe=>
  some (b e)).bind λf=>
 if f then
  some (.inr (2,p0))
 else
  (ain 4 a).bind λg=>
  again (aset b g true)
def fS(p0:zD)(p1:List Int)(a:Nat)(again:Unit->Option (Unit⊕(Int×zD)))(d:Unit):Option (Unit⊕(Int×zD)):=
 (idx p1 (a:Int)).bind λb=>
 (idx p0.in_ b).bind λc=>
 if (c==0) then
  some (.inr (41,p0))
 else
  again ()
def fT(p1:List Int)(c:Nat)(again:zD->Option zD)(a:zD):Option zD:=
 (idx p1 (c:Int)).bind λb=>
 (idx a.in_ b).bind λd=>
 again (zD.mk a.TC (a.in_.set (Int.toNat b) 0))
def vi(p0:zD)(p1:List Int):Option (Int×zD):=
 (jN (fR p0 p1) (λ(e:(Nat->Bool))=>(.inl ())) (p1).length 0 (λ_=>false)).bind λa=>match a with
  |.inl f=>
   (jN (fS p0 p1) (λ(g:Unit)=>(.inl ())) (p1).length 0 ()).bind λb=>match b with
    |.inl h=>
     (jN (fT p1) (λ(c:zD)=>c) (p1).length 0 p0).bind λd=>
     some (0,d)
    |.inr r=>some r
  |.inr r=>some r
def gw(p0:Int)(p1:zk):Option Int:=
 (if (p0==0) then
  some (p0==0)
 else
  some (p0==4)).bind λa=>
 if a then
  some p1.SV
 else
  (if (p0==1) then
   some (p0==1)
  else
   some (p0==3)).bind λb=>
  if b then
   if p1.Found then
    some 1
   else
    some 0
  else
   if (p0==2) then
    if (p1.E==0) then
     some 1
    else
     some 0
   else
    some 0
def jF(p0:zp)(p1:zk)(g0:zl):Option (Int×zp):=
 if (p0.state !=1) then
  some (2,p0)
 else
  (idx p0.module.Code p0.SB).bind λa=>
  (gw a.SU p1).bind λb=>
  some (0,{p0 with regs:=(aset p0.regs 0 b),SB:=(w64 (p0.SB+1)),state:=0})
def xi(p0:zm)(p1:zk):Option (Int×zm):=
 if (p0.Si !=3) then
  some (41,p0)
 else
  p0.SL.TR.bind λb=>
  (jF b p1 p0.SX).bind λa=>
  some (a.1,{p0 with Si:=2,SL:=(bu.mk p0.SL.hook p0.SL.SP p0.SL.SA p0.SL.prog p0.SL.calls (some a.2))})
def cz(p0:za)(again:zE->Option zE)(a:zE):Option zE:=
 (idx p0.RX a.SN).bind λb=>
 (xM b).bind λc=>
 if (c.Tp==0) then
  (nz ((p0.RX).length:Int)).bind λd=>
  again {a with SN:=((w64 (a.SN+1)).tmod ((p0.RX).length:Int))}
 else
  some a
def dh(fu:Nat)(p0:za)(p1:Int):Option za:=
 (zX p0).bind λd=>
 (idx p0.LT (w64 (p1-d))).bind λb=>
 (xp b.RY).bind λe=>
 (jO b.RY).bind λj=>
 if (j==0) then
  if p0.closed then
   (room (p0.SE.length+([(zd.mk 15 p1 0 0 0 0 0 0 0 0 (zg.mk 0 0 0 0) (zk.mk 0 false 0 false 0 0) 0 0)]).length) 176).bind λL=>
   (aT p0.Sn ([p1])).bind λz=>
   some {p0 with Sn:=z.2,LT:=(p0.LT.set (Int.toNat (w64 (p1-d))) {b with Sk:=true}),SE:=(p0.SE++[(zd.mk 15 p1 0 0 0 0 0 0 0 0 (zg.mk 0 0 0 0) (zk.mk 0 false 0 false 0 0) 0 0)])}
  else
   (loop (cz p0) fu b).bind λg=>
   (idx p0.RX g.SN).bind λA=>
   (xZ A p0.SK).bind λl=>
   (nz ((p0.RX).length:Int)).bind λM=>
   (vK g.RY g.SN l.1).bind λB=>
   (room (p0.SE.length+([(zd.mk 5 p1 0 0 0 l.1.N g.SN 0 0 0 (zg.mk 0 0 0 0) (zk.mk 0 false 0 false 0 0) 0 0)]).length) 176).bind λO=>
   some {p0 with LT:=(p0.LT.set (Int.toNat (w64 (p1-d))) {g with RY:=B.2,SN:=((w64 (g.SN+1)).tmod ((p0.RX).length:Int))}),RX:=(p0.RX.set (Int.toNat g.SN) l.2.2),SE:=(p0.SE++[(zd.mk 5 p1 0 0 0 l.1.N g.SN 0 0 0 (zg.mk 0 0 0 0) (zk.mk 0 false 0 false 0 0) 0 0)])}
 else
  if (j==1) then
   (jo p0.Fd.Sr e.1).bind λh=>
   if (!h.2.2) then
    (xG b.RY).bind λC=>
    (room (p0.SE.length+([(zd.mk 9 p1 0 0 0 e.2.N e.1 0 0 0 (zg.mk 0 0 0 0) (zk.mk 0 false 0 false 0 0) 0 0)]).length) 176).bind λP=>
    some {p0 with LT:=(p0.LT.set (Int.toNat (w64 (p1-d))) {b with RY:=C.2}),SE:=(p0.SE++[(zd.mk 9 p1 0 0 0 e.2.N e.1 0 0 0 (zg.mk 0 0 0 0) (zk.mk 0 false 0 false 0 0) 0 0)])}
   else
    (qS p0.Fd h.2.1).bind λD=>
    (vh p0.Fd.Sq (w64 (p1-d))).bind λE=>
    (jV fu b.RY h.1 h.2.1 D.1).bind λF=>
    (room (p0.SE.length+([(zd.mk 6 p1 0 0 0 e.2.N e.1 h.2.1 h.1 0 (zg.mk 0 0 0 0) (zk.mk 0 false 0 false 0 0) 0 0)]).length) 176).bind λQ=>
    some {p0 with Fd:=(zb.mk p0.Fd.Sr p0.Fd.Tl E.2.2 p0.Fd.Sh p0.Fd.maps p0.Fd.given p0.Fd.Su p0.Fd.waiting),LT:=(p0.LT.set (Int.toNat (w64 (p1-d))) {b with RY:=F.2}),SE:=(p0.SE++[(zd.mk 6 p1 0 0 0 e.2.N e.1 h.2.1 h.1 0 (zg.mk 0 0 0 0) (zk.mk 0 false 0 false 0 0) 0 0)])}
  else
   if (j==2) then
    (xp b.RY).bind λf=>
    (vP b.RY).bind λc=>
    (ja fu b.RY).bind λa=>
    if (a.1.RZ==3) then
     (room (p0.SE.length+([(zd.mk 8 p1 0 0 0 f.2.N 0 c.2 c.1 a.1.Pc (zg.mk 0 0 0 0) (zk.mk 0 false 0 false 0 0) a.1.SV 0)]).length) 176).bind λR=>
     some {p0 with LT:=(p0.LT.set (Int.toNat (w64 (p1-d))) {b with RY:=a.2.2}),SE:=(p0.SE++[(zd.mk 8 p1 0 0 0 f.2.N 0 c.2 c.1 a.1.Pc (zg.mk 0 0 0 0) (zk.mk 0 false 0 false 0 0) a.1.SV 0)])}
    else
     if (a.1.RZ==2) then
      (aq a.1.Item.Tc ((p0.Fn).length:Int)).bind λv=>
      (idx p0.Fn v).bind λG=>
      (jJ G ([(zt.mk p1 0 false a.1.Item)])).bind λH=>
      (room (p0.SE.length+([(zd.mk 16 p1 0 0 0 f.2.N 0 c.2 c.1 a.1.Pc a.1.Item (zk.mk 0 false 0 false 0 0) a.1.SV 0)]).length) 176).bind λS=>
      some {p0 with LT:=(p0.LT.set (Int.toNat (w64 (p1-d))) {b with RY:=a.2.2,pc:=a.1.Pc}),Fn:=(p0.Fn.set (Int.toNat v) H.2),SE:=(p0.SE++[(zd.mk 16 p1 0 0 0 f.2.N 0 c.2 c.1 a.1.Pc a.1.Item (zk.mk 0 false 0 false 0 0) a.1.SV 0)])}
     else
      if (a.1.RZ==4) then
       (zX {p0 with LT:=(p0.LT.set (Int.toNat (w64 (p1-d))) {b with RY:=a.2.2})}).bind λI=>
       (vi p0.Fd.Sq ([w64 (p1-I)])).bind λJ=>
       (room (p0.SE.length+([(zd.mk 9 p1 0 0 0 f.2.N f.1 c.2 c.1 a.1.Pc (zg.mk 0 0 0 0) (zk.mk 0 false 0 false 0 0) a.1.SV 0)]).length) 176).bind λT=>
       some {p0 with Fd:=(zb.mk p0.Fd.Sr p0.Fd.Tl J.2 p0.Fd.Sh p0.Fd.maps p0.Fd.given p0.Fd.Su p0.Fd.waiting),LT:=(p0.LT.set (Int.toNat (w64 (p1-d))) {b with RY:=a.2.2}),SE:=(p0.SE++[(zd.mk 9 p1 0 0 0 f.2.N f.1 c.2 c.1 a.1.Pc (zg.mk 0 0 0 0) (zk.mk 0 false 0 false 0 0) a.1.SV 0)])}
      else
       (room (p0.SE.length+([(zd.mk 7 p1 0 0 0 f.2.N 0 c.2 c.1 a.1.Pc (zg.mk 0 0 0 0) (zk.mk 0 false 0 false 0 0) a.1.SV 0)]).length) 176).bind λU=>
       some {p0 with LT:=(p0.LT.set (Int.toNat (w64 (p1-d))) {b with RY:=a.2.2}),SE:=(p0.SE++[(zd.mk 7 p1 0 0 0 f.2.N 0 c.2 c.1 a.1.Pc (zg.mk 0 0 0 0) (zk.mk 0 false 0 false 0 0) a.1.SV 0)])}
   else
    if (j==3) then
     (vP b.RY).bind λn=>
     b.Tw.bind λq=>
     (room (p0.SE.length+([(zd.mk 17 p1 0 0 0 e.2.N 0 n.2 n.1 b.pc (zg.mk 0 0 0 0) q 0 0)]).length) 176).bind λV=>
     (xi b.RY q).bind λK=>
     some {p0 with LT:=(p0.LT.set (Int.toNat (w64 (p1-d))) {b with RY:=K.2,Tw:=none}),SE:=(p0.SE++[(zd.mk 17 p1 0 0 0 e.2.N 0 n.2 n.1 b.pc (zg.mk 0 0 0 0) q 0 0)])}
    else
     some p0
def zO(p0:List zr):Option (List zr):=
 (room (([]:List zr).length+p0.length) 16).bind λa=>
 some (([]:List zr)++p0)
def vq(p0:qp):Option (List zr):=
 (zO p0.Sc).bind λa=>
 some a
def jz(p0:qo):Option (List zr):=
 match p0 with
 |.inl x=>(vq x).bind λq=>some q
 |.inr x=>(vq x.Tq).bind λq=>some q
def eV(p0:zc)(p1:Int):Option ((List zr)×Int):=
 if (decide (p1<0)||decide (p1>=((p0.maps).length:Int))) then
  some (([]:List zr),2)
 else
  (idx p0.maps p1).bind λa=>
  (jz a).bind λb=>
  some (b,0)
def oy(p0:za)(p1:Int)(c:Nat)(again:(List zr)->Option (List zr))(a:(List zr)):Option (List zr):=
 (idx p0.Fn (c:Int)).bind λd=>
 (eV d p1).bind λb=>
 (room (a.length+b.1.length) 16).bind λe=>
 again (a++b.1)
def gS(p0:za)(p1:Int):Option ((List zr)×Int):=
 if (decide (p1<0)||decide (p1>=((p0.Sv.Maps).length:Int))) then
  some (([]:List zr),2)
 else
  (jN (oy p0 p1) (λ(a:(List zr))=>a) (p0.Fn).length 0 ([]:List zr)).bind λb=>
  some (b,0)
def vG(p0:zr)(p1:Int):Option Int:=
 if decide (p0.Tc<p1) then
  some (-1)
 else
  if decide (p0.Tc>p1) then
   some 1
  else
   some 0
def qI(p0:List zr)(p1:Int)(again:(Int×Int)->Option Int)(a:Int×Int):Option Int:=
 if decide (a.1<a.2) then
  (idx p0 (w64 (iE .u64 (xS (w64 (a.1+a.2))) 1))).bind λb=>
  (vG b p1).bind λc=>
  if decide (c<0) then
   again (w64 ((w64 (iE .u64 (xS (w64 (a.1+a.2))) 1))+1),a.2)
  else
   again (a.1,w64 (iE .u64 (xS (w64 (a.1+a.2))) 1))
 else
  some a.1
def zM(fu:Nat)(p0:List zr)(p1:Int):Option (Int×Bool):=
 (loop (qI p0 p1) fu (0,((p0).length:Int))).bind λa=>
 (if decide (a<((p0).length:Int)) then
  (idx p0 a).bind λb=>
  (vG b p1).bind λc=>
  some (c==0)
 else
  some false).bind λd=>
 some (a,d)
def fh(fu:Nat)(p0:qp)(p1:Int):Option (Int×Bool):=
 (zM fu p0.Sc p1).bind λa=>
 some (a.1,a.2)
def ql(p0:List zr)(p1 p2:Int):Option (List zr):=L9 p0 p1 p2
def qm(p0:List zr)(p1:Int)(p2:List zr):Option ((List zr)×(List zr)):=OE 16 p0 p1 p2
def jP(fu:Nat)(p0:qp)(p1:Int)(p2:Int)(p3:Int):Option (zk×qp):=
 if (decide (p1<0)||decide (p1>=5)) then
  some ((zk.mk 2 false 0 false 0 0),p0)
 else
  (fh fu p0 p2).bind λa=>
  (if (a.2&&(p1 !=1)) then
   (idx p0.Sc a.1).bind λe=>
   some (zk.mk 0 a.2 e.SV false 0 0)
  else
   some (zk.mk 0 a.2 0 false 0 0)).bind λb=>
  if (p1==3) then
   if a.2 then
    (ql p0.Sc a.1 (w64 (a.1+1))).bind λf=>
    some (b,(qp.mk p0.cap f))
   else
    some (b,p0)
  else
   (if (p1==2) then
    some (p1==2)
   else
    some (p1==4)).bind λg=>
   if g then
    if ((!a.2)&&(((p0.Sc).length:Int)==p0.cap)) then
     some ((zk.mk 40 false 0 false 0 0),p0)
    else
     (if (!a.2) then
      (qm p0.Sc a.1 ([(zr.mk p2 0)])).bind λh=>
      some (qp.mk p0.cap h.1)
     else
      some p0).bind λc=>
     (if (p1==4) then
      some (xS (b.SV+p3),{b with SV:=(xS (b.SV+p3))})
     else
      some (p3,b)).bind λd=>
     (idx c.Sc a.1).bind λj=>
     some (d.2,(qp.mk c.cap (c.Sc.set (Int.toNat a.1) (zr.mk j.Tc d.1))))
   else
    some (b,p0)
def xU(p0:List Int)(p1:Int)(a:Nat)(again:Unit->Option (Unit⊕Int))(d:Unit):Option (Unit⊕Int):=
 (idx p0 (a:Int)).bind λb=>
 (bv b p1).bind λc=>
 if c then
  some (.inr (a:Int))
 else
  again ()
def qU(p0:List Int)(p1:Int):Option Int:=
 (jN (xU p0 p1) (λ(b:Unit)=>(.inl ())) (p0).length 0 ()).bind λa=>match a with
  |.inl c=>
   some (-1)
  |.inr r=>some r
def xI(p1:Int)(again:((List Int)×Int×Int)->Option ((List Int)×Int))(a:(List Int)×Int×Int):Option ((List Int)×Int):=
 if decide (a.2.2<((a.1).length:Int)) then
  (idx a.1 a.2.2).bind λb=>
  (bv b p1).bind λc=>
  if (!c) then
   (idx a.1 a.2.1).bind λd=>
   again ((a.1.set (Int.toNat a.2.1) b),w64 (a.2.1+1),w64 (a.2.2+1))
  else
   again (a.1,a.2.1,w64 (a.2.2+1))
 else
  some (a.1,a.2.1)
def qO(fu:Nat)(p0:List Int)(p1:Int):Option (List Int):=
 (qU p0 p1).bind λb=>
 if (b==(-1)) then
  some p0
 else
  (loop (xI p1) fu (p0,b,w64 (b+1))).bind λa=>
  (cut a.1 a.2 (a.1.length:Int)).bind λc=>
  (cut (a.1.take (Int.toNat a.2)++List.replicate c.length 0) 0 a.2).bind λd=>
  some d
def xD(fu:Nat)(p0:qB)(p1:Int):Option qB:=
 (qO fu p0.Tx p1).bind λa=>
 some (qB.mk p0.Tq a)
def cB(fu:Nat)(p0:qB)(p1:zk):Option (qB×zk):=
 (idx p0.Tx (w64 (((p0.Tx).length:Int)-1))).bind λa=>
 (jP fu p0.Tq 3 a 0).bind λb=>
 (xD fu (qB.mk b.2 p0.Tx) a).bind λc=>
 some (c,(zk.mk p1.E p1.Found p1.SV true a b.1.SV))
def jG(p0:List Int)(p1:Int)(p2:List Int):Option ((List Int)×(List Int)):=OE 8 p0 p1 p2
def xW(fu:Nat)(p0:qB)(p1:Int):Option qB:=
 (xD fu p0 p1).bind λa=>
 (jG a.Tx 0 ([p1])).bind λb=>
 some (qB.mk a.Tq b.1)
def dQ(fu:Nat)(p0:qB)(p1:Int)(p2:Int)(p3:Int):Option (zk×qB):=
 (jP fu p0.Tq p1 p2 p3).bind λc=>
 (if (c.1.E==40) then
  (cB fu (qB.mk c.2 p0.Tx) (zk.mk 0 false 0 false 0 0)).bind λb=>
  (jP fu b.1.Tq p1 p2 p3).bind λd=>
  some ((qB.mk d.2 b.1.Tx),(zk.mk d.1.E d.1.Found d.1.SV b.2.Uv b.2.TD b.2.TE))
 else
  some ((qB.mk c.2 p0.Tx),c.1)).bind λa=>
 if (a.2.E !=0) then
  some (a.2,a.1)
 else
  (if (p1==2) then
   some (p1==2)
  else
   if (p1==4) then
    some (p1==4)
   else
    if (p1==0) then
     some a.2.Found
    else
     some false).bind λe=>
  if e then
   (xW fu a.1 p2).bind λf=>
   some (a.2,f)
  else
   if (p1==3) then
    (xD fu a.1 p2).bind λg=>
    some (a.2,g)
   else
    some (a.2,a.1)
def jH(fu:Nat)(p0:qo)(p1:Int)(p2:Int)(p3:Int):Option (zk×qo):=
 match p0 with
 |.inl x=>(jP fu x p1 p2 p3).bind λq=>some (q.1,(.inl q.2))
 |.inr x=>(dQ fu x p1 p2 p3).bind λq=>some (q.1,(.inr q.2))
def jK(fu:Nat)(p0:zc):Option (bM×Bool×zc):=
 if (((p0.Se).length:Int)==0) then
  some ((bM.mk 0 0 false (zg.mk 0 0 0 0) (zk.mk 0 false 0 false 0 0) ([]:List zr)),false,p0)
 else
  (idx p0.Se 0).bind λa=>
  (cut p0.Se 1 (p0.Se.length:Int)).bind λb=>
  if a.TB then
   (idx p0.maps a.Item.SO).bind λd=>
   (jz d).bind λe=>
   some ({a with To:=a.Tt,SQ:=(zk.mk 0 false 0 false 0 0),Pairs:=e},true,{p0 with Se:=b})
  else
   (idx p0.maps a.Item.SO).bind λf=>
   (jH fu f a.Item.Op a.Item.Tc a.Item.SV).bind λc=>
   some ({a with To:=a.Tt,SQ:=c.1,Pairs:=([]:List zr)},true,{p0 with maps:=(p0.maps.set (Int.toNat a.Item.SO) c.2),Se:=b})
def bY(p0:zc):Option (Int×zc):=
 if decide (((p0.Se).length:Int)>0) then
  some (42,p0)
 else
  some (0,{p0 with Sk:=true})
def bZ(fu:Nat)(p0:za)(p1:Int):Option za:=
 (qE p0).bind λc=>
 (idx p0.Fn (w64 (p1-c))).bind λg=>
 (jK fu g).bind λa=>
 if (!a.2.1) then
  (bY a.2.2).bind λh=>
  (room (p0.SE.length+([(zd.mk 15 p1 0 0 0 0 0 0 0 0 (zg.mk 0 0 0 0) (zk.mk 0 false 0 false 0 0) 0 0)]).length) 176).bind λn=>
  (aT p0.Sn ([p1])).bind λj=>
  some {p0 with Sn:=j.2,Fn:=(p0.Fn.set (Int.toNat (w64 (p1-c))) h.2),SE:=(p0.SE++[(zd.mk 15 p1 0 0 0 0 0 0 0 0 (zg.mk 0 0 0 0) (zk.mk 0 false 0 false 0 0) 0 0)])}
 else
  (zX {p0 with Fn:=(p0.Fn.set (Int.toNat (w64 (p1-c))) a.2.2)}).bind λl=>
  if decide (a.1.To>=l) then
   (zX {p0 with Fn:=(p0.Fn.set (Int.toNat (w64 (p1-c))) a.2.2)}).bind λd=>
   (idx p0.LT (w64 (a.1.To-d))).bind λe=>
   (xp e.RY).bind λf=>
   (room (p0.SE.length+([(zd.mk 3 p1 a.1.To 0 a.1.TT f.2.N 0 0 0 0 a.1.Item a.1.SQ 0 0)]).length) 176).bind λq=>
   some {p0 with LT:=(p0.LT.set (Int.toNat (w64 (a.1.To-d))) {e with Tw:=(some a.1.SQ)}),Fn:=(p0.Fn.set (Int.toNat (w64 (p1-c))) a.2.2),SE:=(p0.SE++[(zd.mk 3 p1 a.1.To 0 a.1.TT f.2.N 0 0 0 0 a.1.Item a.1.SQ 0 0)])}
  else
   (idx p0.or a.1.To).bind λb=>
   if a.1.TB then
    (idx b.parts a.1.TT).bind λv=>
    some {p0 with or:=(p0.or.set (Int.toNat a.1.To) {b with Sl:=(w64 (b.Sl-1)),parts:=(b.parts.set (Int.toNat a.1.TT) a.1.Pairs)}),Fn:=(p0.Fn.set (Int.toNat (w64 (p1-c))) a.2.2)}
   else
    (idx b.Id.SQ a.1.TT).bind λz=>
    (room (p0.SE.length+([(zd.mk 3 p1 a.1.To b.SB a.1.TT 0 0 0 0 0 a.1.Item a.1.SQ 0 0)]).length) 176).bind λA=>
    some {p0 with or:=(p0.or.set (Int.toNat a.1.To) {b with Sl:=(w64 (b.Sl-1)),Id:=(zA.mk b.Id.E b.Id.N (b.Id.SQ.set (Int.toNat a.1.TT) a.1.SQ) b.Id.Pairs)}),Fn:=(p0.Fn.set (Int.toNat (w64 (p1-c))) a.2.2),SE:=(p0.SE++[(zd.mk 3 p1 a.1.To b.SB a.1.TT 0 0 0 0 0 a.1.Item a.1.SQ 0 0)])}
def qf(p0:List zB)(p1 p2:Int):Option (List zB):=L9 p0 p1 p2
abbrev yD:=Unit⊕(Int×zZ)
def eW(p0:zZ)(p1:List Int)(a:Nat)(again:Unit->Option yD)(e:Unit):Option yD:=
 (idx p1 (a:Int)).bind λb=>
 (cut p1 0 (a:Int)).bind λc=>
 (qa c b).bind λd=>
 if d then
  some (.inr (2,p0))
 else
  again ()
def eX(p0:zZ)(p1:List Int)(a:Nat)(again:Unit->Option yD)(c:Unit):Option yD:=
 (idx p1 (a:Int)).bind λb=>
 if (!(jB p0.held b).isSome) then
  some (.inr (41,p0))
 else
  again ()
def eY(p1:List Int)(b:Nat)(again:zZ->Option zZ)(a:zZ):Option zZ:=
 (idx p1 (b:Int)).bind λc=>
 again (zZ.mk a.maps (mdel a.held c))
def bz(p0:zZ)(p1:List Int):Option (Int×zZ):=
 (jN (eW p0 p1) (λ(e:Unit)=>(.inl ())) (p1).length 0 ()).bind λa=>match a with
  |.inl f=>
   (jN (eX p0 p1) (λ(g:Unit)=>(.inl ())) (p1).length 0 ()).bind λb=>match b with
    |.inl h=>
     (jN (eY p1) (λ(c:zZ)=>c) (p1).length 0 p0).bind λd=>
     some (0,d)
    |.inr r=>some r
  |.inr r=>some r
def aE(p0:List Int)(p1:List Int)(a:Nat)(again:Unit->Option (Unit⊕Int))(d:Unit):Option (Unit⊕Int):=
 (idx p0 (a:Int)).bind λb=>
 (jk b p1).bind λc=>
 if c then
  some (.inr (a:Int))
 else
  again ()
def jA(p0:List Int)(p1:List Int):Option Int:=
 (jN (aE p0 p1) (λ(b:Unit)=>(.inl ())) (p0).length 0 ()).bind λa=>match a with
  |.inl c=>
   some (-1)
  |.inr r=>some r
def xl(p1:List Int)(again:((List Int)×Int×Int)->Option ((List Int)×Int))(a:(List Int)×Int×Int):Option ((List Int)×Int):=
 if decide (a.2.2<((a.1).length:Int)) then
  (idx a.1 a.2.2).bind λb=>
  (jk b p1).bind λc=>
  if (!c) then
   (idx a.1 a.2.1).bind λd=>
   again ((a.1.set (Int.toNat a.2.1) b),w64 (a.2.1+1),w64 (a.2.2+1))
  else
   again (a.1,a.2.1,w64 (a.2.2+1))
 else
  some (a.1,a.2.1)
def jr(fu:Nat)(p0:List Int)(p1:List Int):Option (List Int):=
 (jA p0 p1).bind λb=>
 if (b==(-1)) then
  some p0
 else
  (loop (xl p1) fu (p0,b,w64 (b+1))).bind λa=>
  (cut a.1 a.2 (a.1.length:Int)).bind λc=>
  (cut (a.1.take (Int.toNat a.2)++List.replicate c.length 0) 0 a.2).bind λd=>
  some d
def vr(p0:zb)(p1:Int)(c:Nat)(again:(List Int)->Option (List Int))(a:(List Int)):Option (List Int):=
 (idx p0.waiting (c:Int)).bind λb=>
 (if decide (((a).length:Int)<p1) then
  (jB p0.Su b).bind λd=>
  (vD p0.Sq d.SR).bind λe=>
  some e
 else
  some false).bind λf=>
 if f then
  (room (a.length+([b]).length) 8).bind λg=>
  again (a++[b])
 else
  again a
def vt(c:(List Int))(d:Nat)(again:zb->Option zb)(a:zb):Option zb:=
 (idx c (d:Int)).bind λb=>
 (bz a.Tl ([b])).bind λe=>
 again {a with Tl:=e.2,Su:=(mdel a.Su b)}
def jZ(fu:Nat)(p0:zb)(p1:Int):Option ((List Int)×zb):=
 (jN (vr p0 p1) (λ(c:(List Int))=>c) (p0.waiting).length 0 ([]:List Int)).bind λa=>
 (jN (vt a) (λ(d:zb)=>d) (a).length 0 p0).bind λb=>
 (jr fu b.waiting a).bind λe=>
 some (a,{b with waiting:=e})
def jS(p0:za)(p1:Int)(p2:Int)(p3:Int):Option za:=
 (idx p0.or p1).bind λa=>
 some {p0 with or:=(p0.or.set (Int.toNat p1) {a with Sl:=0,Id:=(zA.mk p3 p2 a.Id.SQ a.Id.Pairs)})}
def qD(p0:zw)(p1:Int):Option zw:=
 if (p0.e==0) then
  some {p0 with e:=p1}
 else
  some p0
def fU(again:zw->Option zw)(a:zw):Option zw:=
 if (decide (a.SB<3)&&(a.e==0)) then
  (if decide (a.SB>=((a.b).length:Int)) then
   (qD {a with field:=a.SB} 10).bind λd=>
   some d
  else
   (idx a.b a.SB).bind λf=>
   (ue (⟨[84,80,1].toArray⟩) a.SB).bind λg=>
   if (f !=g) then
    (qD {a with field:=a.SB} 12).bind λh=>
    some h
   else
    some {a with field:=a.SB}).bind λc=>
  again {c with SB:=(w64 (c.SB+1))}
 else
  some a
def aF(fu:Nat)(p0:zw):Option zw:=
 (loop fU fu p0).bind λa=>
 some a
def uH(p0:List Int)(a:Nat)(again:Int->Option (Unit⊕(Int×Int×Int)))(c:Int):Option (Unit⊕(Int×Int×Int)):=
 (idx p0 (a:Int)).bind λb=>
 if ((((a:Int)==9)&&decide (b>1))||(decide ((a:Int)>0)&&(b==0))) then
  some (.inr (0,0,12))
 else
  (nn (w64 (7*(a:Int)))).bind λd=>
  if decide (b<128) then
   some (.inr (bOr .u64 c (wd .u64 (xS (wc .u8 b 127)) (w64 (7*(a:Int)))),w64 ((a:Int)+1),0))
  else
   again (bOr .u64 c (wd .u64 (xS (wc .u8 b 127)) (w64 (7*(a:Int)))))
def px(p0:List Int):Option (Int×Int×Int):=
 (jN (uH p0) (λ(b:Int)=>(.inl ())) (p0).length 0 0).bind λa=>match a with
  |.inl c=>
   some (0,0,10)
  |.inr r=>some r
def jc(p0:zw)(p1:Int)(p2:Int):Option (Int×zw):=
 if (p0.e !=0) then
  some (0,p0)
 else
  (cut p0.b p0.SB (p0.b.length:Int)).bind λc=>
  (px c).bind λa=>
  if (a.2.2 !=0) then
   (qD (zw.mk p0.b (w64 (p0.SB+a.2.1)) p0.SB p0.e) a.2.2).bind λd=>
   some (0,d)
  else
   if decide (a.1>p1) then
    (qD (zw.mk p0.b (w64 (p0.SB+a.2.1)) p0.SB p0.e) p2).bind λf=>
    some (0,f)
   else
    some (w64 a.1,(zw.mk p0.b (w64 (p0.SB+a.2.1)) p0.SB p0.e))
def kr(p0:List Int):Option (Int×Int×Int):=
 (px p0).bind λa=>
 some (Mo .i64 (w64 (iE .u64 a.1 1)) (w64 (0-(w64 (wc .u64 a.1 1)))),a.2.1,a.2.2)
def aZ(p0:zw):Option (zf×zw):=
 (jc p0 22 12).bind λd=>
 (jc d.2 63 12).bind λf=>
 (jc f.2 63 12).bind λg=>
 (jc g.2 63 12).bind λa=>
 if (a.2.e !=0) then
  some ((zf.mk d.1 f.1 g.1 a.1 0),a.2)
 else
  (cut a.2.b a.2.SB (a.2.b.length:Int)).bind λh=>
  (kr h).bind λc=>
  if (c.2.2 !=0) then
   (qD (zw.mk a.2.b (w64 (a.2.SB+c.2.1)) a.2.SB a.2.e) c.2.2).bind λj=>
   some ((zf.mk d.1 f.1 g.1 a.1 c.1),j)
  else
   (fw ([(zf.mk d.1 f.1 g.1 a.1 c.1)])).bind λl=>
   if (!l) then
    (qD (zw.mk a.2.b (w64 (a.2.SB+c.2.1)) p0.SB a.2.e) 12).bind λn=>
    some ((zf.mk d.1 f.1 g.1 a.1 c.1),n)
   else
    some ((zf.mk d.1 f.1 g.1 a.1 c.1),(zw.mk a.2.b (w64 (a.2.SB+c.2.1)) a.2.SB a.2.e))
def nq(d:Int×zw)(again:(zw×(List Int)×Int)->Option (zw×(List Int)))(a:zw×(List Int)×Int):Option (zw×(List Int)):=
 if decide (a.2.2<d.1) then
  (jc a.1 3 12).bind λb=>
  (qa a.2.1 b.1).bind λf=>
  (if f then
   (qD b.2 12).bind λg=>
   some g
  else
   some b.2).bind λc=>
  if (c.e !=0) then
   some (c,a.2.1)
  else
   (room (a.2.1.length+([b.1]).length) 8).bind λh=>
   again (c,(a.2.1++[b.1]),w64 (a.2.2+1))
 else
  some (a.1,a.2.1)
def ns(c:Int×zw)(again:(zw×(List zf)×Int)->Option (zw×(List zf)))(a:zw×(List zf)×Int):Option (zw×(List zf)):=
 if (decide (a.2.2<c.1)&&(a.1.e==0)) then
  (aZ a.1).bind λb=>
  (room (a.2.1.length+([b.1]).length) 40).bind λd=>
  again (b.2,(a.2.1++[b.1]),w64 (a.2.2+1))
 else
  some (a.1,a.2.1)
def dI(fu:Nat)(p0:List Int):Option (zC×Int×Int):=
 (aF fu (zw.mk p0 0 0 0)).bind λh=>
 (jc h 4 11).bind λf=>
 (loop (nq f) fu (f.2,([]:List Int),0)).bind λg=>
 (jc g.1 64 11).bind λc=>
 (if (c.1==0) then
  (qD c.2 12).bind λj=>
  some j
 else
  some c.2).bind λl=>
 (loop (ns c) fu (l,([]:List zf),0)).bind λa=>
 (if ((a.1.e==0)&&decide (a.1.SB<((p0).length:Int))) then
  (qD (zw.mk a.1.b a.1.SB a.1.SB a.1.e) 13).bind λn=>
  some n
 else
  some a.1).bind λd=>
 if (d.e !=0) then
  some ((zC.mk ([]:List Int) ([]:List zf)),d.field,d.e)
 else
  some ((zC.mk g.2 a.2),0,0)
def eZ(p0:zZ)(p2:List Int)(b:Nat)(again:Unit->Option yD)(f:Unit):Option yD:=
 (idx p2 (b:Int)).bind λa=>
 (if decide (a<0) then
  some true
 else
  if decide (a>=p0.maps) then
   some true
  else
   (cut p2 0 (b:Int)).bind λc=>
   (qa c a).bind λd=>
   some d).bind λe=>
 if e then
  some (.inr (2,p0))
 else
  again ()
def di(p0:zZ)(p1:Int)(p2:List Int):Option (Int×zZ):=
 (jN (eZ p0 p2) (λ(c:Unit)=>(.inl ())) (p2).length 0 ()).bind λa=>match a with
  |.inl d=>
   if (jB p0.held p1).isSome then
    some (42,p0)
   else
    (jf p2).bind λb=>
    some (0,(zZ.mk p0.maps (mput p0.held p1 b)))
  |.inr r=>some r
abbrev yE:=Int×Int×zb
def vV(p0:zb)(a:zC×Int×Int)(b:Nat)(again:Unit->Option (Unit⊕yE))(d:Unit):Option (Unit⊕yE):=
 (idx a.1.Maps (b:Int)).bind λc=>
 if decide (c>=p0.maps) then
  some (.inr (0,41,p0))
 else
  again ()
def ju(fu:Nat)(p0:zb)(p1:List Int):Option yE:=
 (dI fu p1).bind λa=>
 if (a.2.2 !=0) then
  some (0,a.2.2,p0)
 else
  (vp fu a.1).bind λb=>
  if (b.2 !=0) then
   some (0,b.2,p0)
  else
   (jN (vV p0 a) (λ(e:Unit)=>(.inl ())) (a.1.Maps).length 0 ()).bind λc=>match c with
    |.inl f=>
     if decide ((p0.Su.length:Int)>=16) then
      some (0,40,p0)
     else
      (di p0.Tl (w64 (p0.given+1)) a.1.Maps).bind λd=>
      some (w64 (p0.given+1),0,{p0 with Tl:=d.2,given:=(w64 (p0.given+1)),Su:=(mput p0.Su (w64 (p0.given+1)) (zT.mk a.1 0))})
    |.inr r=>some r
def av(p0:xB):Option (Int×xB):=
 some (w64 (p0.last+1),(xB.mk (w64 (p0.last+1))))
def aV(p0:xB):Option Int:=
 some p0.last
def xt(p0:zy)(p1:Int)(p2:Int):Option (Int×Int×zy):=
 (av p0.SH).bind λa=>
 (idx p0.Sh p1).bind λc=>
 (aV a.2).bind λb=>
 some (b,0,(zy.mk a.2 (p0.Sh.set (Int.toNat p1) (xf.mk a.1 p2))))
def vQ(p0:zy)(p1:Int)(p2:Int):Option (Int×Int×zy):=
 (jh p0 p1).bind λb=>
 if (!b) then
  some (0,2,p0)
 else
  (jj p0 p1).bind λc=>
  if c then
   some (0,42,p0)
  else
   (xt p0 p1 p2).bind λa=>
   some (a.1,a.2.1,a.2.2)
def jC(p0:zb)(p1:Int)(p2:Int):Option yE:=
 if decide (p1<0) then
  some (0,2,p0)
 else
  if decide (p1>=p0.Sh) then
   some (0,2,p0)
  else
   if (jB p0.Su p2).isSome then
    (jB p0.Su p2).bind λb=>
    if (!(b.SR==0)) then
     some (0,41,p0)
    else
     (vQ p0.Sr p1 p2).bind λa=>
     some (a.1,a.2.1,{p0 with Sr:=a.2.2})
   else
    some (0,41,p0)
def xu(p0:za)(p1:zB)(p2:Int)(p3:Int)(p4:Int):Option za:=
 (if (p4==0) then
  (qH p0).bind λa=>
  (room (p0.SE.length+([(zd.mk 11 a 0 0 0 0 p1.cmd.SJ p2 p3 0 (zg.mk 0 0 0 0) (zk.mk 0 false 0 false 0 0) 0 0)]).length) 176).bind λd=>
  some {p0 with SE:=(p0.SE++[(zd.mk 11 a 0 0 0 0 p1.cmd.SJ p2 p3 0 (zg.mk 0 0 0 0) (zk.mk 0 false 0 false 0 0) 0 0)])}
 else
  some p0).bind λb=>
 (jS b p1.SG p3 p4).bind λc=>
 some c
def ba(p0:zy)(p1:Int)(p2:Int):Option (Int×Int×zy):=
 (jh p0 p1).bind λb=>
 if (!b) then
  some (0,2,p0)
 else
  (jj p0 p1).bind λc=>
  if (!c) then
   some (0,41,p0)
  else
   (xt p0 p1 p2).bind λa=>
   some (a.1,a.2.1,a.2.2)
def jR(p0:zb)(p1:Int)(p2:Int):Option yE:=
 if decide (p1<0) then
  some (0,2,p0)
 else
  if decide (p1>=p0.Sh) then
   some (0,2,p0)
  else
   if (jB p0.Su p2).isSome then
    (jB p0.Su p2).bind λb=>
    if (!(b.SR==0)) then
     some (0,41,p0)
    else
     (ba p0.Sr p1 p2).bind λa=>
     some (a.1,a.2.1,{p0 with Sr:=a.2.2})
   else
    some (0,41,p0)
def fA(p0:zy)(p1:List Int)(a:Nat)(again:Unit->Option (Unit⊕(Int×zy)))(g:Unit):Option (Unit⊕(Int×zy)):=
 (idx p1 (a:Int)).bind λb=>
 ((jh p0 b).bind λc=>
 if (!c) then
  some true
 else
  (cut p1 0 (a:Int)).bind λd=>
  (qa d b).bind λe=>
  some e).bind λf=>
 if f then
  some (.inr (2,p0))
 else
  again ()
def fB(p0:zy)(p1:List Int)(a:Nat)(again:Unit->Option (Unit⊕(Int×zy)))(d:Unit):Option (Unit⊕(Int×zy)):=
 (idx p1 (a:Int)).bind λb=>
 (jj p0 b).bind λc=>
 if (!c) then
  some (.inr (41,p0))
 else
  again ()
def fC(p1:List Int)(c:Nat)(again:zy->Option zy)(a:zy):Option zy:=
 (idx p1 (c:Int)).bind λb=>
 (idx a.Sh b).bind λd=>
 again (zy.mk a.SH (a.Sh.set (Int.toNat b) (xf.mk 0 0)))
def xJ(p0:zy)(p1:List Int):Option (Int×zy):=
 (jN (fA p0 p1) (λ(e:Unit)=>(.inl ())) (p1).length 0 ()).bind λa=>match a with
  |.inl f=>
   (jN (fB p0 p1) (λ(g:Unit)=>(.inl ())) (p1).length 0 ()).bind λb=>match b with
    |.inl h=>
     (jN (fC p1) (λ(c:zy)=>c) (p1).length 0 p0).bind λd=>
     some (0,d)
    |.inr r=>some r
  |.inr r=>some r
def fV(p0:zy)(p1:List Int)(a:Nat)(again:(List Int)->Option (List Int))(b:(List Int)):Option (List Int):=
 (idx p0.Sh (a:Int)).bind λc=>
 (if decide (c.SA>0) then
  (qa p1 c.prog).bind λd=>
  some d
 else
  some false).bind λe=>
 if e then
  (room (b.length+([(a:Int)]).length) 8).bind λf=>
  again (b++[(a:Int)])
 else
  again b
def aG(p0:zy)(p1:List Int):Option (List Int):=
 (jN (fV p0 p1) (λ(a:(List Int))=>a) (p0.Sh).length 0 ([]:List Int)).bind λb=>
 some b
def vu(p0:zD):Option (Int×zD):=
 some (w64 (p0.TC+1),(zD.mk (w64 (p0.TC+1)) p0.in_))
def qT(p0:zb)(p1:Int):Option yE:=
 if (!(jB p0.Su p1).isSome) then
  some (0,41,p0)
 else
  (jB p0.Su p1).bind λb=>
  if decide (b.SR>0) then
   some (0,42,p0)
  else
   (aG p0.Sr ([p1])).bind λc=>
   if decide (((c).length:Int)>0) then
    some (0,42,p0)
   else
    (vu p0.Sq).bind λa=>
    (room (p0.waiting.length+([p1]).length) 8).bind λd=>
    some (a.1,0,{p0 with Sq:=a.2,Su:=(ud p0.Su p1 (zT.mk b.module a.1)),waiting:=(p0.waiting++[p1])})
def qx(p0:List zY):Option (List zY):=
 (room (([]:List zY).length+p0.length) 24).bind λa=>
 some (([]:List zY)++p0)
def dj(p0:zq)(g0:zJ):Option ((List zY)×zq):=
 (qx p0.waiting).bind λa=>
 some (a,(zq.mk p0.room true ([]:List zY) (zV.mk p0.counts.Td p0.counts.Ta p0.counts.TJ (w64 (p0.counts.Ti+((p0.waiting).length:Int))) p0.counts.Tp)))
def cV(p0:za)(p1:zB)(a:Nat)(f:(List zq)×(List zd))(c:(List zY)×zq)(g:Nat)(again:(List zd)->Option (List zd))(b:(List zd)):Option (List zd):=
 (idx c.1 (g:Int)).bind λd=>
 (qH {p0 with RX:=(f.1.set (Int.toNat (a:Int)) c.2),Sg:=p1.SG,closed:=true,SE:=b}).bind λe=>
 (room (b.length+([(zd.mk 10 e 0 0 0 d.N (a:Int) 0 0 0 (zg.mk 0 0 0 0) (zk.mk 0 false 0 false 0 0) 0 0)]).length) 176).bind λh=>
 again (b++[(zd.mk 10 e 0 0 0 d.N (a:Int) 0 0 0 (zg.mk 0 0 0 0) (zk.mk 0 false 0 false 0 0) 0 0)])
def cW(p0:za)(p1:zB)(b:Nat)(again:((List zq)×(List zd))->Option za)(a:(List zq)×(List zd)):Option za:=
 (idx a.1 (b:Int)).bind λd=>
 (dj d p0.SK).bind λc=>
 (jN (cV p0 p1 b a c) (λ(e:(List zd))=>e) (c.1).length 0 a.2).bind λf=>
 again ((a.1.set (Int.toNat (b:Int)) c.2),f)
def cC(fu:Nat)(p0:za)(p1:zB):Option za:=
 if (p1.cmd.RZ==4) then
  (ju fu p0.Fd p1.cmd.SC).bind λa=>
  (if (a.2.1==0) then
   (qH {p0 with Fd:=a.2.2}).bind λf=>
   (room (p0.SE.length+([(zd.mk 12 f 0 0 0 0 0 a.1 0 0 (zg.mk 0 0 0 0) (zk.mk 0 false 0 false 0 0) 0 0)]).length) 176).bind λB=>
   some {p0 with Fd:=a.2.2,SE:=(p0.SE++[(zd.mk 12 f 0 0 0 0 0 a.1 0 0 (zg.mk 0 0 0 0) (zk.mk 0 false 0 false 0 0) 0 0)])}
  else
   some {p0 with Fd:=a.2.2}).bind λl=>
  (jS l p1.SG a.1 a.2.1).bind λn=>
  some n
 else
  if (p1.cmd.RZ==5) then
   (jC p0.Fd p1.cmd.SJ p1.cmd.Tf).bind λd=>
   (xu {p0 with Fd:=d.2.2} p1 p1.cmd.Tf d.1 d.2.1).bind λq=>
   some q
  else
   if (p1.cmd.RZ==6) then
    (jR p0.Fd p1.cmd.SJ p1.cmd.Tf).bind λe=>
    (xu {p0 with Fd:=e.2.2} p1 p1.cmd.Tf e.1 e.2.1).bind λv=>
    some v
   else
    if (p1.cmd.RZ==7) then
     (xJ p0.Fd.Sr ([p1.cmd.SJ])).bind λg=>
     (xu {p0 with Fd:=(zb.mk g.2 p0.Fd.Tl p0.Fd.Sq p0.Fd.Sh p0.Fd.maps p0.Fd.given p0.Fd.Su p0.Fd.waiting)} p1 0 0 g.1).bind λz=>
     some z
    else
     if (p1.cmd.RZ==8) then
      (qT p0.Fd p1.cmd.Tf).bind λb=>
      if (b.2.1 !=0) then
       (jS {p0 with Fd:=b.2.2} p1.SG 0 b.2.1).bind λA=>
       some A
      else
       (room (p0.held.length+([{p1 with TK:=b.1}]).length) 144).bind λC=>
       some {p0 with Fd:=b.2.2,held:=(p0.held++[{p1 with TK:=b.1}])}
     else
      if (p1.cmd.RZ==9) then
       (room (p0.held.length+([p1]).length) 144).bind λD=>
       some {p0 with held:=(p0.held++[p1])}
      else
       if (p1.cmd.RZ==10) then
        (jN (cW p0 p1) (λ(h:(List zq)×(List zd))=>{p0 with RX:=h.1,Sg:=p1.SG,closed:=true,SE:=h.2}) (p0.RX).length 0 (p0.RX,p0.SE)).bind λc=>
        (qH c).bind λj=>
        (room (c.SE.length+([(zd.mk 14 j 0 0 0 0 0 0 0 0 (zg.mk 0 0 0 0) (zk.mk 0 false 0 false 0 0) 0 0)]).length) 176).bind λE=>
        some {c with SE:=(c.SE++[(zd.mk 14 j 0 0 0 0 0 0 0 0 (zg.mk 0 0 0 0) (zk.mk 0 false 0 false 0 0) 0 0)])}
       else
        some p0
def dl(fu:Nat)(p0:za):Option za:=
 (xh p0).bind λb=>
 if decide (b>=0) then
  (idx p0.held b).bind λc=>
  (qf p0.held b (w64 (b+1))).bind λd=>
  (if (c.cmd.RZ==8) then
   (jZ fu p0.Fd 1).bind λf=>
   (qH {p0 with Fd:=f.2,held:=d}).bind λg=>
   (room (p0.SE.length+([(zd.mk 13 g 0 0 0 0 0 c.cmd.Tf 0 0 (zg.mk 0 0 0 0) (zk.mk 0 false 0 false 0 0) 0 0)]).length) 176).bind λA=>
   some {p0 with Fd:=f.2,held:=d,SE:=(p0.SE++[(zd.mk 13 g 0 0 0 0 0 c.cmd.Tf 0 0 (zg.mk 0 0 0 0) (zk.mk 0 false 0 false 0 0) 0 0)])}
  else
   some {p0 with held:=d}).bind λl=>
  (jS l c.SG 0 0).bind λn=>
  some n
 else
  if (((p0.Se).length:Int)==0) then
   (jS {p0 with over:=true} p0.Sg 0 0).bind λa=>
   (qH a).bind λe=>
   (room (a.SE.length+([(zd.mk 15 e 0 0 0 0 0 0 0 0 (zg.mk 0 0 0 0) (zk.mk 0 false 0 false 0 0) 0 0)]).length) 176).bind λB=>
   (aT a.Sn ([e])).bind λq=>
   some {a with Sn:=q.2,SE:=(a.SE++[(zd.mk 15 e 0 0 0 0 0 0 0 0 (zg.mk 0 0 0 0) (zk.mk 0 false 0 false 0 0) 0 0)])}
  else
   (idx p0.Se 0).bind λh=>
   (cut p0.Se 1 (p0.Se.length:Int)).bind λj=>
   if p0.closed then
    (jS {p0 with Se:=j} h.SG 0 43).bind λv=>
    some v
   else
    (cC fu {p0 with Se:=j} h).bind λz=>
    some z
def vW(fu:Nat)(p0:za)(p1:Int)(p2:Bool):Option (Int×Bool×za):=
 if (!p2) then
  some (p1,p2,p0)
 else
  (zX p0).bind λa=>
  if decide (p1<a) then
   (xO p0 p1).bind λb=>
   some (p1,p2,b)
  else
   (qE p0).bind λc=>
   if decide (p1<c) then
    (dh fu p0 p1).bind λd=>
    some (p1,p2,d)
   else
    (qH p0).bind λe=>
    if decide (p1<e) then
     (bZ fu p0 p1).bind λf=>
     some (p1,p2,f)
    else
     (dl fu p0).bind λg=>
     some (p1,p2,g)
def dm(fu:Nat)(p0:za)(p1:Int):Option (Int×Bool×za):=
 (vf p0).bind λc=>
 (df c.Sn p1).bind λa=>
 (vW fu {c with Sn:=a.2.2} a.1 a.2.1).bind λb=>
 some (b.1,b.2.1,b.2.2)
def fa(p0:zo)(c:(List Int))(d:Nat)(again:(Int×Bool)->Option (Int×Bool))(a:Int×Bool):Option (Int×Bool):=
 (idx c (d:Int)).bind λb=>
 (if (!a.2) then
  some true
 else
  (idx p0.Sd b).bind λe=>
  (idx p0.Sd a.1).bind λf=>
  some (decide (e.Tz<f.Tz))).bind λg=>
 if g then
  again (b,true)
 else
  again (a.1,a.2)
def dp(p0:zo):Option (Int×Bool×zo):=
 (aC p0).bind λb=>
 (jN (fa p0 b) (λ(c:Int×Bool)=>(c.1,c.2)) (b).length 0 (0,false)).bind λd=>
 if (!d.2) then
  some (0,false,p0)
 else
  (vU p0 d.1).bind λa=>
  some (a.1,a.2.1,a.2.2)
def dq(fu:Nat)(p0:za):Option (Int×Bool×za):=
 (vf p0).bind λc=>
 (dp c.Sn).bind λa=>
 (vW fu {c with Sn:=a.2.2} a.1 a.2.1).bind λb=>
 some (b.1,b.2.1,b.2.2)
def dw(fu:Nat)(p1:List Int)(a:Nat)(again:za->Option za)(b:za):Option za:=
 (idx p1 (a:Int)).bind λc=>
 (dm fu b c).bind λd=>
 again d.2.2
def vH(fu:Nat)(again:(za×Bool)->Option za)(a:za×Bool):Option za:=
 if a.2 then
  (dq fu a.1).bind λb=>
  again (b.2.2,b.2.1)
 else
  some a.1
def cD(fu:Nat)(p0:za)(p1:List Int):Option (Int×za):=
 (bQ p0.Sn).bind λb=>
 (jN (dw fu p1) (λ(c:za)=>c) (p1).length 0 p0).bind λd=>
 (loop (vH fu) fu (d,true)).bind λa=>
 (bQ a.Sn).bind λe=>
 some (w64 (e-b),a)
def qb(p0:List zk):Option (List zk):=
 (room (([]:List zk).length+p0.length) 48).bind λa=>
 some (([]:List zk)++p0)
def aH(p0:za)(p1:Int):Option (List zA):=
 if decide (p1<0)||decide (p1>=(p0.or.length:Int)) then some [] else
 (idx p0.or p1).bind λc=>(room (0+c.Sm.length) 64).bind λ_=>(c.Sm.foldlM (λ(_:Unit)a=>(qb a.SQ).bind λ_=>(zO a.Pairs).bind λ_=>some ()) ()).bind λ_=>some c.Sm
def gT(p0:zo):Option (List Int):=
 (dN p0 2).bind λa=>
 some a
def gU(p0:za):Option (List Int):=
 (gT p0.Sn).bind λa=>
 some a
def qz(p0:List zd):Option (List zd):=
 (room (([]:List zd).length+p0.length) 176).bind λa=>
 some (([]:List zd)++p0)
def ef(p0:za):Option (List zd):=
 (qz p0.SE).bind λa=>
 some a
def gV :Option zH:=
 some (zH.mk 1 1 1 1 ([(jL.mk 0 2)]))
def un(c:zR)(a:Nat)(again:(List zN)->Option (List zN))(b:(List zN)):Option (List zN):=
 (ain 4 (a:Int)).bind λd=>
 (idx b (a:Int)).bind λe=>
 (lZ ([e,(c.Sh d)])).bind λf=>
 again (b.set (Int.toNat (a:Int)) f)
def uo(p0:List zR)(a:Nat)(again:(List zN)->Option (List zN))(b:(List zN)):Option (List zN):=
 (idx p0 (a:Int)).bind λc=>
 (jN (un c) (λ(d:(List zN))=>d) 4 0 b).bind λe=>
 again e
def kX(p0:List zR):Option (List zN):=
 (mkLen 4 40).bind λa=>
 (jN (uo p0) (λ(b:(List zN))=>b) (p0).length 0 (List.replicate a (zN.mk 0 0 0 0 0))).bind λc=>
 some c
def aI(p0:za):Option (List zN):=
 (room p0.LT.length 8).bind λc=>
 (kX (p0.LT.map λ(x:zE)=>x.RY.Tm)).bind λa=>
 (cut a 0 (p0.RX.length:Int)).bind λb=>
 some b
def eg(fu:Nat) :Option Bool:=
 gV.bind λh=>
 (dW fu h ([[(zK.mk 4 (zg.mk 0 0 0 0) ([]:List zg) 0 0 0 (qv.mk 0 0) ([84,80,1,0,2,0,0,0,8,10,22,0,0,0,0]:List Int)),(zK.mk 5 (zg.mk 0 0 0 0) ([]:List zg) 0 0 1 (qv.mk 0 0) ([]:List Int)),(zK.mk 3 (zg.mk 0 0 0 0) ([]:List zg) 0 0 0 (qv.mk 0 0) ([]:List Int)),(zK.mk 9 (zg.mk 0 0 0 0) ([]:List zg) 0 0 0 (qv.mk 0 0) ([]:List Int)),(zK.mk 0 (zg.mk 0 2 1 2) ([]:List zg) 0 0 0 (qv.mk 0 0) ([]:List Int)),(zK.mk 10 (zg.mk 0 0 0 0) ([]:List zg) 0 0 0 (qv.mk 0 0) ([]:List Int))]])).bind λc=>
 vB c.1
  (some false)
  (λd=>
  (if (c.2 !=0) then
   some (d,true)
  else
   (cD fu d ([]:List Int)).bind λe=>
   some (e.2,(e.1==0))).bind λa=>
  if a.2 then
   some false
  else
   (aH a.1 0).bind λb=>
   (aI a.1).bind λf=>
   (gS a.1 0).bind λj=>
   (if (((b).length:Int)==6) then
    (idx b 0).bind λl=>
    if (l.N==1) then
     (idx b 2).bind λn=>
     if (n.N==1) then
      (idx b 5).bind λq=>
      if (q.E==0) then
       if (((f).length:Int)==1) then
        (idx f 0).bind λg=>
        if (g.Ud==1) then
         if (g.Sum==5) then
          if (((j.1).length:Int)==1) then
           (gU a.1).bind λv=>
           some (((v).length:Int)==3)
          else
           some false
         else
          some false
        else
         some false
       else
        some false
      else
       some false
     else
      some false
    else
     some false
   else
    some false).bind λz=>
   some z)
def bA(fu:Nat)(p0:qq):Option ((Option za)×Bool):=
 (dW fu p0.C p0.SM).bind λa=>
 vB a.1
  (some (none,(true==(a.2 !=0))))
  (λb=>
  some ((some b),(false==(a.2 !=0))))
def gf(fu:Nat)(p0:qq):Option ((Option za)×Bool):=
 (bA fu p0).bind λa=>
 vB a.1
  (some (none,a.2))
  (λb=>
  (cD fu b p0.Tj).bind λc=>
  some ((some c.2),a.2))
def eh(p0:za)(c:Nat)(again:(List zV)->Option (List zV))(a:(List zV)):Option (List zV):=
 (idx p0.RX (c:Int)).bind λd=>
 (xM d).bind λb=>
 (room (a.length+([b]).length) 40).bind λe=>
 again (a++[b])
def cd(p0:za):Option (List zV):=
 ((room (p0.RX).length 1).bind λc=>
 jN (eh p0) (λ(a:(List zV))=>a) (p0.RX).length 0 ([]:List zV)).bind λb=>
 some b
def qe(p0:qq)(d:(List zd))(e:Nat)(again:((List Int)×(List Int)×Bool)->Option ((List Int)⊕Bool))(a:(List Int)×(List Int)×Bool):Option ((List Int)⊕Bool):=
 (idx d (e:Int)).bind λb=>
 if ((((b.Ty==4)||(b.Ty==5))||(b.Ty==10))&&(decide (b.SJ<0)||decide (b.SJ>=p0.C.Sj))) then
  some (.inr false)
 else
  if (b.Ty==4) then
   ((idx a.1 b.SJ).bind λf=>
   if decide (f>=p0.C.SS) then
    some true
   else
    some a.2.2).bind λg=>
   if g then
    some (.inr false)
   else
    (idx a.1 b.SJ).bind λh=>
    again ((a.1.set (Int.toNat b.SJ) (w64 (h+1))),a.2.1,a.2.2)
  else
   (if (b.Ty==5) then
    some (b.Ty==5)
   else
    some (b.Ty==10)).bind λj=>
   if j then
    (idx a.1 b.SJ).bind λl=>
    again ((a.1.set (Int.toNat b.SJ) (w64 (l-1))),a.2.1,a.2.2)
   else
    if (b.Ty==14) then
     again (a.1,a.2.1,true)
    else
     if (b.Ty==2) then
      (if decide (b.Uk<0) then
       some true
      else
       if decide (b.Uk>=((p0.SM).length:Int)) then
        some true
       else
        if decide (b.UM<0) then
         some true
        else
         (idx p0.SM b.Uk).bind λn=>
         some (decide (b.UM>=((n).length:Int)))).bind λq=>
      if q then
       some (.inr false)
      else
       (idx p0.SM b.Uk).bind λv=>
       (idx v b.UM).bind λc=>
       if (c.RZ !=3) then
        again (a.1,a.2.1,a.2.2)
       else
        if a.2.2 then
         if (b.E !=43) then
          some (.inr false)
         else
          again (a.1,a.2.1,a.2.2)
        else
         if (!(decide (c.SJ>=0)&&decide (c.SJ<p0.C.Sj))) then
          if (b.E !=2) then
           some (.inr false)
          else
           again (a.1,a.2.1,a.2.2)
         else
          if (b.E==40) then
           (idx a.1 c.SJ).bind λz=>
           if (z !=p0.C.SS) then
            some (.inr false)
           else
            (idx a.2.1 c.SJ).bind λA=>
            again (a.1,(a.2.1.set (Int.toNat c.SJ) (w64 (A+1))),a.2.2)
          else
           if ((b.E !=0)||(b.SV==0)) then
            some (.inr false)
           else
            again (a.1,a.2.1,a.2.2)
     else
      again (a.1,a.2.1,a.2.2)
def bD(b:(List Int))(c:(List zV))(a:Nat)(again:Unit->Option (Unit⊕Bool))(f:Unit):Option (Unit⊕Bool):=
 (idx c (a:Int)).bind λd=>
 (idx b (a:Int)).bind λe=>
 if (d.Ta !=e) then
  some (.inr false)
 else
  again ()
def xv(fu:Nat)(p0:qq):Option Bool:=
 (eg fu).bind λe=>
 if (!e) then
  some false
 else
  (gf fu p0).bind λa=>
  vB a.1
   (some a.2)
   (λc=>
   if (!a.2) then
    some a.2
   else
    (ef c).bind λd=>
    (mkLen 4 8).bind λf=>
    (mkLen 4 8).bind λg=>
    (jN (qe p0 d) (λ(h:(List Int)×(List Int)×Bool)=>(.inl h.2.1)) (d).length 0 ((List.replicate f 0),(List.replicate g 0),false)).bind λj=>match j with
     |.inl l=>
      (cd c).bind λb=>
      if (((b).length:Int) !=p0.C.Sj) then
       some false
      else
       (jN (bD l b) (λ(q:Unit)=>(.inl ())) (b).length 0 ()).bind λn=>match n with
        |.inl v=>
         some true
        |.inr r=>some r
     |.inr r=>some r)
end Go.Proofs.YtplmgfkghomelaaGreatDoor
