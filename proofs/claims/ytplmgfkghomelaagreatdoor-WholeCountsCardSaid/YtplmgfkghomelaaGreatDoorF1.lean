/- Lemmas. -/
import Derived.Test.YtplmgfkghomelaaGreatDoorIns
set_option linter.all false
namespace Go.Proofs.YtplmgfkghomelaaGreatDoor
open Go.Sx
structure zE where
 TR:Int
 in_:List Int
def kY:Rp (List Int):=nt 3 (zy .i64) 1 (λ_=>rfl) (by decide)
def oI:Rp zE:=qO (λ(x:zE)v=>[.int .i64 x.TR,v.getD 0 undef]) 2 (λ_ _=>rfl) (λx=>x.in_) (kY)
def eT:Rp zE:=vE 231 oI
structure qt where
 A:Int
 B:Int
def oJ(x:qt):List Value:=[.int .u64 x.A,.int .u64 x.B]
structure zZ where
 N:Int
 SK:qt
def xz(x:zZ):List Value:=[.int .i64 x.N,.int .u64 x.SK.A,.int .u64 x.SK.B]
structure zT where
 SZ:Int
 TB:Int
 TC:Int
 Tf:Int
 Tx:Int
def vL(x:zT):List Value:=[.int .i64 x.SZ,.int .i64 x.TB,.int .i64 x.TC,.int .i64 x.Tf,.int .i64 x.Tx]
structure zr where
 room:Int
 TK:Bool
 waiting:List zZ
 Sj:zT
def Pw:Rp (List zZ):=nt 193 (xz) 3 (λ_=>rfl) (by decide)
def rL(f:Value):Rp zr:=qO (λ(x:zr)v=>[f,.int .i64 x.room,.bool x.TK,v.getD 0 undef,.int .i64 x.Sj.SZ,.int .i64 x.Sj.TB,.int .i64 x.Sj.TC,.int .i64 x.Sj.Tf,.int .i64 x.Sj.Tx]) 9 (λ_ _=>rfl) (λx=>x.waiting) (Pw)
def cW(f:Value):Rp zr:=vE 178 (rL f)
structure xA where
 last:Int
structure xe where
 SL:Int
 prog:Int
def gP(x:xe):List Value:=[.int .i64 x.SL,.int .i64 x.prog]
structure zx where
 SU:xA
 Sz:List xe
structure zY where
 maps:Int
 held:List (Int×(List Int))
structure zf where
 Op:Int
 D:Int
 A:Int
 B:Int
 Tm:Int
def qd(x:zf):List Value:=[.int .i64 x.Op,.int .i64 x.D,.int .i64 x.A,.int .i64 x.B,.int .i64 x.Tm]
structure zD where
 Maps:List Int
 Code:List zf
structure zU where
 module:zD
 Tk:Int
structure zb where
 SF:zx
 TE:zY
 SC:zE
 Sz:Int
 maps:Int
 Ta:Int
 SG:List (Int×zU)
 waiting:List Int
structure qr where
 Su:Int
 TN:Int
def oK(x:qr):List Value:=[.int .i64 x.Su,.int .i64 x.TN]
structure zo where
 Sn:List qr
 Si:Int
structure jL where
 Sm:Int
 UC:Int
def xB(x:jL):List Value:=[.int .i64 x.Sm,.int .i64 x.UC]
structure zH where
 Sl:Int
 Sw:Int
 SA:Int
 Td:Int
 Maps:List jL
structure zg where
 Tc:Int
 Op:Int
 Ts:Int
 Tp:Int
def qh(x:zg):List Value:=[.int .i64 x.Tc,.int .i64 x.Op,.int .u64 x.Ts,.int .u64 x.Tp]
structure zO where
 Sm:Int
 Item:zg
 SV:List zg
 Tc:Int
 SS:Int
 Tu:Int
 SK:qt
 SM:List Int
structure zk where
 E:Int
 Found:Bool
 Tp:Int
 UJ:Bool
 TS:Int
 TT:Int
def qc(x:zk):List Value:=[.int .i64 x.E,.bool x.Found,.int .u64 x.Tp,.bool x.UJ,.int .u64 x.TS,.int .u64 x.TT]
structure zt where
 Ts:Int
 Tp:Int
def zI(x:zt):List Value:=[.int .u64 x.Ts,.int .u64 x.Tp]
structure zC where
 E:Int
 N:Int
 Tj:List zk
 Pairs:List zt
structure ze where
 SP:List zO
 SO:Int
 waits:Bool
 SB:Int
 Id:zC
 parts:List (List zt)
 SE:List zC
structure qP where
 SJ:Nat->Int
structure jo where
 Sj:Nat->Int
structure zm where
 Tr:qP
 SQ:jo
def xn(x:zm):List Value:=[.int .u64 (x.Tr.SJ 0),.int .u64 (x.Tr.SJ 1),.int .u64 (x.Tr.SJ 2),.int .u64 (x.Tr.SJ 3),.int .u64 (x.Tr.SJ 4),.int .u64 (x.Tr.SJ 5),.int .u64 (x.Tr.SJ 6),.int .u64 (x.Tr.SJ 7),.int .u64 (x.Tr.SJ 8),.int .u64 (x.Tr.SJ 9),.int .u64 (x.Tr.SJ 10),.int .u64 (x.Tr.SJ 11),.int .u64 (x.Tr.SJ 12),.int .u64 (x.Tr.SJ 13),.int .u64 (x.Tr.SJ 14),.int .u64 (x.Tr.SJ 15),.int .u64 (x.SQ.Sj 0),.int .u64 (x.SQ.Sj 1),.int .u64 (x.SQ.Sj 2),.int .u64 (x.SQ.Sj 3),.int .u64 (x.SQ.Sj 4),.int .u64 (x.SQ.Sj 5),.int .u64 (x.SQ.Sj 6),.int .u64 (x.SQ.Sj 7),.int .u64 (x.SQ.Sj 8),.int .u64 (x.SQ.Sj 9),.int .u64 (x.SQ.Sj 10),.int .u64 (x.SQ.Sj 11),.int .u64 (x.SQ.Sj 12),.int .u64 (x.SQ.Sj 13),.int .u64 (x.SQ.Sj 14),.int .u64 (x.SQ.Sj 15)]
structure zM where
 Up:Int
 TL:Int
 TZ:Int
 Calls:Int
 Sum:Int
def qY(x:zM):List Value:=[.int .u64 x.Up,.int .u64 x.TL,.int .u64 x.TZ,.int .u64 x.Calls,.int .u64 x.Sum]
structure zR where
 Sz:Nat->zM
def dZ(x:zR):List Value:=[.int .u64 (x.Sz 0).Up,.int .u64 (x.Sz 0).TL,.int .u64 (x.Sz 0).TZ,.int .u64 (x.Sz 0).Calls,.int .u64 (x.Sz 0).Sum,.int .u64 (x.Sz 1).Up,.int .u64 (x.Sz 1).TL,.int .u64 (x.Sz 1).TZ,.int .u64 (x.Sz 1).Calls,.int .u64 (x.Sz 1).Sum,.int .u64 (x.Sz 2).Up,.int .u64 (x.Sz 2).TL,.int .u64 (x.Sz 2).TZ,.int .u64 (x.Sz 2).Calls,.int .u64 (x.Sz 2).Sum,.int .u64 (x.Sz 3).Up,.int .u64 (x.Sz 3).TL,.int .u64 (x.Sz 3).TZ,.int .u64 (x.Sz 3).Calls,.int .u64 (x.Sz 3).Sum]
structure zq where
 SK:qt
 module:zD
 regs:Nat->Int
 Si:Nat->Int
 SO:Int
 steps:Int
 state:Int
structure bI where
 hook:Int
 Te:zZ
 SL:Int
 prog:Int
 calls:Int
 Ue:Option zq
structure zl where
 Tg:zm
 Tz:zR
 Su:Int
 SX:bI
structure zz where
 LT:zl
 Tb:Int
 pc:Int
 Tw:Option zk
 Sv:Bool
structure qp where
 cap:Int
 Sq:List zt
structure qA where
 TG:qp
 TM:List Int
abbrev qm:Type:=qp⊕qA
structure zp where
 TJ:Int
 Ug:Int
 TQ:Bool
 Item:zg
def qK(x:zp):List Value:=[.int .i64 x.TJ,.int .i64 x.Ug,.bool x.TQ,.int .i64 x.Item.Tc,.int .i64 x.Item.Op,.int .u64 x.Item.Ts,.int .u64 x.Item.Tp]
structure zc where
 TP:Int
 Tt:Int
 maps:List qm
 Sr:List zp
 Sv:Bool
structure zB where
 SR:Int
 cmd:zO
 TX:Int
structure zd where
 TO:Int
 UQ:Int
 TJ:Int
 Vf:Int
 Ug:Int
 SK:Int
 SS:Int
 Tu:Int
 UR:Int
 Pc:Int
 Item:zg
 Tj:zk
 Tp:Int
 E:Int
def zF(x:zd):List Value:=[.int .i64 x.TO,.int .i64 x.UQ,.int .i64 x.TJ,.int .i64 x.Vf,.int .i64 x.Ug,.int .i64 x.SK,.int .i64 x.SS,.int .i64 x.Tu,.int .i64 x.UR,.int .i64 x.Pc,.int .i64 x.Item.Tc,.int .i64 x.Item.Op,.int .u64 x.Item.Ts,.int .u64 x.Item.Tp,.int .i64 x.Tj.E,.bool x.Tj.Found,.int .u64 x.Tj.Tp,.bool x.Tj.UJ,.int .u64 x.Tj.TS,.int .u64 x.Tj.TT,.int .u64 x.Tp,.int .i64 x.E]
structure zJ where
 last:Int
def dE(x:zJ):List Value:=[.int .i64 x.last]
structure za where
 Fn:zb
 SD:zo
 SI:zH
 or:List ze
 LE:List zz
 Fd:List zc
 rings:List zr
 Sr:List zB
 held:List zB
 Sy:Int
 Sk:Bool
 over:Bool
 SH:List zd
 Ti:zJ
def Px:Rp (List xe):=nt 294 (gP) 2 (λ_=>rfl) (by decide)
def rM:Rp zx:=qO (λ(x:zx)v=>[.int .i64 x.SU.last,v.getD 0 undef]) 2 (λ_ _=>rfl) (λx=>x.Sz) (Px)
def aC:Rp zx:=vE 229 rM
def Py:Rp (List (Int×(List Int))):=Jv kY
def nE:Rp zY:=qO (λ(x:zY)v=>[.int .i64 x.maps,v.getD 0 undef]) 2 (λ_ _=>rfl) (λx=>x.held) (Py)
def kn:Rp zY:=vE 223 nE
def Pz:Rp (List zf):=nt 160 (qd) 5 (λ_=>rfl) (by decide)
def me:Rp zU:=qO (λ(x:zU)v=>[v.getD 0 undef,v.getD 1 undef,.int .i64 x.Tk]) 3 (λ_ _=>rfl) (λx=>(x.module.Maps,x.module.Code)) (jq kY Pz)
def mf:Rp zU:=vE 299 me
def PA:Rp (List (Int×zU)):=Jv mf
def vo:Rp zb:=qO (λ(x:zb)v=>[v.getD 0 undef,v.getD 1 undef,v.getD 2 undef,.int .i64 x.Sz,.int .i64 x.maps,.int .i64 x.Ta,v.getD 3 undef,v.getD 4 undef]) 8 (λ_ _=>rfl) (λx=>(x.SF,(x.TE,(x.SC,(x.SG,x.waiting))))) (jq aC (jq kn (jq eT (jq PA kY))))
def bU:Rp zb:=vE 169 vo
def PB:Rp (List qr):=nt 210 (oK) 2 (λ_=>rfl) (by decide)
def fH:Rp zo:=qO (λ(x:zo)v=>[v.getD 0 undef,.int .i64 x.Si]) 2 (λ_ _=>rfl) (λx=>x.Sn) (PB)
def xw:Rp zo:=vE 203 fH
def PC:Rp (List zg):=nt 46 (qh) 4 (λ_=>rfl) (by decide)
def PD:Rp (List Int):=Ac 5 (zy .u8) 1 (λ_=>rfl) (by decide)
def nW:Rp zO:=qO (λ(x:zO)v=>[.int .i64 x.Sm,.int .i64 x.Item.Tc,.int .i64 x.Item.Op,.int .u64 x.Item.Ts,.int .u64 x.Item.Tp,v.getD 0 undef,.int .i64 x.Tc,.int .i64 x.SS,.int .i64 x.Tu,.int .u64 x.SK.A,.int .u64 x.SK.B,v.getD 1 undef]) 12 (λ_ _=>rfl) (λx=>(x.SV,x.SM)) (jq PC PD)
def BE:Rp (List zO):=kS 71 nW (by decide)
def Ng:Rp (List zk):=nt 48 (qc) 6 (λ_=>rfl) (by decide)
def ti:Rp (List zt):=nt 86 (zI) 2 (λ_=>rfl) (by decide)
def Ml:Rp (List (List zt)):=kS 76 ti (by decide)
def nv:Rp zC:=qO (λ(x:zC)v=>[.int .i64 x.E,.int .i64 x.N,v.getD 0 undef,v.getD 1 undef]) 4 (λ_ _=>rfl) (λx=>(x.Tj,x.Pairs)) (jq Ng ti)
def PE:Rp (List zC):=kS 96 nv (by decide)
def aX(w:World)(S:List Nat):Rp ze:=qO (λ(x:ze)v=>[v.getD 0 undef,.int .i64 x.SO,.bool x.waits,.int .i64 x.SB,.int .i64 x.Id.E,.int .i64 x.Id.N,v.getD 1 undef,v.getD 2 undef,v.getD 3 undef,v.getD 4 undef]) 10 (λ_ _=>rfl) (λx=>(x.SP,(x.Id.Tj,(x.Id.Pairs,(x.parts,x.SE))))) (jq (rdP (BE) w S) (jq Ng (jq ti (jq Ml PE))))
def mg(w:World)(S:List Nat):Rp ze:=vE 135 (aX w S)
def Mm(w:World)(S:List Nat):Rp (List ze):=kS 131 (mg w S) (r7 rfl)
def PF:Rp zm:=sk (xn) 32 (λ_=>rfl)
def iC:Rp zm:=vE 244 PF
def PG:Rp zR:=sk (dZ) 20 (λ_=>rfl)
def gQ:Rp zR:=vE 247 PG
def vB(f:Value):Rp zq:=qO (λ(x:zq)v=>[.int .u64 x.SK.A,.int .u64 x.SK.B,v.getD 0 undef,v.getD 1 undef,f,.int .u64 (x.regs 0),.int .u64 (x.regs 1),.int .u64 (x.regs 2),.int .u64 (x.regs 3),.int .u64 (x.regs 4),.int .u64 (x.regs 5),.int .u64 (x.regs 6),.int .u64 (x.regs 7),.int .i64 (x.Si 0),.int .i64 (x.Si 1),.int .i64 (x.Si 2),.int .i64 (x.Si 3),.int .i64 (x.Si 4),.int .i64 (x.Si 5),.int .i64 (x.Si 6),.int .i64 (x.Si 7),.int .i64 (x.Si 8),.int .i64 (x.Si 9),.int .i64 (x.Si 10),.int .i64 (x.Si 11),.int .i64 (x.Si 12),.int .i64 (x.Si 13),.int .i64 (x.Si 14),.int .i64 (x.Si 15),.int .i64 (x.Si 16),.int .i64 (x.Si 17),.int .i64 (x.Si 18),.int .i64 (x.Si 19),.int .i64 (x.Si 20),.int .i64 (x.Si 21),.int .i64 (x.Si 22),.int .i64 (x.Si 23),.int .i64 (x.Si 24),.int .i64 (x.Si 25),.int .i64 (x.Si 26),.int .i64 (x.Si 27),.int .i64 (x.Si 28),.int .i64 (x.Si 29),.int .i64 (x.Si 30),.int .i64 (x.Si 31),.int .i64 (x.Si 32),.int .i64 (x.Si 33),.int .i64 (x.Si 34),.int .i64 (x.Si 35),.int .i64 (x.Si 36),.int .i64 (x.Si 37),.int .i64 (x.Si 38),.int .i64 (x.Si 39),.int .i64 (x.Si 40),.int .i64 (x.Si 41),.int .i64 (x.Si 42),.int .i64 (x.Si 43),.int .i64 (x.Si 44),.int .i64 (x.Si 45),.int .i64 (x.Si 46),.int .i64 (x.Si 47),.int .i64 (x.Si 48),.int .i64 (x.Si 49),.int .i64 (x.Si 50),.int .i64 (x.Si 51),.int .i64 (x.Si 52),.int .i64 (x.Si 53),.int .i64 (x.Si 54),.int .i64 (x.Si 55),.int .i64 (x.Si 56),.int .i64 (x.Si 57),.int .i64 (x.Si 58),.int .i64 (x.Si 59),.int .i64 (x.Si 60),.int .i64 (x.Si 61),.int .i64 (x.Si 62),.int .i64 (x.Si 63),.int .i64 x.SO,.int .i64 x.steps,.int .i64 x.state]) 80 (λ_ _=>rfl) (λx=>(x.module.Maps,x.module.Code)) (jq kY Pz)
def eU:Rp zl:=qO (λ(x:zl)v=>[v.getD 0 undef,v.getD 1 undef,.int .i64 x.Su,.int .i64 x.SX.hook,.int .i64 x.SX.Te.N,.int .u64 x.SX.Te.SK.A,.int .u64 x.SX.Te.SK.B,.int .i64 x.SX.SL,.int .i64 x.SX.prog,.int .u64 x.SX.calls,v.getD 2 undef]) 11 (λ_ _=>rfl) (λx=>(x.Tg,x.Tz,x.SX.Ue)) (QC iC gQ (λf=>(Bi 330 (vB f))) 1 (λ_=>rfl))
def fI:Rp zl:=vE 198 eU
def ef:Rp zz:=qO (λ(x:zz)v=>[v.getD 0 undef,.int .i64 x.Tb,.int .i64 x.pc,v.getD 1 undef,.bool x.Sv]) 5 (λ_ _=>rfl) (λx=>(x.LT,x.Tw)) (jq fI (Kt 268 qc))
def iD:Rp zz:=vE 130 ef
def Mn:Rp (List zz):=kS 125 iD (by decide)
def nF:Rp qp:=qO (λ(x:qp)v=>[.int .i64 x.cap,v.getD 0 undef]) 2 (λ_ _=>rfl) (λx=>x.Sq) (ti)
def aD:Rp qp:=vE 280 nF
def PH:Rp (List Int):=nt 44 (zy .u64) 1 (λ_=>rfl) (by decide)
def oL:Rp qA:=qO (λ(x:qA)v=>[v.getD 0 undef,v.getD 1 undef]) 2 (λ_ _=>rfl) (λx=>(x.TG,x.TM)) (jq aD PH)
def dq:Rp qA:=vE 283 oL
def fJ:Rp qm:=Np (Hj 232 aD) (Hj 235 dq) rfl rfl
def PI:Rp (List qm):=kS 184 fJ (by decide)
def PJ:Rp (List zp):=nt 286 (qK) 7 (λ_=>rfl) (by decide)
def eV:Rp zc:=qO (λ(x:zc)v=>[.int .i64 x.TP,.int .i64 x.Tt,v.getD 0 undef,v.getD 1 undef,.bool x.Sv]) 5 (λ_ _=>rfl) (λx=>(x.maps,x.Sr)) (jq PI PJ)
def xx:Rp zc:=vE 182 eV
def Mo:Rp (List zc):=kS 122 xx (by decide)
def Mp(f:Value):Rp (List zr):=kS 119 (cW f) (r7 rfl)
def gR(w:World)(S:List Nat):Rp zB:=qO (λ(x:zB)v=>[.int .i64 x.SR,.int .i64 x.cmd.Sm,.int .i64 x.cmd.Item.Tc,.int .i64 x.cmd.Item.Op,.int .u64 x.cmd.Item.Ts,.int .u64 x.cmd.Item.Tp,v.getD 0 undef,.int .i64 x.cmd.Tc,.int .i64 x.cmd.SS,.int .i64 x.cmd.Tu,.int .u64 x.cmd.SK.A,.int .u64 x.cmd.SK.B,v.getD 1 undef,.int .i64 x.TX]) 14 (λ_ _=>rfl) (λx=>(x.cmd.SV,x.cmd.SM)) (jq (HK w S (qh) 4) (HK w S (zy .u8) 1))
def HU(w:World)(S:List Nat):Rp (List zB):=kS 272 (gR w S) (r7 rfl)
def PK:Rp (List zd):=nt 50 (zF) 22 (λ_=>rfl) (by decide)
def PL:Rp zJ:=sk (dE) 1 (λ_=>rfl)
def eg:Rp zJ:=vE 118 PL
def qE(w:World)(S:List Nat):Rp za:=qO (λ(x:za)v=>[v.getD 0 undef,v.getD 1 undef,.int .i64 x.SI.Sl,.int .i64 x.SI.Sw,.int .i64 x.SI.SA,.int .i64 x.SI.Td,v.getD 2 undef,v.getD 3 undef,v.getD 4 undef,v.getD 5 undef,v.getD 6 undef,v.getD 7 undef,v.getD 8 undef,.int .i64 x.Sy,.bool x.Sk,.bool x.over,v.getD 9 undef]) 17 (λ_ _=>rfl) (λx=>(x.Ti,(x.Fn,(x.SD,(x.SI.Maps,(x.or,(x.LE,(x.Fd,(x.rings,(x.Sr,(x.held,x.SH))))))))))) (No eg (λf=>jq bU (jq xw (jq (Mq jL) (jq (Mm w S) (jq Mn (jq Mo (jq (Mp f) (jq (HU w S) (jq (HU w S) PK))))))))) 10 (λ_=>rfl))
def jK(w:World)(S:List Nat):Rp za:=vE 115 (qE w S)
def Q3:Rp zk:=sk (qc) 6 (λ_=>rfl)
def Aa:Rp ze:=qO (λ(x:ze)v=>[v.getD 0 undef,.int .i64 x.SO,.bool x.waits,.int .i64 x.SB,.int .i64 x.Id.E,.int .i64 x.Id.N,v.getD 1 undef,v.getD 2 undef,v.getD 3 undef,v.getD 4 undef]) 10 (λ_ _=>rfl) (λx=>(x.SP,(x.Id.Tj,(x.Id.Pairs,(x.parts,x.SE))))) (jq BE (jq Ng (jq ti (jq Ml PE))))
def iQ:Rp ze:=vE 135 Aa
def Ab:Rp zB:=qO (λ(x:zB)v=>[.int .i64 x.SR,.int .i64 x.cmd.Sm,.int .i64 x.cmd.Item.Tc,.int .i64 x.cmd.Item.Op,.int .u64 x.cmd.Item.Ts,.int .u64 x.cmd.Item.Tp,v.getD 0 undef,.int .i64 x.cmd.Tc,.int .i64 x.cmd.SS,.int .i64 x.cmd.Tu,.int .u64 x.cmd.SK.A,.int .u64 x.cmd.SK.B,v.getD 1 undef,.int .i64 x.TX]) 14 (λ_ _=>rfl) (λx=>(x.cmd.SV,x.cmd.SM)) (jq PC PD)
def HV:Rp (List ze):=kS 131 iQ (by decide)
def Dr:Rp (List zB):=kS 272 Ab (by decide)
def Ds:Rp za:=qO (λ(x:za)v=>[v.getD 0 undef,v.getD 1 undef,.int .i64 x.SI.Sl,.int .i64 x.SI.Sw,.int .i64 x.SI.SA,.int .i64 x.SI.Td,v.getD 2 undef,v.getD 3 undef,v.getD 4 undef,v.getD 5 undef,v.getD 6 undef,v.getD 7 undef,v.getD 8 undef,.int .i64 x.Sy,.bool x.Sk,.bool x.over,v.getD 9 undef]) 17 (λ_ _=>rfl) (λx=>(x.Ti,(x.Fn,(x.SD,(x.SI.Maps,(x.or,(x.LE,(x.Fd,(x.rings,(x.Sr,(x.held,x.SH))))))))))) (No eg (λf=>jq bU (jq xw (jq (Mq jL) (jq HV (jq Mn (jq Mo (jq (Mp f) (jq Dr (jq Dr PK))))))))) 10 (λ_=>rfl))
def PM:Rp za:=vE 115 Ds
structure jd where
 name:ByteArray
 Tq:ByteArray
def zX(x:jd):List Value:=[.string x.name,.string x.Tq]
def xS:List jd:=[(jd.mk (⟨[115,101,116].toArray⟩) (⟨[100,115].toArray⟩)),
 (jd.mk (⟨[97,100,100].toArray⟩) (⟨[100,97,115].toArray⟩)),
 (jd.mk (⟨[115,117,98].toArray⟩) (⟨[100,97,115].toArray⟩)),
 (jd.mk (⟨[109,117,108].toArray⟩) (⟨[100,97,115].toArray⟩)),
 (jd.mk (⟨[100,105,118].toArray⟩) (⟨[100,97,115].toArray⟩)),
 (jd.mk (⟨[114,101,109].toArray⟩) (⟨[100,97,115].toArray⟩)),
 (jd.mk (⟨[97,110,100].toArray⟩) (⟨[100,97,115].toArray⟩)),
 (jd.mk (⟨[111,114].toArray⟩) (⟨[100,97,115].toArray⟩)),
 (jd.mk (⟨[120,111,114].toArray⟩) (⟨[100,97,115].toArray⟩)),
 (jd.mk (⟨[115,104,108].toArray⟩) (⟨[100,97,115].toArray⟩)),
 (jd.mk (⟨[115,104,114].toArray⟩) (⟨[100,97,115].toArray⟩)),
 (jd.mk (⟨[108,111,97,100].toArray⟩) (⟨[100,115].toArray⟩)),
 (jd.mk (⟨[115,116,111,114,101].toArray⟩) (⟨[97,115].toArray⟩)),
 (jd.mk (⟨[102,105,101,108,100].toArray⟩) (⟨[100,102].toArray⟩)),
 (jd.mk (⟨[109,97,112].toArray⟩) (⟨[100,109].toArray⟩)),
 (jd.mk (⟨[106,117,109,112].toArray⟩) (⟨[106].toArray⟩)),
 (jd.mk (⟨[106,101,113].toArray⟩) (⟨[106,97,115].toArray⟩)),
 (jd.mk (⟨[106,110,101].toArray⟩) (⟨[106,97,115].toArray⟩)),
 (jd.mk (⟨[106,108,116].toArray⟩) (⟨[106,97,115].toArray⟩)),
 (jd.mk (⟨[106,103,101].toArray⟩) (⟨[106,97,115].toArray⟩)),
 (jd.mk (⟨[108,111,111,112].toArray⟩) (⟨[98,97,110].toArray⟩)),
 (jd.mk (⟨[99,97,108,108].toArray⟩) (⟨[104].toArray⟩)),
 (jd.mk (⟨[101,120,105,116].toArray⟩) (⟨[97].toArray⟩))]
structure qy where
 TH:Int
 At:Int
 TY:Int
def xZ(x:qy):List Value:=[.int .i64 x.TH,.int .i64 x.At,.int .i64 x.TY]
structure zh where
 Lo:Int
 Hi:Int
def dT(x:zh):List Value:=[.int .u64 x.Lo,.int .u64 x.Hi]
structure zi where
 Sm:Int
 SN:zh
 Tc:Int
def zu(x:zi):List Value:=[.int .i64 x.Sm,.int .u64 x.SN.Lo,.int .u64 x.SN.Hi,.int .i64 x.Tc]
structure zj where
 SM:zD
 SY:List (Nat->zi)
 any:List Bool
 loops:List qy
def PN:Rp (List (Nat->zi)):=nt 379 (eR (zu) 8) 32 (λ_=>rfl) (by decide)
def PO:Rp (List Bool):=nt 4 (iX) 1 (λ_=>rfl) (by decide)
def PP:Rp (List qy):=nt 400 (xZ) 3 (λ_=>rfl) (by decide)
def dU(w:World)(S:List Nat):Rp zj:=qO (λ(x:zj)v=>[v.getD 0 undef,v.getD 1 undef,v.getD 2 undef,v.getD 3 undef,v.getD 4 undef]) 5 (λ_ _=>rfl) (λx=>(x.SM.Maps,(x.SM.Code,(x.SY,(x.any,x.loops))))) (jq (HK w S (zy .i64) 1) (jq (HK w S (qd) 5) (jq PN (jq PO PP))))
def dr(w:World)(S:List Nat):Rp zj:=vE 370 (dU w S)
structure bO where
 name:ByteArray
 Un:ByteArray
 most:Int
 asks:Int
 Uf:Bool
def qn(x:bO):List Value:=[.string x.name,.string x.Un,.int .u64 x.most,.int .i64 x.asks,.bool x.Uf]
def aE:List bO:=[(bO.mk (⟨[103,101,116].toArray⟩) (⟨[104,110].toArray⟩) 18446744073709551615 0 true),
 (bO.mk (⟨[104,97,115].toArray⟩) (⟨[104,110].toArray⟩) 1 1 true),
 (bO.mk (⟨[112,117,116].toArray⟩) (⟨[104,110,110].toArray⟩) 1 2 true),
 (bO.mk (⟨[100,101,108].toArray⟩) (⟨[104,110].toArray⟩) 1 3 true),
 (bO.mk (⟨[97,100,100].toArray⟩) (⟨[104,110,110].toArray⟩) 18446744073709551615 4 true),
 (bO.mk (⟨[109,97,114,107].toArray⟩) (⟨[115].toArray⟩) 18446744073709551615 0 false),
 (bO.mk (⟨[110,111,116,101].toArray⟩) (⟨[110].toArray⟩) 0 0 false)]
def lP(f:Value):Rp zq:=vE 330 (vB f)
structure qT where
 Sm:Int
 Pc:Int
 Item:zg
 Tp:Int
def oM:Rp zk:=vE 48 Q3
structure bB where
 To:Int
 Ug:Int
 TQ:Bool
 Item:zg
 Tj:zk
 Pairs:List zt
structure zw where
 b:List Int
 SO:Int
 field:Int
 e:Int
def bP(w:World)(S:List Nat):Rp zw:=qO (λ(x:zw)v=>[v.getD 0 undef,.int .i64 x.SO,.int .i64 x.field,.int .i64 x.e]) 4 (λ_ _=>rfl) (λx=>x.b) ((HK w S (zy .u8) 1))
def eW(w:World)(S:List Nat):Rp zw:=vE 155 (bP w S)
structure qZ where
 C:zH
 Tl:List (List zO)
 Th:List Int
theorem Nh:Cv Aa (λw S=>aX w S):=Cv.struct (x2 (Cv.bor _) (x2 (Cv.refl _) (x2 (Cv.refl _) (x2 (Cv.refl _) (Cv.refl _)))))
theorem Ni:Cv iQ (λw S=>mg w S):=Cv.ptr Nh
theorem Nj:Cv HV (λw S=>Mm w S):=Cv.rowN Ni
theorem Nk:Cv Ab (λw S=>gR w S):=Cv.struct (x2 Cv.row (Cv.rowF))
theorem HW:Cv Dr (λw S=>HU w S):=Cv.rowN Nk
theorem Nl:Cv Ds (λw S=>qE w S):=Cv.struct (Cv.gho (λ_=>x2 (Cv.refl _) (x2 (Cv.refl _) (x2 (Cv.refl _) (x2 Nj (x2 (Cv.refl _) (x2 (Cv.refl _) (x2 (Cv.refl _) (x2 HW (x2 HW (Cv.refl _)))))))))))
theorem PQ:Cv PM (λw S=>jK w S):=Cv.ptr Nl
def bJ(p:Int)(a:Int):Option Bool:=
 some (p==a)
def bf(p:List Int)(e:Int)(a:Nat)(d:Unit->Option (Unit⊕Int))(c:Unit):Option (Unit⊕Int):=
 (idx p (a:Int)).bind λb=>
 if (e==b) then
  some (.inr (a:Int))
 else
  d ()
def xf(p:List Int)(d:Int):Option Int:=
 (jM (bf p d) (λ(b:Unit)=>(.inl ())) (p).length 0 ()).bind λa=>match a with
  |.inl c=>
   some (-1)
  |.inr r=>some r
def qa(p:List Int)(b:Int):Option Bool:=
 (xf p b).bind λa=>
 some (decide (a>=0))
def jj(p:Int)(b:List Int):Option Bool:=
 (qa b p).bind λa=>
 some a
def gS(p:zE)(e:Int)(b:Nat)(d:Unit->Option (Unit⊕Bool))(c:Unit):Option (Unit⊕Bool):=
 (idx p.in_ (b:Int)).bind λa=>
 if ((a !=0)&&decide (a<e)) then
  some (.inr false)
 else
  d ()
def vF(p:zE)(e:Int):Option Bool:=
 ((room (p.in_).length 1).bind λb=>
 jM (gS p e) (λ(c:Unit)=>(.inl ())) (p.in_).length 0 ()).bind λa=>match a with
  |.inl d=>
   some true
  |.inr r=>some r
def xM(p:zr):Option zT:=
 some (zT.mk p.Sj.SZ p.Sj.TB p.Sj.TC p.Sj.Tf ((p.waiting).length:Int))
def cX(p:za)(a:Nat)(e:Unit->Option (Unit⊕Bool))(d:Unit):Option (Unit⊕Bool):=
 (idx p.rings (a:Int)).bind λb=>
 (xM b).bind λc=>
 if decide (c.Tx>0) then
  some (.inr true)
 else
  e ()
def ve(p:za):Option Bool:=
 ((room (p.rings).length 1).bind λb=>
 jM (cX p) (λ(c:Unit)=>(.inl ())) (p.rings).length 0 ()).bind λa=>match a with
  |.inl d=>
   some false
  |.inr r=>some r
def jN(p:zl):Option Int:=
 some p.Su
def cY(p:za)(a:Nat)(e:Unit->Option (Unit⊕Bool))(d:Unit):Option (Unit⊕Bool):=
 (idx p.LE (a:Int)).bind λb=>
 (jN b.LT).bind λc=>
 if (c !=0) then
  some (.inr false)
 else
  e ()
def vf(p:za):Option Bool:=
 ((room (p.LE).length 1).bind λb=>
 jM (cY p) (λ(c:Unit)=>(.inl ())) (p.LE).length 0 ()).bind λa=>match a with
  |.inl d=>
   some true
  |.inr r=>some r
def xl(e:zB)(p:za):Option Bool:=
 if (e.cmd.Sm==8) then
  (vF p.Fn.SC e.TX).bind λa=>
  some a
 else
  ((ve p).bind λb=>
  if (!b) then
   (vf p).bind λc=>
   some c
  else
   some false).bind λd=>
  some d
def cF(p:zg)(b:za):Option Bool:=
 (if decide (p.Tc<0) then
  some true
 else
  if decide (p.Tc>=((b.SI.Maps).length:Int)) then
   some true
  else
   if decide (p.Op<0) then
    some true
   else
    some (decide (p.Op>=5))).bind λa=>
 some a
def ko(p:Int):Option ((Option zx)×Int):=
 if (decide (p<1)||decide (p>4)) then
  some (none,2)
 else
  (mkLen p 16).bind λa=>
  some ((some (zx.mk (xA.mk 0) (List.replicate a (xe.mk 0 0)))),0)
def kZ(p:Int):Option ((Option zY)×Int):=
 if (decide (p<0)||decide (p>4)) then
  some (none,2)
 else
  some ((some (zY.mk p ([]:List (Int×(List Int))))),0)
def eh(p:Int):Option ((Option zE)×Int):=
 if (decide (p<1)||decide (p>4)) then
  some (none,2)
 else
  (mkLen p 8).bind λa=>
  some ((some (zE.mk 1 (List.replicate a 0))),0)
def bV(k:Int)(i:Int)(p:Int):Option ((Option zb)×Int):=
 (ko k).bind λa=>
 vT a.1
  ((kZ i).bind λb=>
  vT b.1
   ((eh p).bind λd=>
   vT d.1
    (if (((a.2 !=0)||(b.2 !=0))||(d.2 !=0)) then
     some (none,2)
    else
     none)
    (λn=>
    if (((a.2 !=0)||(b.2 !=0))||(d.2 !=0)) then
     some (none,2)
    else
     none))
   (λq=>
   (eh p).bind λe=>
   vT e.1
    (if (((a.2 !=0)||(b.2 !=0))||(e.2 !=0)) then
     some (none,2)
    else
     none)
    (λv=>
    if (((a.2 !=0)||(b.2 !=0))||(e.2 !=0)) then
     some (none,2)
    else
     none)))
  (λh=>
  (kZ i).bind λc=>
  vT c.1
   ((eh p).bind λf=>
   vT f.1
    (if (((a.2 !=0)||(c.2 !=0))||(f.2 !=0)) then
     some (none,2)
    else
     none)
    (λz=>
    if (((a.2 !=0)||(c.2 !=0))||(f.2 !=0)) then
     some (none,2)
    else
     none))
   (λj=>
   (eh p).bind λg=>
   vT g.1
    (if (((a.2 !=0)||(c.2 !=0))||(g.2 !=0)) then
     some (none,2)
    else
     none)
    (λl=>
    if (((a.2 !=0)||(c.2 !=0))||(g.2 !=0)) then
     some (none,2)
    else
     some ((some (zb.mk h j l k i 0 ([]:List (Int×zU)) ([]:List Int))),0))))
def lf(p:Int)(a:zJ):Option ((Option zr)×Int):=
 if ((decide (p<1)||decide (p>16))||false) then
  some (none,2)
 else
  some ((some (zr.mk p false ([]:List zZ) (zT.mk 0 0 0 0 0))),0)
def iE(p:Int):Option ((Option qp)×Int):=
 if (decide (p<1)||decide (p>16)) then
  some (none,2)
 else
  some ((some (qp.mk p ([]:List zt))),0)
def pS(p:Int):Option ((Option qA)×Int):=
 (iE p).bind λa=>
 vT a.1
  (if (a.2 !=0) then
   some (none,a.2)
  else
   none)
  (λb=>
  if (a.2 !=0) then
   some (none,a.2)
  else
   some ((some (qA.mk b ([]:List Int))),0))
def ek(p:jL):Option ((Option qm)×Int):=
 if (p.Sm==0) then
  (iE p.UC).bind λa=>
  vT a.1
   (if (a.2==0) then
    none
   else
    some (none,2))
   (λc=>
   if (a.2==0) then
    some ((some (.inl c)),a.2)
   else
    some (none,2))
 else
  if (p.Sm==1) then
   (pS p.UC).bind λb=>
   vT b.1
    (if (b.2==0) then
     none
    else
     some (none,2))
    (λd=>
    if (b.2==0) then
     some ((some (.inr d)),b.2)
    else
     some (none,2))
  else
   some (none,2)
def iF(p:List jL)(d:Nat)(g:zc->Option (zc⊕((Option zc)×Int)))(b:zc):Option (zc⊕((Option zc)×Int)):=
 (idx p (d:Int)).bind λe=>
 (ek e).bind λa=>
 vT a.1
  (if (a.2 !=0) then
   some (.inr (none,a.2))
  else
   none)
  (λc=>
  if (a.2 !=0) then
   some (.inr (none,a.2))
  else
   (room (b.maps.length+([c]).length) 16).bind λf=>
   g {b with maps:=(b.maps++[c])})
def bW(d:Int)(p:Int)(e:List jL):Option ((Option zc)×Int):=
 if ((((decide (p<1)||decide (p>4))||decide (d<0))||decide (d>=p))||decide (((e).length:Int)>4)) then
  some (none,2)
 else
  (jM (iF e) (λ(a:zc)=>(.inl a)) (e).length 0 (zc.mk d p ([]:List qm) ([]:List zp) false)).bind λb=>match b with
   |.inl c=>
    some ((some c),0)
   |.inr r=>some r
def nX :Option zm:=
 some (zm.mk (qP.mk (λ_=>0)) (jo.mk (λ_=>0)))
def tj :Option zR:=
 some (zR.mk (λ_=>(zM.mk 0 0 0 0 0)))
def fa :Option zl:=
 nX.bind λa=>
 tj.bind λb=>
 some (zl.mk a b 0 (bI.mk 0 (zZ.mk 0 (qt.mk 0 0)) 0 0 0 none))
def zG(p:List zg):Option (List zg):=
 (room (([]:List zg).length+p.length) 32).bind λa=>
 some (([]:List zg)++p)
def qQ(p:List Int):Option (List Int):=
 (room (([]:List Int).length+p.length) 1).bind λa=>
 some (([]:List Int)++p)
def bX(p:List zO):Option (List zO):=
 (room (0+p.length) 128).bind λ_=>(p.foldlM (λ(_:Unit)c=>(zG c.SV).bind λ_=>(qQ c.SM).bind λ_=>some ()) ()).bind λ_=>some p
def na(p:Int):Option ((Option zo)×Int):=
 if (decide (p<1)||decide (p>64)) then
  some (none,2)
 else
  (mkLen p 16).bind λa=>
  some ((some (zo.mk (List.replicate a (qr.mk 0 0)) 0)),0)
abbrev yA:=(Option za)×Int
def nY(p:zH)(e:((List zr)×Int)->Option ((List zr)⊕yA))(a:(List zr)×Int):Option ((List zr)⊕yA):=
 if decide (a.2<p.SA) then
  (lf p.Td (zJ.mk 0)).bind λb=>
  vT b.1
   (if (b.2 !=0) then
    some (.inr (none,b.2))
   else
    none)
   (λc=>
   if (b.2 !=0) then
    some (.inr (none,b.2))
   else
    (room (a.1.length+([c]).length) 8).bind λd=>
    e ((a.1++[c]),w64 (a.2+1)))
 else
  some (.inl a.1)
def nZ(p:zH)(e:((List zc)×Int)->Option ((List zc)⊕yA))(a:(List zc)×Int):Option ((List zc)⊕yA):=
 if decide (a.2<p.Sw) then
  (bW a.2 p.Sw p.Maps).bind λb=>
  vT b.1
   (if (b.2 !=0) then
    some (.inr (none,b.2))
   else
    none)
   (λc=>
   if (b.2 !=0) then
    some (.inr (none,b.2))
   else
    (room (a.1.length+([c]).length) 8).bind λd=>
    e ((a.1++[c]),w64 (a.2+1)))
 else
  some (.inl a.1)
def lh(p:zH)(d:((List zz)×Int)->Option (List zz))(a:(List zz)×Int):Option (List zz):=
 if decide (a.2<p.Sl) then
  fa.bind λb=>
  (room (a.1.length+([(zz.mk b 0 0 none false)]).length) 8).bind λc=>
  d ((a.1++[(zz.mk b 0 0 none false)]),w64 (a.2+1))
 else
  some a.1
def oa(p:List (List zO))(d:Nat)(f:(List ze)->Option ((List ze)⊕yA))(a:(List ze)):Option ((List ze)⊕yA):=
 (idx p (d:Int)).bind λb=>
 if decide (((b).length:Int)>64) then
  some (.inr (none,11))
 else
  (bX b).bind λc=>
  (room (a.length+([(ze.mk c 0 false 0 (zC.mk 0 0 ([]:List zk) ([]:List zt)) ([]:List (List zt)) ([]:List zC))]).length) 8).bind λe=>
  f (a++[(ze.mk c 0 false 0 (zC.mk 0 0 ([]:List zk) ([]:List zt)) ([]:List (List zt)) ([]:List zC))])
def Du(p:zH)(e:((List zr)×Int)->Option ((List zr)⊕yA))(a:(List zr)×Int):Option ((List zr)⊕yA):=
 if decide (a.2<p.SA) then
  (lf p.Td (zJ.mk 0)).bind λb=>
  vT b.1
   (if (b.2 !=0) then
    some (.inr (none,b.2))
   else
    none)
   (λc=>
   if (b.2 !=0) then
    some (.inr (none,b.2))
   else
    (room (a.1.length+([c]).length) 8).bind λd=>
    e ((a.1++[c]),w64 (a.2+1)))
 else
  some (.inl a.1)
def Dv(p:zH)(e:((List zc)×Int)->Option ((List zc)⊕yA))(a:(List zc)×Int):Option ((List zc)⊕yA):=
 if decide (a.2<p.Sw) then
  (bW a.2 p.Sw p.Maps).bind λb=>
  vT b.1
   (if (b.2 !=0) then
    some (.inr (none,b.2))
   else
    none)
   (λc=>
   if (b.2 !=0) then
    some (.inr (none,b.2))
   else
    (room (a.1.length+([c]).length) 8).bind λd=>
    e ((a.1++[c]),w64 (a.2+1)))
 else
  some (.inl a.1)
def Dw(p:zH)(d:((List zz)×Int)->Option (List zz))(a:(List zz)×Int):Option (List zz):=
 if decide (a.2<p.Sl) then
  fa.bind λb=>
  (room (a.1.length+([(zz.mk b 0 0 none false)]).length) 8).bind λc=>
  d ((a.1++[(zz.mk b 0 0 none false)]),w64 (a.2+1))
 else
  some a.1
def Dx(p:List (List zO))(d:Nat)(f:(List ze)->Option ((List ze)⊕yA))(a:(List ze)):Option ((List ze)⊕yA):=
 (idx p (d:Int)).bind λb=>
 if decide (((b).length:Int)>64) then
  some (.inr (none,11))
 else
  (bX b).bind λc=>
  (room (a.length+([(ze.mk c 0 false 0 (zC.mk 0 0 ([]:List zk) ([]:List zt)) ([]:List (List zt)) ([]:List zC))]).length) 8).bind λe=>
  f (a++[(ze.mk c 0 false 0 (zC.mk 0 0 ([]:List zk) ([]:List zt)) ([]:List (List zt)) ([]:List zC))])
def ep(k:Nat)(p:zH)(i:List (List zO)):Option yA:=
 (bV p.SA ((p.Maps).length:Int) p.Sl).bind λa=>
 vT a.1
  (if (((((a.2 !=0)||decide (p.Sw<1))||decide (p.Sw>4))||decide (((i).length:Int)<1))||decide (((i).length:Int)>4)) then
   some (none,2)
  else
   (loop (Du p) k (([]:List zr),0)).bind λb=>match b with
    |.inl D=>
     (loop (Dv p) k (([]:List zc),0)).bind λc=>match c with
      |.inl E=>
       (loop (Dw p) k (([]:List zz),0)).bind λF=>
       (jM (Dx i) (λ(d:(List ze))=>(.inl d)) (i).length 0 ([]:List ze)).bind λe=>match e with
        |.inl G=>
         (na (w64 ((w64 ((w64 (((i).length:Int)+p.Sl))+p.Sw))+1))).bind λf=>
         vT f.1
          (none)
          (λH=>
          none)
        |.inr r=>some r
      |.inr r=>some r
    |.inr r=>some r)
  (λg=>
  if (((((a.2 !=0)||decide (p.Sw<1))||decide (p.Sw>4))||decide (((i).length:Int)<1))||decide (((i).length:Int)>4)) then
   some (none,2)
  else
   (loop (nY p) k (([]:List zr),0)).bind λh=>match h with
    |.inl j=>
     (loop (nZ p) k (([]:List zc),0)).bind λl=>match l with
      |.inl n=>
       (loop (lh p) k (([]:List zz),0)).bind λq=>
       (jM (oa i) (λ(v:(List ze))=>(.inl v)) (i).length 0 ([]:List ze)).bind λz=>match z with
        |.inl A=>
         (na (w64 ((w64 ((w64 (((i).length:Int)+p.Sl))+p.Sw))+1))).bind λB=>
         vT B.1
          (none)
          (λC=>
          some ((some (za.mk g C p A q n j ([]:List zB) ([]:List zB) 0 false false ([]:List zd) (zJ.mk 0))),0))
        |.inr r=>some r
      |.inr r=>some r
    |.inr r=>some r)
def bY(p:zo):Option Int:=
 some p.Si
def qG(p:za):Option Int:=
 some (w64 ((w64 (((p.or).length:Int)+((p.LE).length:Int)))+((p.Fd).length:Int)))
def zW(p:za):Option Int:=
 some ((p.or).length:Int)
def qD(p:za):Option Int:=
 some (w64 (((p.or).length:Int)+((p.LE).length:Int)))
def qq(p:List zp):Option (List zp):=
 (room (([]:List zp).length+p.length) 56).bind λa=>
 some (([]:List zp)++p)
def vp(p:zc):Option (List zp):=
 (qq p.Sr).bind λa=>
 some a
def vg(p:zc):Option Bool:=
 some p.Sv
def bZ(p:za)(a:Nat)(d:Unit->Option (Unit⊕Bool))(c:Unit):Option (Unit⊕Bool):=
 (idx p.LE (a:Int)).bind λb=>
 if (!b.Sv) then
  some (.inr false)
 else
  d ()
def cd(p:za)(g:Bool)(a:Nat)(f:Unit->Option (Unit⊕Bool))(e:Unit):Option (Unit⊕Bool):=
 (idx p.Fd (a:Int)).bind λb=>
 (if g then
  (vg b).bind λc=>
  some (!c)
 else
  some false).bind λd=>
 if d then
  some (.inr false)
 else
  f ()
def xF(p:za)(i:Bool):Option Bool:=
 ((room (p.LE).length 1).bind λc=>
 jM (bZ p) (λ(d:Unit)=>(.inl ())) (p.LE).length 0 ()).bind λa=>match a with
  |.inl e=>
   ((room (p.Fd).length 1).bind λf=>
   jM (cd p i) (λ(g:Unit)=>(.inl ())) (p.Fd).length 0 ()).bind λb=>match b with
    |.inl h=>
     some true
    |.inr r=>some r
  |.inr r=>some r
def qw(p:List zB)(f:za)(a:Nat)(e:Unit->Option (Unit⊕Int))(d:Unit):Option (Unit⊕Int):=
 (idx p (a:Int)).bind λb=>
 (xl b f).bind λc=>
 if c then
  some (.inr (a:Int))
 else
  e ()
def qg(p:List zB)(d:za):Option Int:=
 (jM (qw p d) (λ(b:Unit)=>(.inl ())) (p).length 0 ()).bind λa=>match a with
  |.inl c=>
   some (-1)
  |.inr r=>some r
def xg(p:za):Option Int:=
 (qg p.held p).bind λa=>
 some a
def aF(p:za):Option Bool:=
 (if p.Sk then
  (xF p true).bind λa=>
  if a then
   some (((p.held).length:Int)==0)
  else
   some false
 else
  some false).bind λb=>
 some b
def qX(p:za)(i:Int):Option Bool:=
 (zW p).bind λe=>
 if decide (i<e) then
  (idx p.or i).bind λa=>
  if a.waits then
   some (a.SB==0)
  else
   some (decide (a.SO<((a.SP).length:Int)))
 else
  (qD p).bind λf=>
  if decide (i<f) then
   (zW p).bind λg=>
   (idx p.LE (w64 (i-g))).bind λb=>
   (jN b.LT).bind λc=>
   if (c==0) then
    (if (!b.Sv) then
     if p.Sk then
      some true
     else
      (ve p).bind λh=>
      some h
    else
     some false).bind λj=>
    some j
   else
    if (c==3) then
     some b.Tw.isSome
    else
     some true
  else
   (qG p).bind λl=>
   if decide (i<l) then
    (qD p).bind λn=>
    (idx p.Fd (w64 (i-n))).bind λd=>
    ((vp d).bind λq=>
    if decide (((q).length:Int)>0) then
     some true
    else
     if p.Sk then
      (xF p false).bind λv=>
      if v then
       (vg d).bind λz=>
       some (!z)
      else
       some false
     else
      some false).bind λA=>
    some A
   else
    (if (!p.over) then
     if decide (((p.Sr).length:Int)>0) then
      some true
     else
      (xg p).bind λB=>
      if decide (B>=0) then
       some true
      else
       (aF p).bind λC=>
       some C
    else
     some false).bind λD=>
    some D
def fZ(p:List Bool)(b:Nat)(e:zo->Option zo)(a:zo):Option zo:=
 (idx p (b:Int)).bind λd=>
 (idx a.Sn (b:Int)).bind λc=>
 if (c.Su==2) then
  e a
 else
  if d then
   e (zo.mk (a.Sn.set (Int.toNat (b:Int)) (qr.mk 1 c.TN)) a.Si)
  else
   e (zo.mk (a.Sn.set (Int.toNat (b:Int)) (qr.mk 0 c.TN)) a.Si)
def et(p:zo)(c:List Bool):Option (Int×zo):=
 if (((c).length:Int) !=((p.Sn).length:Int)) then
  some (2,p)
 else
  (jM (fZ c) (λ(a:zo)=>a) (c).length 0 p).bind λb=>
  some (0,b)
def cZ(p:za)(a:Nat)(e:(List Bool)->Option (List Bool))(b:(List Bool)):Option (List Bool):=
 (qX p (a:Int)).bind λc=>
 (idx b (a:Int)).bind λd=>
 e (b.set (Int.toNat (a:Int)) c)
def vh(p:za):Option za:=
 (qG p).bind λb=>
 (mkLen (w64 (b+1)) 1).bind λa=>
 ((room a 1).bind λf=>
 jM (cZ p) (λ(c:(List Bool))=>c) a 0 (List.replicate a false)).bind λd=>
 (et p.SD d).bind λe=>
 some {p with SD:=e.2}
def gT(p:zo)(f:Int)(a:Nat)(e:(List Int)->Option (List Int))(b:(List Int)):Option (List Int):=
 (idx p.Sn (a:Int)).bind λc=>
 if (c.Su==f) then
  (room (b.length+([(a:Int)]).length) 8).bind λd=>
  e (b++[(a:Int)])
 else
  e b
def dV(p:zo)(c:Int):Option (List Int):=
 (jM (gT p c) (λ(a:(List Int))=>a) (p.Sn).length 0 ([]:List Int)).bind λb=>
 some b
def aG(p:zo):Option (List Int):=
 (dV p 1).bind λa=>
 some a
def vX(p:zo)(b:Int):Option (Int×Bool×zo):=
 (idx p.Sn b).bind λa=>
 some (b,true,(zo.mk (p.Sn.set (Int.toNat b) (qr.mk a.Su (w64 (p.Si+1)))) (w64 (p.Si+1))))
def dt(p:zo)(f:Int):Option (Int×Bool×zo):=
 (aG p).bind λa=>
 if (((a).length:Int)==0) then
  some (0,false,p)
 else
  (nz ((a).length:Int)).bind λe=>
  (if decide ((f.tmod ((a).length:Int))<0) then
   some (w64 ((f.tmod ((a).length:Int))+((a).length:Int)))
  else
   some (f.tmod ((a).length:Int))).bind λc=>
  (idx a c).bind λd=>
  (vX p d).bind λb=>
  some (b.1,b.2.1,b.2.2)
def fb(c:ze)(d:Nat)(f:(List zt)->Option ze)(a:(List zt)):Option ze:=
 (idx c.parts (d:Int)).bind λb=>
 (room (a.length+b.length) 16).bind λe=>
 f (a++b)
def jc(p:za)(f:Int):Option za:=
 (idx p.or f).bind λb=>
 (jM (fb b) (λ(c:(List zt))=>{b with Id:=(zC.mk b.Id.E b.Id.N b.Id.Tj c)}) (b.parts).length 0 b.Id.Pairs).bind λa=>
 (room (p.SH.length+([(zd.mk 2 f 0 a.SO 0 0 0 0 0 0 (zg.mk 0 0 0 0) (zk.mk 0 false 0 false 0 0) (xW a.Id.N) a.Id.E)]).length) 176).bind λd=>
 (room (a.SE.length+([a.Id]).length) 64).bind λe=>
 some {p with or:=(p.or.set (Int.toNat f) (ze.mk a.SP (w64 (a.SO+1)) false a.SB (zC.mk 0 0 ([]:List zk) ([]:List zt)) ([]:List (List zt)) (a.SE++[a.Id]))),SH:=(p.SH++[(zd.mk 2 f 0 a.SO 0 0 0 0 0 0 (zg.mk 0 0 0 0) (zk.mk 0 false 0 false 0 0) (xW a.Id.N) a.Id.E)])}
def qB(p:List zg)(f:za)(a:Nat)(e:Unit->Option (Unit⊕Int))(d:Unit):Option (Unit⊕Int):=
 (idx p (a:Int)).bind λb=>
 (cF b f).bind λc=>
 if c then
  some (.inr (a:Int))
 else
  e ()
def ql(p:List zg)(d:za):Option Int:=
 (jM (qB p d) (λ(b:Unit)=>(.inl ())) (p).length 0 ()).bind λa=>match a with
  |.inl c=>
   some (-1)
  |.inr r=>some r
def qf(p:List zg)(b:za):Option Bool:=
 (ql p b).bind λa=>
 some (decide (a>=0))
def xC(p:za)(b:List zg):Option Bool:=
 (qf b p).bind λa=>
 some a
def av(b:Int)(p:Int):Option Int:=
 if decide (p<1) then
  some 0
 else
  (nz (xW p)).bind λa=>
  some (w64 ((iN .u64 (xW (b*11400714819323198485)) 32).tmod (xW p)))
def xN(c:zc)(p:zp):Option Bool:=
 if (decide (p.Item.Tc<0)||decide (p.Item.Tc>=((c.maps).length:Int))) then
  some false
 else
  (if p.TQ then
   some true
  else
   if decide (p.Item.Op>=0) then
    if decide (p.Item.Op<5) then
     (av p.Item.Ts c.Tt).bind λa=>
     some (a==c.TP)
    else
     some false
   else
    some false).bind λb=>
  some b
def gU(p:zc)(f:List zp)(a:Nat)(e:Unit->Option (Unit⊕(Int×zc)))(d:Unit):Option (Unit⊕(Int×zc)):=
 (idx f (a:Int)).bind λb=>
 (xN p b).bind λc=>
 if (!c) then
  some (.inr (2,p))
 else
  e ()
def jI(p:zc)(e:List zp):Option (Int×zc):=
 if p.Sv then
  some (43,p)
 else
  (jM (gU p e) (λ(b:Unit)=>(.inl ())) (e).length 0 ()).bind λa=>match a with
   |.inl c=>
    (room (p.Sr.length+e.length) 56).bind λd=>
    some (0,{p with Sr:=(p.Sr++e)})
   |.inr r=>some r
def aH(p:zJ):Option (Int×zJ):=
 some (w64 (p.last+1),(zJ.mk (w64 (p.last+1))))
def xi(p:zr)(c:qt)(g:zJ):Option (Int×Int×zr×zJ):=
 if p.TK then
  some (0,43,p,g)
 else
  if (((p.waiting).length:Int)==p.room) then
   some (0,40,{p with Sj:=(zT.mk p.Sj.SZ (w64 (p.Sj.TB+1)) p.Sj.TC p.Sj.Tf p.Sj.Tx)},g)
  else
   (aH g).bind λa=>
   (room (p.waiting.length+([(zZ.mk a.1 c)]).length) 24).bind λb=>
   some (a.1,0,(zr.mk p.room p.TK (p.waiting++[(zZ.mk a.1 c)]) (zT.mk (w64 (p.Sj.SZ+1)) p.Sj.TB p.Sj.TC p.Sj.Tf p.Sj.Tx)),a.2)
def dL(p:Int)(e:zO)(b:Nat)(h:(List zc)->Option (List zc))(a:(List zc)):Option (List zc):=
 (idx ([e.Item]) (b:Int)).bind λc=>
 (av c.Ts ((a).length:Int)).bind λd=>
 (idx a d).bind λf=>
 (jI f ([(zp.mk p (b:Int) false c)])).bind λg=>
 h (a.set (Int.toNat d) g.2)
def gV(p:Int)(e:zO)(b:Nat)(h:(List zc)->Option (List zc))(a:(List zc)):Option (List zc):=
 (idx e.SV (b:Int)).bind λc=>
 (av c.Ts ((a).length:Int)).bind λd=>
 (idx a d).bind λf=>
 (jI f ([(zp.mk p (b:Int) false c)])).bind λg=>
 h (a.set (Int.toNat d) g.2)
def dM(p:Int)(c:zO)(a:Nat)(f:(List zc)->Option (List zc))(b:(List zc)):Option (List zc):=
 (idx b (a:Int)).bind λd=>
 (jI d ([(zp.mk p (a:Int) true (zg.mk c.Tc 0 0 0))])).bind λe=>
 f (b.set (Int.toNat (a:Int)) e.2)
def xO(p:za)(i:Int):Option za:=
 (idx p.or i).bind λa=>
 if a.waits then
  (jc p i).bind λe=>
  some e
 else
  (room (p.SH.length+([(zd.mk 1 i 0 a.SO 0 0 0 0 0 0 (zg.mk 0 0 0 0) (zk.mk 0 false 0 false 0 0) 0 0)]).length) 176).bind λR=>
  (idx a.SP a.SO).bind λb=>
  if p.Sk then
   (jc {p with or:=(p.or.set (Int.toNat i) {a with Id:=(zC.mk 43 a.Id.N a.Id.Tj a.Id.Pairs)}),SH:=(p.SH++[(zd.mk 1 i 0 a.SO 0 0 0 0 0 0 (zg.mk 0 0 0 0) (zk.mk 0 false 0 false 0 0) 0 0)])} i).bind λf=>
   some f
  else
   (((if (b.Sm==0) then
    some (b.Sm==0)
   else
    some (b.Sm==1)).bind λg=>
   if g then
    if (b.Sm==0) then
     (xC {p with SH:=(p.SH++[(zd.mk 1 i 0 a.SO 0 0 0 0 0 0 (zg.mk 0 0 0 0) (zk.mk 0 false 0 false 0 0) 0 0)])} ([b.Item])).bind λh=>
     if h then
      (jc {p with or:=(p.or.set (Int.toNat i) {a with Id:=(zC.mk 2 a.Id.N a.Id.Tj a.Id.Pairs)}),SH:=(p.SH++[(zd.mk 1 i 0 a.SO 0 0 0 0 0 0 (zg.mk 0 0 0 0) (zk.mk 0 false 0 false 0 0) 0 0)])} i).bind λj=>
      some (.inr j)
     else
      (mkLen 1 48).bind λl=>
      (jM (dL i b) (λ(n:(List zc))=>n) 1 0 p.Fd).bind λq=>
      some (.inl ({a with SB:=1,Id:=(zC.mk a.Id.E a.Id.N (List.replicate l (zk.mk 0 false 0 false 0 0)) a.Id.Pairs)},q,p.Sr))
    else
     (if decide (((b.SV).length:Int)<1) then
      some true
     else
      if decide (((b.SV).length:Int)>16) then
       some true
      else
       (xC {p with SH:=(p.SH++[(zd.mk 1 i 0 a.SO 0 0 0 0 0 0 (zg.mk 0 0 0 0) (zk.mk 0 false 0 false 0 0) 0 0)])} b.SV).bind λv=>
       some v).bind λz=>
     if z then
      (jc {p with or:=(p.or.set (Int.toNat i) {a with Id:=(zC.mk 2 a.Id.N a.Id.Tj a.Id.Pairs)}),SH:=(p.SH++[(zd.mk 1 i 0 a.SO 0 0 0 0 0 0 (zg.mk 0 0 0 0) (zk.mk 0 false 0 false 0 0) 0 0)])} i).bind λA=>
      some (.inr A)
     else
      (mkLen ((b.SV).length:Int) 48).bind λB=>
      ((room (b.SV).length 1).bind λS=>
      jM (gV i b) (λ(C:(List zc))=>C) (b.SV).length 0 p.Fd).bind λD=>
      some (.inl ({a with SB:=((b.SV).length:Int),Id:=(zC.mk a.Id.E a.Id.N (List.replicate B (zk.mk 0 false 0 false 0 0)) a.Id.Pairs)},D,p.Sr))
   else
    if (b.Sm==2) then
     if (decide (b.Tc<0)||decide (b.Tc>=((p.SI.Maps).length:Int))) then
      (jc {p with or:=(p.or.set (Int.toNat i) {a with Id:=(zC.mk 2 a.Id.N a.Id.Tj a.Id.Pairs)}),SH:=(p.SH++[(zd.mk 1 i 0 a.SO 0 0 0 0 0 0 (zg.mk 0 0 0 0) (zk.mk 0 false 0 false 0 0) 0 0)])} i).bind λF=>
      some (.inr F)
     else
      (mkLen ((p.Fd).length:Int) 24).bind λG=>
      (jM (dM i b) (λ(H:(List zc))=>H) (p.Fd).length 0 p.Fd).bind λI=>
      some (.inl ({a with SB:=((p.Fd).length:Int),parts:=(List.replicate G [])},I,p.Sr))
    else
     if (b.Sm==3) then
      if (decide (b.SS<0)||decide (b.SS>=((p.rings).length:Int))) then
       (jc {p with or:=(p.or.set (Int.toNat i) {a with Id:=(zC.mk 2 a.Id.N a.Id.Tj a.Id.Pairs)}),SH:=(p.SH++[(zd.mk 1 i 0 a.SO 0 0 0 0 0 0 (zg.mk 0 0 0 0) (zk.mk 0 false 0 false 0 0) 0 0)])} i).bind λJ=>
       some (.inr J)
      else
       (idx p.rings b.SS).bind λK=>
       (xi K b.SK p.Ti).bind λc=>
       if (c.2.1==0) then
        (room ((p.SH++[(zd.mk 1 i 0 a.SO 0 0 0 0 0 0 (zg.mk 0 0 0 0) (zk.mk 0 false 0 false 0 0) 0 0)]).length+([(zd.mk 4 i 0 a.SO 0 c.1 b.SS 0 0 0 (zg.mk 0 0 0 0) (zk.mk 0 false 0 false 0 0) 0 0)]).length) 176).bind λT=>
        if ((c.2.1 !=0)||(!a.waits)) then
         (jc {p with or:=(p.or.set (Int.toNat i) {a with Id:=(zC.mk c.2.1 c.1 a.Id.Tj a.Id.Pairs)}),rings:=(p.rings.set (Int.toNat b.SS) c.2.2.1),SH:=((p.SH++[(zd.mk 1 i 0 a.SO 0 0 0 0 0 0 (zg.mk 0 0 0 0) (zk.mk 0 false 0 false 0 0) 0 0)])++[(zd.mk 4 i 0 a.SO 0 c.1 b.SS 0 0 0 (zg.mk 0 0 0 0) (zk.mk 0 false 0 false 0 0) 0 0)]),Ti:=c.2.2.2} i).bind λL=>
         some (.inr L)
        else
         some (.inr {p with or:=(p.or.set (Int.toNat i) {a with Id:=(zC.mk c.2.1 c.1 a.Id.Tj a.Id.Pairs)}),rings:=(p.rings.set (Int.toNat b.SS) c.2.2.1),SH:=((p.SH++[(zd.mk 1 i 0 a.SO 0 0 0 0 0 0 (zg.mk 0 0 0 0) (zk.mk 0 false 0 false 0 0) 0 0)])++[(zd.mk 4 i 0 a.SO 0 c.1 b.SS 0 0 0 (zg.mk 0 0 0 0) (zk.mk 0 false 0 false 0 0) 0 0)]),Ti:=c.2.2.2})
       else
        if ((c.2.1 !=0)||(!a.waits)) then
         (jc {p with or:=(p.or.set (Int.toNat i) {a with Id:=(zC.mk c.2.1 a.Id.N a.Id.Tj a.Id.Pairs)}),rings:=(p.rings.set (Int.toNat b.SS) c.2.2.1),SH:=(p.SH++[(zd.mk 1 i 0 a.SO 0 0 0 0 0 0 (zg.mk 0 0 0 0) (zk.mk 0 false 0 false 0 0) 0 0)]),Ti:=c.2.2.2} i).bind λM=>
         some (.inr M)
        else
         some (.inr {p with or:=(p.or.set (Int.toNat i) {a with Id:=(zC.mk c.2.1 a.Id.N a.Id.Tj a.Id.Pairs)}),rings:=(p.rings.set (Int.toNat b.SS) c.2.2.1),SH:=(p.SH++[(zd.mk 1 i 0 a.SO 0 0 0 0 0 0 (zg.mk 0 0 0 0) (zk.mk 0 false 0 false 0 0) 0 0)]),Ti:=c.2.2.2})
     else
      (if (b.Sm==4) then
       some (b.Sm==4)
      else
       if (b.Sm==5) then
        some (b.Sm==5)
       else
        if (b.Sm==6) then
         some (b.Sm==6)
        else
         if (b.Sm==7) then
          some (b.Sm==7)
         else
          if (b.Sm==8) then
           some (b.Sm==8)
          else
           if (b.Sm==9) then
            some (b.Sm==9)
           else
            some (b.Sm==10)).bind λO=>
      if O then
       (room (p.Sr.length+([(zB.mk i b 0)]).length) 144).bind λU=>
       some (.inl ({a with SB:=1},p.Fd,(p.Sr++[(zB.mk i b 0)])))
      else
       (jc {p with or:=(p.or.set (Int.toNat i) {a with Id:=(zC.mk 2 a.Id.N a.Id.Tj a.Id.Pairs)}),SH:=(p.SH++[(zd.mk 1 i 0 a.SO 0 0 0 0 0 0 (zg.mk 0 0 0 0) (zk.mk 0 false 0 false 0 0) 0 0)])} i).bind λP=>
       some (.inr P)):Option ((ze×(List zc)×(List zB))⊕za)).bind λQ=>match Q with
    |.inl d=>
     some {p with or:=(p.or.set (Int.toNat i) (ze.mk d.1.SP d.1.SO true d.1.SB (zC.mk 0 d.1.Id.N d.1.Id.Tj d.1.Id.Pairs) d.1.parts d.1.SE)),Fd:=d.2.1,Sr:=d.2.2,SH:=(p.SH++[(zd.mk 1 i 0 a.SO 0 0 0 0 0 0 (zg.mk 0 0 0 0) (zk.mk 0 false 0 false 0 0) 0 0)])}
    |.inr r=>some r
def xo(p:zl):Option (Int×zZ):=
 some (p.SX.hook,p.SX.Te)
def kr(p:zo)(e:List Int)(b:Nat)(d:Unit->Option (Unit⊕(Int×zo)))(c:Unit):Option (Unit⊕(Int×zo)):=
 (idx e (b:Int)).bind λa=>
 if (decide (a<0)||decide (a>=((p.Sn).length:Int))) then
  some (.inr (2,p))
 else
  d ()
def kt(p:zo)(f:List Int)(a:Nat)(e:Unit->Option (Unit⊕(Int×zo)))(d:Unit):Option (Unit⊕(Int×zo)):=
 (idx f (a:Int)).bind λb=>
 (idx p.Sn b).bind λc=>
 if (c.Su==2) then
  some (.inr (43,p))
 else
  e ()
def ku(p:Int)(f:List Int)(c:Nat)(e:zo->Option zo)(a:zo):Option zo:=
 (idx f (c:Int)).bind λb=>
 (idx a.Sn b).bind λd=>
 e (zo.mk (a.Sn.set (Int.toNat b) (qr.mk p d.TN)) a.Si)
def fB(i:zo)(j:Int)(p:List Int):Option (Int×zo):=
 (jM (kr i p) (λ(e:Unit)=>(.inl ())) (p).length 0 ()).bind λa=>match a with
  |.inl f=>
   (jM (kt i p) (λ(g:Unit)=>(.inl ())) (p).length 0 ()).bind λb=>match b with
    |.inl h=>
     (jM (ku j p) (λ(c:zo)=>c) (p).length 0 i).bind λd=>
     some (0,d)
    |.inr r=>some r
  |.inr r=>some r
def bm(p:zo)(b:List Int):Option (Int×zo):=
 (fB p 2 b).bind λa=>
 some (a.1,a.2)
def va(p:zr)(g:zJ):Option (zZ×Bool×zr):=
 if (((p.waiting).length:Int)==0) then
  some ((zZ.mk 0 (qt.mk 0 0)),false,p)
 else
  (idx p.waiting 0).bind λa=>
  (cut p.waiting 1 (p.waiting.length:Int)).bind λb=>
  some (a,true,(zr.mk p.room p.TK b (zT.mk p.Sj.SZ p.Sj.TB (w64 (p.Sj.TC+1)) p.Sj.Tf p.Sj.Tx)))
def vM(p:zl)(a:Int)(b:zZ):Option (Int×zl):=
 if (decide (a<0)||decide (a>=4)) then
  some (2,p)
 else
  if (p.Su !=0) then
   some (42,p)
  else
   some (0,{p with Su:=1,SX:=(bI.mk a b 0 0 0 none)})
def jg(a:zx)(p:Int):Option Bool:=
 some (decide (p>=0)&&decide (p<((a.Sz).length:Int)))
def jh(p:zx)(b:Int):Option Bool:=
 (idx p.Sz b).bind λa=>
 some (decide (a.SL>0))
def jn(p:zx)(e:Int):Option (Int×Int×Bool):=
 ((jg p e).bind λb=>
 if (!b) then
  some true
 else
  (jh p e).bind λc=>
  some (!c)).bind λd=>
 if d then
  some (0,0,false)
 else
  (idx p.Sz e).bind λa=>
  some (a.SL,a.prog,true)
def fc(p:Int):Option Bool:=
 some (decide (p>=0)&&decide (p<4))
def vN(p:zR)(f:List Int)(a:Nat)(e:Unit->Option (Unit⊕(Int×zR)))(d:Unit):Option (Unit⊕(Int×zR)):=
 (idx f (a:Int)).bind λb=>
 (fc b).bind λc=>
 if (!c) then
  some (.inr (2,p))
 else
  e ()
def vO(p:List Int)(c:Nat)(e:zR->Option zR)(a:zR):Option zR:=
 (idx p (c:Int)).bind λd=>
 (ain 4 d).bind λb=>
 e (zR.mk (aset a.Sz b (zM.mk (a.Sz b).Up (xW ((a.Sz b).TL+1)) (a.Sz b).TZ (a.Sz b).Calls (a.Sz b).Sum)))
def vP(f:zR)(p:List Int):Option (Int×zR):=
 (jM (vN f p) (λ(d:Unit)=>(.inl ())) (p).length 0 ()).bind λa=>match a with
  |.inl e=>
   (jM (vO p) (λ(b:zR)=>b) (p).length 0 f).bind λc=>
   some (0,c)
  |.inr r=>some r
def bQ(p:zl):Option zl:=
 some {p with Su:=0,SX:=(bI.mk 0 (zZ.mk 0 (qt.mk 0 0)) 0 0 0 none)}
def xG(p:zl):Option (Int×zl):=
 if (p.Su !=1) then
  some (41,p)
 else
  (vP p.Tz ([p.SX.hook])).bind λa=>
  (bQ {p with Tz:=a.2}).bind λb=>
  some (0,b)
def je(p:List Int):Option (List Int):=
 (room (([]:List Int).length+p.length) 8).bind λa=>
 some (([]:List Int)++p)
def zS(p:List zf):Option (List zf):=
 (room (([]:List zf).length+p.length) 40).bind λa=>
 some (([]:List zf)++p)
def qR(p:zb)(d:Int):Option (zD×Bool):=
 if (!(jA p.SG d).isSome) then
  some ((zD.mk ([]:List Int) ([]:List zf)),false)
 else
  (jA p.SG d).bind λa=>
  (je a.module.Maps).bind λb=>
  (zS a.module.Code).bind λc=>
  some ((zD.mk b c),true)
def vi(a:zE)(p:Int):Option Bool:=
 some (decide (p>=0)&&decide (p<((a.in_).length:Int)))
def vj(p:zE)(c:Int):Option (Int×Int×zE):=
 (vi p c).bind λa=>
 if (!a) then
  some (0,2,p)
 else
  (idx p.in_ c).bind λb=>
  if (b !=0) then
   some (0,42,p)
  else
   some (p.TR,0,(zE.mk p.TR (p.in_.set (Int.toNat c) p.TR)))
def oO(p:List Int)(b:Nat)(g:Unit->Option (Unit⊕Bool))(f:Unit):Option (Unit⊕Bool):=
 (idx p (b:Int)).bind λa=>
 (if decide (a<0) then
  some true
 else
  if decide (a>=4) then
   some true
  else
   (cut p 0 (b:Int)).bind λc=>
   (qa c a).bind λd=>
   some d).bind λe=>
 if e then
  some (.inr false)
 else
  g ()
def kx(p:List Int):Option Bool:=
 (jM (oO p) (λ(b:Unit)=>(.inl ())) (p).length 0 ()).bind λa=>match a with
  |.inl c=>
   some (decide (((p).length:Int)<=4))
  |.inr r=>some r
def eX(p:Int):Option (jd×Bool):=
 if (decide (p<0)||decide (p>=23)) then
  some ((jd.mk ByteArray.empty ByteArray.empty),false)
 else
  (idx xS p).bind λa=>
  some (a,true)
def dW(p:Int):Option Bool:=
 some (decide (p>=0)&&decide (p<8))
def cG(p:Int)(a:Int)(b:Int):Option Bool:=
 some (decide (p>=a)&&decide (p<=b))
def iG(p:zf)(c:jd×Bool)(d:Nat)(i:(Bool×zf)->Option (Bool×zf))(a:Bool×zf):Option (Bool×zf):=
 (uJ c.1.Tq (d:Int)).bind λb=>
 if (b==100) then
  if a.1 then
   (dW p.D).bind λe=>
   i (e,(zf.mk a.2.Op 0 a.2.A a.2.B a.2.Tm))
  else
   i (false,(zf.mk a.2.Op 0 a.2.A a.2.B a.2.Tm))
 else
  if (b==97) then
   if a.1 then
    (dW p.A).bind λf=>
    i (f,(zf.mk a.2.Op a.2.D 0 a.2.B a.2.Tm))
   else
    i (false,(zf.mk a.2.Op a.2.D 0 a.2.B a.2.Tm))
  else
   if (b==115) then
    if (p.B==8) then
     i (a.1,(zf.mk a.2.Op a.2.D a.2.A 0 0))
    else
     if a.1 then
      (dW p.B).bind λg=>
      i (g,(zf.mk a.2.Op a.2.D a.2.A 0 a.2.Tm))
     else
      i (false,(zf.mk a.2.Op a.2.D a.2.A 0 a.2.Tm))
   else
    if (b==102) then
     if a.1 then
      (cG p.Tm 0 1).bind λh=>
      i (h,(zf.mk a.2.Op a.2.D a.2.A a.2.B 0))
     else
      i (false,(zf.mk a.2.Op a.2.D a.2.A a.2.B 0))
    else
     if (b==109) then
      if a.1 then
       (cG p.Tm 0 3).bind λj=>
       i (j,(zf.mk a.2.Op a.2.D a.2.A a.2.B 0))
      else
       i (false,(zf.mk a.2.Op a.2.D a.2.A a.2.B 0))
     else
      if (b==104) then
       if a.1 then
        (cG p.Tm 0 6).bind λl=>
        i (l,(zf.mk a.2.Op a.2.D a.2.A a.2.B 0))
       else
        i (false,(zf.mk a.2.Op a.2.D a.2.A a.2.B 0))
      else
       if (b==110) then
        if a.1 then
         (cG p.Tm 1 255).bind λn=>
         i (n,(zf.mk a.2.Op a.2.D a.2.A a.2.B 0))
        else
         i (false,(zf.mk a.2.Op a.2.D a.2.A a.2.B 0))
       else
        if (b==106) then
         if a.1 then
          (cG p.D 0 63).bind λq=>
          i (q,(zf.mk a.2.Op 0 a.2.A a.2.B a.2.Tm))
         else
          i (false,(zf.mk a.2.Op 0 a.2.A a.2.B a.2.Tm))
        else
         if (b==98) then
          if a.1 then
           (cG p.D 1 63).bind λv=>
           i (v,(zf.mk a.2.Op 0 a.2.A a.2.B a.2.Tm))
          else
           i (false,(zf.mk a.2.Op 0 a.2.A a.2.B a.2.Tm))
         else
          i (a.1,a.2)
def vQ(p:zf):Option Bool:=
 (eX p.Op).bind λb=>
 if (!b.2) then
  some false
 else
  ((room b.1.Tq.size 1).bind λe=>
  jM (iG p b) (λ(c:Bool×zf)=>(c.1,c.2)) b.1.Tq.size 0 (b.2,{p with Op:=0})).bind λa=>
  (if a.1 then
   some ((a.2.Op==0)&&((a.2.D==0)&&((a.2.A==0)&&((a.2.B==0)&&((a.2.Tm==0)&&true)))))
  else
   some false).bind λd=>
  some d
def rX(p:jd)(e:Int)(a:Nat)(d:Unit->Option (Unit⊕Bool))(c:Unit):Option (Unit⊕Bool):=
 (uJ p.Tq (a:Int)).bind λb=>
 if (b==e) then
  some (.inr true)
 else
  d ()
def jw(p:jd)(e:Int):Option Bool:=
 ((room p.Tq.size 1).bind λb=>
 jM (rX p e) (λ(c:Unit)=>(.inl ())) p.Tq.size 0 ()).bind λa=>match a with
  |.inl d=>
   some false
  |.inr r=>some r
def lj(p:zf):Option (Int×Bool×Bool):=
 (vQ p).bind λb=>
 if (!b) then
  some (0,false,false)
 else
  (eX p.Op).bind λa=>
  (jw a.1 106).bind λc=>
  if c then
   some (w64 (p.D+1),true,(p.Op !=15))
  else
   (jw a.1 98).bind λd=>
   if d then
    some (w64 (0-p.D),true,true)
   else
    some (0,false,(p.Op !=22))
def mi(p:List zf)(a:Nat)(e:Unit->Option (Unit⊕Bool))(d:Unit):Option (Unit⊕Bool):=
 (idx p (a:Int)).bind λb=>
 (vQ b).bind λc=>
 if (!c) then
  some (.inr false)
 else
  e ()
def fK(p:List zf):Option Bool:=
 (jM (mi p) (λ(b:Unit)=>(.inl ())) (p).length 0 ()).bind λa=>match a with
  |.inl c=>
   some true
  |.inr r=>some r
abbrev yD:=Unit⊕(Int×Int)
def nG(p:List zf)(a:Nat)(f:Unit->Option yD)(e:Unit):Option yD:=
 (idx p (a:Int)).bind λc=>
 (lj c).bind λb=>
 (fK ([c])).bind λd=>
 if (!d) then
  some (.inr ((a:Int),12))
 else
  if (b.2.1&&(decide ((w64 ((a:Int)+b.1))<0)||decide ((w64 ((a:Int)+b.1))>=((p).length:Int)))) then
   some (.inr ((a:Int),30))
  else
   if (b.2.2&&((a:Int)==(w64 (((p).length:Int)-1)))) then
    some (.inr ((a:Int),36))
   else
    f ()
def gW(p:List zf):Option (Int×Int):=
 (jM (nG p) (λ(b:Unit)=>(.inl ())) (p).length 0 ()).bind λa=>match a with
  |.inl c=>
   some (0,0)
  |.inr r=>some r
def oP(p:List zf)(a:Nat)(e:(List qy)->Option (List qy))(c:(List qy)):Option (List qy):=
 (idx p (a:Int)).bind λb=>
 if (b.Op==20) then
  (room (c.length+([(qy.mk (w64 ((a:Int)-b.D)) (a:Int) b.Tm)]).length) 24).bind λd=>
  e (c++[(qy.mk (w64 ((a:Int)-b.D)) (a:Int) b.Tm)])
 else
  e c
def fd(p:List zf):Option (List qy):=
 (jM (oP p) (λ(a:(List qy))=>a) (p).length 0 ([]:List qy)).bind λb=>
 some b
def ob(p:qy)(a:Int):Option Bool:=
 some (decide (a>=p.TH)&&decide (a<=p.At))
def iR(a:qy)(c:List qy)(d:Nat)(f:Unit->Option yD)(e:Unit):Option yD:=
 (idx c (d:Int)).bind λb=>
 if (decide (b.At>=a.TH)&&decide (b.TH<a.TH)) then
  some (.inr (a.At,31))
 else
  f ()
def fC(a:(List qy))(b:Nat)(i:Unit->Option yD)(f:Unit):Option yD:=
 (idx a (b:Int)).bind λd=>
 (cut a 0 (b:Int)).bind λc=>
 (jM (iR d c) (λ(g:Unit)=>(.inl ())) (c).length 0 ()).bind λe=>match e with
  |.inl h=>
   i ()
  |.inr r=>some (.inr r)
def iS(d:(List qy))(a:Nat)(b:Int×Bool×Bool)(e:Nat)(i:Unit->Option yD)(j:Unit):Option yD:=
 (idx d (e:Int)).bind λc=>
 (if b.2.1 then
  if decide (b.1>0) then
   (ob c (a:Int)).bind λf=>
   if (!f) then
    (ob c (w64 ((a:Int)+b.1))).bind λg=>
    if g then
     some ((w64 ((a:Int)+b.1)) !=c.TH)
    else
     some false
   else
    some false
  else
   some false
 else
  some false).bind λh=>
 if h then
  some (.inr ((a:Int),31))
 else
  i ()
def iT(p:List zf)(a:(List qy))(b:Nat)(i:Unit->Option yD)(f:Unit):Option yD:=
 (idx p (b:Int)).bind λc=>
 (lj c).bind λd=>
 (jM (iS a b d) (λ(g:Unit)=>(.inl ())) (a).length 0 ()).bind λe=>match e with
  |.inl h=>
   i ()
  |.inr r=>some (.inr r)
def gX(p:List zf):Option (Int×Int):=
 (fd p).bind λa=>
 (jM (fC a) (λ(d:Unit)=>(.inl ())) (a).length 0 ()).bind λb=>match b with
  |.inl e=>
   (jM (iT p a) (λ(f:Unit)=>(.inl ())) (p).length 0 ()).bind λc=>match c with
    |.inl g=>
     some (0,0)
    |.inr r=>some r
  |.inr r=>some r
def mj(c:(List qy))(d:Nat)(e:Nat)(g:Int->Option Int)(a:Int):Option Int:=
 (idx c (e:Int)).bind λb=>
 (ob b (d:Int)).bind λf=>
 if f then
  g (nu (w64 (a*(w64 (b.TY+1)))) 257)
 else
  g a
def rN(a:(List qy))(b:Nat)(f:Int->Option Int)(c:Int):Option Int:=
 (jM (mj a b) (λ(d:Int)=>d) (a).length 0 1).bind λe=>
 f (nu (w64 (c+e)) 257)
def ml(p:List zf):Option Int:=
 (fd p).bind λa=>
 (jM (rN a) (λ(b:Int)=>b) (p).length 0 0).bind λc=>
 some c
def fe(p:List zf):Option (Int×Int):=
 if (((p).length:Int)==0) then
  some (0,10)
 else
  if decide (((p).length:Int)>64) then
   some (0,11)
  else
   (gW p).bind λa=>
   if (a.2 !=0) then
    some (a.1,a.2)
   else
    (gX p).bind λb=>
    if (b.2 !=0) then
     some (b.1,b.2)
    else
     (ml p).bind λc=>
     if decide (c>256) then
      some (0,32)
     else
      some (0,0)
def ky(p:List zf):Option ((List qy)×Int):=
 (fe p).bind λa=>
 if (a.2 !=0) then
  some (([]:List qy),a.2)
 else
  (fd p).bind λb=>
  some (b,0)
def cH(p:zf):Option (Int×Bool):=
 (vQ p).bind λa=>
 if (!a) then
  some (0,false)
 else
  (eX p.Op).bind λb=>
  (jw b.1 100).bind λc=>
  if c then
   some (p.D,true)
  else
   some (0,(p.Op==21))
def cg :Option zh:=
 some (zh.mk 0 18446744073709551615)
def vc(p:zh):Option zi:=
 some (zi.mk 1 p 0)
def db(p:Int)(e:List zf)(f:Nat)(i:(List (Nat->zi))->Option (List (Nat->zi)))(a:(List (Nat->zi))):Option (List (Nat->zi)):=
 (idx e (f:Int)).bind λg=>
 (cH g).bind λd=>
 if (!d.2) then
  i a
 else
  (idx a p).bind λb=>
  (ain 8 d.1).bind λc=>
  if ((b c).Sm==1) then
   cg.bind λh=>
   (vc h).bind λj=>
   i (a.set (Int.toNat p) (aset b c j))
  else
   i (a.set (Int.toNat p) (aset b c (zi.mk 0 (zh.mk 0 0) 0)))
def dc(p:zj)(h:Int)(d:Nat)(g:(List (Nat->zi))->Option zj)(b:(List (Nat->zi))):Option zj:=
 (idx p.loops (d:Int)).bind λa=>
 if (a.TH !=h) then
  g b
 else
  (cut p.SM.Code a.TH (w64 (a.At+1))).bind λc=>
  (jM (db h c) (λ(e:(List (Nat->zi)))=>e) (c).length 0 b).bind λf=>
  g f
def xp(p:zj)(c:Int):Option zj:=
 (jM (dc p c) (λ(a:(List (Nat->zi)))=>{p with SY:=a}) (p.loops).length 0 p.SY).bind λb=>
 some b
def kz(p:zf):Option Bool:=
 (eX p.Op).bind λa=>
 ((vQ p).bind λb=>
 if b then
  (jw a.1 115).bind λc=>
  some c
 else
  some false).bind λd=>
 some d
def lu(p:Int):Option zh:=
 some (zh.mk p p)
def dX(p:zf)(d:Nat->zi):Option zi:=
 if (p.B==8) then
  (lu (xW p.Tm)).bind λa=>
  (vc a).bind λb=>
  some b
 else
  (ain 8 p.B).bind λc=>
  some (d c)
def lw(p:List zi)(a:Nat)(d:Unit->Option (Unit⊕Int))(c:Unit):Option (Unit⊕Int):=
 (idx p (a:Int)).bind λb=>
 if (b.Sm !=1) then
  some (.inr 33)
 else
  d ()
def vG(p:List zi):Option Int:=
 (jM (lw p) (λ(b:Unit)=>(.inl ())) (p).length 0 ()).bind λa=>match a with
  |.inl c=>
   some 0
  |.inr r=>some r
def vH(p:zh):Option Bool:=
 some (decide (p.Lo<=p.Hi))
def dN(p:zh)(c:zh):Option Bool:=
 ((vH p).bind λa=>
 if a then
  if decide (c.Lo<=p.Lo) then
   some (decide (p.Hi<=c.Hi))
  else
   some false
 else
  some false).bind λb=>
 some b
def gE(p:zi):Option Int:=
 (dN p.SN (zh.mk 0 15)).bind λa=>
 if (!a) then
  some 35
 else
  some 0
def nJ(p:List Int)(b:Nat)(d:Unit->Option (Unit⊕Int))(c:Unit):Option (Unit⊕Int):=
 (idx p (b:Int)).bind λa=>
 if (a !=0) then
  some (.inr a)
 else
  d ()
def fg(p:List Int):Option Int:=
 (jM (nJ p) (λ(b:Unit)=>(.inl ())) (p).length 0 ()).bind λa=>match a with
  |.inl c=>
   some 0
  |.inr r=>some r
def kA(c:zi)(p:zi):Option Bool:=
 if (p.Sm==1) then
  (if (c.Sm==1) then
   (dN c.SN p.SN).bind λa=>
   some a
  else
   some false).bind λb=>
  some b
 else
  if (p.Sm==2) then
   some ((c.Sm==p.Sm)&&(((c.SN.Lo==p.SN.Lo)&&((c.SN.Hi==p.SN.Hi)&&true))&&((c.Tc==p.Tc)&&true)))
  else
   some true
def dd(p:Int):Option (bO×Bool):=
 if (decide (p<0)||decide (p>=7)) then
  some ((bO.mk ByteArray.empty ByteArray.empty 0 0 false),false)
 else
  (idx aE p).bind λa=>
  some (a,true)
def gY(p:Int):Option zi:=
 some (zi.mk 1 (zh.mk 0 p) 0)
def BF(b:bO×Bool)(h:((List zi)×Nat)->Option (List zi))(a:(List zi)×Nat):Option (List zi):=
 if decide (a.2<b.1.Un.size) then
  if ((Bu b.1.Un a.2)==104) then
   (room (a.1.length+([(zi.mk 2 (zh.mk 0 0) 0)]).length) 32).bind λe=>
   h ((a.1++[(zi.mk 2 (zh.mk 0 0) 0)]),(nU b.1.Un a.2))
  else
   if ((Bu b.1.Un a.2)==115) then
    (gY 15).bind λc=>
    (room (a.1.length+([c]).length) 32).bind λf=>
    h ((a.1++[c]),(nU b.1.Un a.2))
   else
    (gY 18446744073709551615).bind λd=>
    (room (a.1.length+([d]).length) 32).bind λg=>
    h ((a.1++[d]),(nU b.1.Un a.2))
 else
  some a.1
def xT(f:Nat)(p:Int):Option (List zi):=
 (dd p).bind λa=>
 (loop (BF a) f (([]:List zi),0)).bind λb=>
 some b
def lx(p:List zi)(d:(List zi))(b:Nat)(h:Unit->Option (Unit⊕Int))(g:Unit):Option (Unit⊕Int):=
 (idx d (b:Int)).bind λa=>
 (idx p (b:Int)).bind λc=>
 if (a.Sm !=c.Sm) then
  some (.inr 33)
 else
  (if (a.Sm==1) then
   (dN c.SN a.SN).bind λe=>
   some (!e)
  else
   some false).bind λf=>
  if f then
   some (.inr 35)
  else
   h ()
def fh(g:Nat)(p:Int)(f:List zi):Option Int:=
 (dd p).bind λb=>
 if (!b.2) then
  some 34
 else
  (xT g p).bind λa=>
  if (((a).length:Int) !=((f).length:Int)) then
   some 2
  else
   (jM (lx f a) (λ(d:Unit)=>(.inl ())) (a).length 0 ()).bind λc=>match c with
    |.inl e=>
     some 0
    |.inr r=>some r
def gZ(p:Int):Option (zi×Bool):=
 (dd p).bind λa=>
 if (!a.2) then
  some ((zi.mk 0 (zh.mk 0 0) 0),false)
 else
  (gY a.1.most).bind λb=>
  some (b,true)
def gw(f:Int)(e:Int)(p:Int):Option (Int×Bool):=
 if (f==1) then
  some (xW (e+p),true)
 else
  if (f==2) then
   some (xW (e-p),true)
  else
   if (f==3) then
    some (xW (e*p),true)
   else
    if (f==4) then
     if (p==0) then
      some (0,true)
     else
      (nz p).bind λa=>
      some (xW (e.tdiv p),true)
    else
     if (f==5) then
      if (p==0) then
       some (e,true)
      else
       (nz p).bind λb=>
       some (e.tmod p,true)
     else
      if (f==6) then
       some (wN .u64 e p,true)
      else
       if (f==7) then
        some (bOr .u64 e p,true)
       else
        if (f==8) then
         some (MI .u64 e p,true)
        else
         if (f==9) then
          (nn p).bind λc=>
          some (wO .u64 e p,true)
         else
          if (f==10) then
           (nn p).bind λd=>
           some (iN .u64 e p,true)
          else
           some (0,false)
def xP(p:zh):Option Bool:=
 some (p.Lo==p.Hi)
def lz(p:zh)(c:zh):Option zh:=
 (F7 p.Hi c.Hi 0).bind λa=>
 if decide (a.2>0) then
  cg.bind λb=>
  some b
 else
  some (zh.mk (xW (p.Lo+c.Lo)) a.1)
def kB(p:Int)(a:Int):Option (Int×Int):=
 some (xW ((xW ((xW ((iN .u64 p 32)*(iN .u64 a 32)))+(iN .u64 (xW ((xW ((iN .u64 p 32)*(wN .u64 a 4294967295)))+(iN .u64 (xW ((wN .u64 p 4294967295)*(wN .u64 a 4294967295))) 32))) 32)))+(iN .u64 (xW ((wN .u64 (xW ((xW ((iN .u64 p 32)*(wN .u64 a 4294967295)))+(iN .u64 (xW ((wN .u64 p 4294967295)*(wN .u64 a 4294967295))) 32))) 4294967295)+(xW ((wN .u64 p 4294967295)*(iN .u64 a 32))))) 32)),xW (p*a))
def cj(p:zh)(c:zh):Option zh:=
 (kB p.Hi c.Hi).bind λa=>
 if decide (a.1>0) then
  cg.bind λb=>
  some b
 else
  some (zh.mk (xW (p.Lo*c.Lo)) a.2)
def cm(c:zh)(p:zh):Option zh:=
 if (p.Lo==0) then
  some (zh.mk 0 c.Hi)
 else
  (nz p.Hi).bind λa=>
  (nz p.Lo).bind λb=>
  some (zh.mk (xW (c.Lo.tdiv p.Hi)) (xW (c.Hi.tdiv p.Lo)))
def hP(p:zh)(a:zh):Option zh:=
 if (a.Lo==0) then
  some (zh.mk 0 p.Hi)
 else
  if decide (p.Hi<a.Lo) then
   some p
  else
   some (zh.mk 0 (nu p.Hi (xW (a.Hi-1))))
def gF(p:Int):Option Int:=
 (if decide (p>=4294967296) then
  some (iN .u64 p 32,32)
 else
  some (p,0)).bind λa=>
 (if decide (a.1>=65536) then
  some (iN .u64 a.1 16,w64 (a.2+16))
 else
  some (a.1,a.2)).bind λb=>
 (if decide (b.1>=256) then
  some (iN .u64 b.1 8,w64 (b.2+8))
 else
  some (b.1,b.2)).bind λc=>
 (uJ (⟨[0,1,2,2,3,3,3,3,4,4,4,4,4,4,4,4,5,5,5,5,5,5,5,5,5,5,5,5,5,5,5,5,6,6,6,6,6,6,6,6,6,6,6,6,6,6,6,6,6,6,6,6,6,6,6,6,6,6,6,6,6,6,6,6,7,7,7,7,7,7,7,7,7,7,7,7,7,7,7,7,7,7,7,7,7,7,7,7,7,7,7,7,7,7,7,7,7,7,7,7,7,7,7,7,7,7,7,7,7,7,7,7,7,7,7,7,7,7,7,7,7,7,7,7,7,7,7,7,8,8,8,8,8,8,8,8,8,8,8,8,8,8,8,8,8,8,8,8,8,8,8,8,8,8,8,8,8,8,8,8,8,8,8,8,8,8,8,8,8,8,8,8,8,8,8,8,8,8,8,8,8,8,8,8,8,8,8,8,8,8,8,8,8,8,8,8,8,8,8,8,8,8,8,8,8,8,8,8,8,8,8,8,8,8,8,8,8,8,8,8,8,8,8,8,8,8,8,8,8,8,8,8,8,8,8,8,8,8,8,8,8,8,8,8,8,8,8,8,8,8,8,8,8,8,8,8].toArray⟩) (IntKind.u8.wrap c.1)).bind λd=>
 some (w64 (c.2+(w64 d)))
def fL(p:Int):Option Int:=
 (gF p).bind λa=>
 (nn a).bind λb=>
 some (xW ((wO .u64 1 a)-1))
def hU(h:zh)(p:zh):Option zh:=
 ((xP p).bind λa=>
 if (!a) then
  some true
 else
  (gF h.Hi).bind λb=>
  if decide (b>0) then
   if decide (p.Lo>64) then
    some true
   else
    (gF h.Hi).bind λc=>
    some (decide ((xW ((xW c)+p.Lo))>64))
  else
   some false).bind λd=>
 if d then
  cg.bind λe=>
  some e
 else
  (nn p.Lo).bind λf=>
  (nn p.Lo).bind λg=>
  some (zh.mk (wO .u64 h.Lo p.Lo) (wO .u64 h.Hi p.Lo))
def od(k:Int)(i:zh)(p:zh):Option (zh×Bool):=
 (gw k i.Lo p.Lo).bind λa=>
 (if (!a.2) then
  some true
 else
  (vH i).bind λb=>
  if (!b) then
   some true
  else
   (vH p).bind λc=>
   some (!c)).bind λd=>
 if d then
  some ((zh.mk 0 0),false)
 else
  ((xP i).bind λe=>
  if e then
   (xP p).bind λf=>
   some f
  else
   some false).bind λg=>
  if g then
   (lu a.1).bind λh=>
   some (h,true)
  else
   if (k==1) then
    (lz i p).bind λj=>
    some (j,true)
   else
    if (k==2) then
     if decide (i.Lo<p.Hi) then
      cg.bind λl=>
      some (l,true)
     else
      some ((zh.mk (xW (i.Lo-p.Hi)) (xW (i.Hi-p.Lo))),true)
    else
     if (k==3) then
      (cj i p).bind λn=>
      some (n,true)
     else
      if (k==4) then
       (cm i p).bind λq=>
       some (q,true)
      else
       if (k==5) then
        (hP i p).bind λv=>
        some (v,true)
       else
        if (k==6) then
         some ((zh.mk 0 (nu i.Hi p.Hi)),true)
        else
         if (k==7) then
          (fL (bOr .u64 i.Hi p.Hi)).bind λz=>
          some ((zh.mk (rA i.Lo p.Lo) z),true)
         else
          if (k==8) then
           (fL (bOr .u64 i.Hi p.Hi)).bind λA=>
           some ((zh.mk 0 A),true)
          else
           if (k==9) then
            (hU i p).bind λB=>
            some (B,true)
           else
            (nn p.Hi).bind λC=>
            (nn p.Lo).bind λD=>
            some ((zh.mk (iN .u64 i.Lo p.Hi) (iN .u64 i.Hi p.Lo)),true)
def ez(p:zj)(h:Int)(a:zf×(Nat->zi))(c:Nat)(g:Unit->Option (Unit⊕((Nat->zi)×Int)))(f:Unit):Option (Unit⊕((Nat->zi)×Int)):=
 (ain 8 (c:Int)).bind λb=>
 (idx p.SY (w64 (h-a.1.D))).bind λd=>
 (kA (a.2 b) (d b)).bind λe=>
 if (!e) then
  some (.inr (a.2,33))
 else
  g ()
def vq(k:Nat)(p:zj)(i:Int):Option ((Nat->zi)×Int):=
 ((idx p.SM.Code i).bind λf=>
 (idx p.SY i).bind λg=>
 some (f,g)).bind λa=>
 (kz a.1).bind λh=>
 (if h then
  (dX a.1 a.2).bind λj=>
  some j
 else
  some (zi.mk 0 (zh.mk 0 0) 0)).bind λb=>
 (ain 8 a.1.A).bind λc=>
 if (a.1.Op==0) then
  if (b.Sm==0) then
   some (a.2,33)
  else
   (ain 8 a.1.D).bind λl=>
   some ((aset a.2 l b),0)
 else
  if (a.1.Op==11) then
   cg.bind λn=>
   (vc n).bind λq=>
   (ain 8 a.1.D).bind λv=>
   (vG ([b])).bind λz=>
   (gE b).bind λB=>
   (fg ([z,B])).bind λC=>
   some ((aset a.2 v q),C)
  else
   if (a.1.Op==12) then
    (vG ([(a.2 c),b])).bind λE=>
    (gE b).bind λF=>
    (fg ([E,F])).bind λG=>
    some (a.2,G)
   else
    if (a.1.Op==13) then
     cg.bind λH=>
     (vc H).bind λI=>
     (ain 8 a.1.D).bind λJ=>
     some ((aset a.2 J I),0)
    else
     if (a.1.Op==14) then
      (ain 8 a.1.D).bind λd=>
      if decide (a.1.Tm>=((p.SM.Maps).length:Int)) then
       some ((aset a.2 d (zi.mk 2 (zh.mk 0 0) a.1.Tm)),35)
      else
       some ((aset a.2 d (zi.mk 2 (zh.mk 0 0) a.1.Tm)),0)
     else
      if (a.1.Op==15) then
       some (a.2,0)
      else
       (if (a.1.Op==16) then
        some (a.1.Op==16)
       else
        if (a.1.Op==17) then
         some (a.1.Op==17)
        else
         if (a.1.Op==18) then
          some (a.1.Op==18)
         else
          some (a.1.Op==19)).bind λK=>
       if K then
        (vG ([(a.2 c),b])).bind λL=>
        some (a.2,L)
       else
        if (a.1.Op==20) then
         (vG ([(a.2 c)])).bind λe=>
         if (e !=0) then
          some (a.2,e)
         else
          (jM (ez p i a) (λ(W:Unit)=>(.inl ())) 8 0 ()).bind λM=>match M with
           |.inl X=>
            some (a.2,0)
           |.inr r=>some r
        else
         if (a.1.Op==21) then
          (xT k a.1.Tm).bind λN=>
          (cut (HG 8 a.2) 1 (w64 (1+((N).length:Int)))).bind λO=>
          (fh k a.1.Tm O).bind λP=>
          (gZ a.1.Tm).bind λQ=>
          some ((aset a.2 0 Q.1),P)
         else
          if (a.1.Op==22) then
           (vG ([(a.2 c)])).bind λR=>
           some (a.2,R)
          else
           (od a.1.Op (a.2 c).SN b.SN).bind λS=>
           (vc S.1).bind λT=>
           (ain 8 a.1.D).bind λU=>
           (vG ([(a.2 c),b])).bind λV=>
           some ((aset a.2 U T),V)
def rO(p:List zh)(c:Nat)(e:zh->Option (zh⊕(zh×Bool)))(b:zh):Option (zh⊕(zh×Bool)):=
 (idx p (c:Int)).bind λa=>
 (vH a).bind λd=>
 if (!d) then
  some (.inr ((zh.mk 0 0),false))
 else
  e (zh.mk (nu b.Lo a.Lo) (rA b.Hi a.Hi))
def mo(p:List zh):Option (zh×Bool):=
 (jM (rO p) (λ(a:zh)=>(.inl a)) (p).length 0 (zh.mk 18446744073709551615 0)).bind λb=>match b with
  |.inl c=>
   if (((p).length:Int)==0) then
    some ((zh.mk 0 0),false)
   else
    some (c,true)
  |.inr r=>some r
def fM(p:zi)(c:zi):Option zi:=
 if ((p.Sm !=c.Sm)||(p.Tc !=c.Tc)) then
  some (zi.mk 0 (zh.mk 0 0) 0)
 else
  if (p.Sm==1) then
   (mo ([p.SN,c.SN])).bind λa=>
   (vc a.1).bind λb=>
   some b
  else
   some p
def dO(p:Int)(g:Nat->zi)(d:Nat)(f:zj->Option zj)(a:zj):Option zj:=
 (idx a.SY p).bind λc=>
 (ain 8 (d:Int)).bind λb=>
 (fM (c b) (g b)).bind λe=>
 f {a with SY:=(a.SY.set (Int.toNat p) (aset c b e))}
def jf(p:zj)(e:Int)(f:Nat->zi):Option zj:=
 (idx p.any e).bind λa=>
 if (!a) then
  (idx p.SY e).bind λd=>
  some {p with SY:=(p.SY.set (Int.toNat e) f),any:=(p.any.set (Int.toNat e) true)}
 else
  (jM (dO e f) (λ(b:zj)=>b) 8 0 p).bind λc=>
  some c
def bp(p:Int)(a:Int)(b:Int):Option (Bool×Bool):=
 if (p==16) then
  some ((a==b),true)
 else
  if (p==17) then
   some ((a !=b),true)
  else
   if (p==18) then
    some (decide (a<b),true)
   else
    if (p==19) then
     some (decide (a>=b),true)
    else
     some (false,false)
def mr(p:List zh)(c:Nat)(e:zh->Option (zh⊕(zh×Bool)))(b:zh):Option (zh⊕(zh×Bool)):=
 (idx p (c:Int)).bind λa=>
 (vH a).bind λd=>
 if (!d) then
  some (.inr ((zh.mk 0 0),false))
 else
  e (zh.mk (rA b.Lo a.Lo) (nu b.Hi a.Hi))
def eA(p:List zh):Option (zh×Bool):=
 cg.bind λb=>
 (jM (mr p) (λ(c:zh)=>(.inl c)) (p).length 0 b).bind λd=>match d with
  |.inl a=>
   (if (((p).length:Int)==0) then
    some true
   else
    (vH a).bind λe=>
    some (!e)).bind λf=>
   if f then
    some ((zh.mk 0 0),false)
   else
    some (a,true)
  |.inr r=>some r
def dP(i:Int)(p:zh)(k:zh)(m:Bool):Option (zh×Bool):=
 (bp i 0 0).bind λd=>
 (if (!d.2) then
  some true
 else
  (vH p).bind λe=>
  if (!e) then
   some true
  else
   (vH k).bind λf=>
   some (!f)).bind λg=>
 if g then
  some ((zh.mk 0 0),false)
 else
  (xP k).bind λh=>
  if (!h) then
   some (p,true)
  else
   (if ((i==18)&&m) then
    some ((i==18)&&m)
   else
    if (i==19) then
     some (!m)
    else
     some false).bind λj=>
   if j then
    if (k.Lo==0) then
     some ((zh.mk 0 0),false)
    else
     (eA ([p,(zh.mk 0 (xW (k.Lo-1)))])).bind λa=>
     some (a.1,a.2)
   else
    (if (i==18) then
     some (i==18)
    else
     some (i==19)).bind λl=>
    if l then
     (eA ([p,(zh.mk k.Lo 18446744073709551615)])).bind λb=>
     some (b.1,b.2)
    else
     (if ((i==16)&&m) then
      some ((i==16)&&m)
     else
      if (i==17) then
       some (!m)
      else
       some false).bind λn=>
     if n then
      (eA ([p,k])).bind λc=>
      some (c.1,c.2)
     else
      if ((p.Lo==k.Lo)&&((p.Hi==k.Hi)&&true)) then
       some ((zh.mk 0 0),false)
      else
       if (p.Lo==k.Lo) then
        some ((zh.mk (xW (p.Lo+1)) p.Hi),true)
       else
        if (p.Hi==k.Lo) then
         some ((zh.mk p.Lo (xW (p.Hi-1))),true)
        else
         some (p,true)
def dQ(p:Int)(k:Nat->zi)(a:zf)(f:Int×Bool×Bool)(g:zi)(h:Nat)(i:zj->Option zj)(b:zj):Option zj:=
 (idx ([true,false]) (h:Int)).bind λc=>
 (if (!c) then
  some (w64 (p+1))
 else
  some (w64 (p+f.1))).bind λj=>
 ((ain 8 a.A).bind λl=>
 (dP a.Op (k l).SN g.SN c).bind λd=>
 some (d.1,d.2)).bind λe=>
 if e.2 then
  (vc e.1).bind λn=>
  (ain 8 a.A).bind λq=>
  (jf b j (aset k q n)).bind λv=>
  i v
 else
  i b
def xQ(p:zj)(i:Int)(j:Nat->zi):Option zj:=
 (idx p.SM.Code i).bind λb=>
 (lj b).bind λa=>
 if ((!a.2.1)||decide (a.1<0)) then
  (if a.2.2 then
   (jf p (w64 (i+1)) j).bind λc=>
   some c
  else
   some p).bind λd=>
  some d
 else
  if (!a.2.2) then
   (jf p (w64 (i+a.1)) j).bind λe=>
   some e
  else
   (dX b j).bind λf=>
   (jM (dQ i j b a f) (λ(g:zj)=>g) 2 0 p).bind λh=>
   some h
def cq(h:Nat)(a:Nat)(g:zj->Option (zj⊕((Option zj)×Int×Int)))(b:zj):Option (zj⊕((Option zj)×Int×Int)):=
 (idx b.any (a:Int)).bind λe=>
 if (!e) then
  g b
 else
  (xp b (a:Int)).bind λd=>
  (vq h d (a:Int)).bind λc=>
  if (c.2 !=0) then
   some (.inr (none,(a:Int),c.2))
  else
   (xQ d (a:Int) c.1).bind λf=>
   g f
def jW(i:Nat)(p:zD):Option ((Option zj)×Int×Int):=
 (kx p.Maps).bind λc=>
 if (!c) then
  some (none,0,2)
 else
  (fe p.Code).bind λa=>
  if (a.2 !=0) then
   some (none,a.1,a.2)
  else
   ((mkLen ((p.Code).length:Int) 256).bind λd=>
   (mkLen ((p.Code).length:Int) 1).bind λe=>
   some (zj.mk p (List.replicate d (λ_=>(zi.mk 0 (zh.mk 0 0) 0))) (List.replicate e false) ([]:List qy))).bind λb=>
   (ky p.Code).bind λf=>
   (idx b.any 0).bind λl=>
   (jM (cq i) (λ(g:zj)=>(.inl g)) (p.Code).length 0 {b with any:=(b.any.set (Int.toNat 0) true),loops:=f.1}).bind λh=>match h with
    |.inl j=>
     some ((some j),0,0)
    |.inr r=>some r
def vr(f:Nat)(p:zD):Option (Int×Int):=
 (jW f p).bind λa=>
 vT a.1
  (some (a.2.1,a.2.2))
  (λb=>
  some (a.2.1,a.2.2))
def bR(p:qP):Option qP:=
 some (qP.mk (λ_=>0))
def fj(f:Nat)(p:zD)(g:qt)(e:zm):Option ((Option zq)×Int×zm):=
 (vr f p).bind λa=>
 if (a.2 !=0) then
  some (none,a.2,e)
 else
  (bR e.Tr).bind λb=>
  (je p.Maps).bind λc=>
  (zS p.Code).bind λd=>
  some ((some (zq.mk g (zD.mk c d) (λ_=>0) (λ_=>0) 0 0 0)),0,(zm.mk b e.SQ))
def jU(f:Nat)(p:zl)(c:Int)(d:Int)(e:zD):Option (Int×zl):=
 if (p.Su !=1) then
  some (41,p)
 else
  (fj f e p.SX.Te.SK p.Tg).bind λa=>
  vT a.1
   (if (a.2.1 !=0) then
    some (a.2.1,{p with Tg:=a.2.2})
   else
    some (0,(zl.mk a.2.2 p.Tz 2 (bI.mk p.SX.hook p.SX.Te c d p.SX.calls none))))
   (λb=>
   if (a.2.1 !=0) then
    some (a.2.1,{p with Tg:=a.2.2})
   else
    some (0,(zl.mk a.2.2 p.Tz 2 (bI.mk p.SX.hook p.SX.Te c d p.SX.calls (some b)))))
def vR(p:zl):Option (Int×Int):=
 some (p.SX.SL,p.SX.prog)
def mu(p:Int):Option (Int×Bool):=
 (dd p).bind λa=>
 some (a.1.asks,a.1.Uf)
def jX(p:jo)(b:Int):Option (Int×Int×jo):=
 if (decide (b<0)||decide (b>=16)) then
  some (0,35,p)
 else
  (ain 16 b).bind λa=>
  some (((aset p.Sj a (xW ((p.Sj a)+1))) a),0,(jo.mk (aset p.Sj a (xW ((p.Sj a)+1)))))
def jV(i:Nat)(p:zq)(h:Int)(g:zm):Option (qT×zq×zm):=
 (mu h).bind λc=>
 if c.2 then
  (idx p.module.Maps (p.regs 1)).bind λd=>
  (xT i h).bind λe=>
  (if decide (((e).length:Int)>2) then
   some (p.regs 3)
  else
   some 0).bind λf=>
  some ((qT.mk 2 p.SO (zg.mk d c.1 (p.regs 2) f) 0),{p with state:=1},g)
 else
  (if (h==5) then
   (jX g.SQ (w64 (p.regs 1))).bind λb=>
   some ({p with regs:=(aset p.regs 0 b.1)},(zm.mk g.Tr b.2.2),(qT.mk 1 p.SO (zg.mk 0 0 0 0) b.1))
  else
   some ({p with regs:=(aset p.regs 0 0)},g,(qT.mk 3 p.SO (zg.mk 0 0 0 0) (p.regs 1)))).bind λa=>
  some (a.2.2,(zq.mk a.1.SK a.1.module a.1.regs a.1.Si (w64 (a.1.SO+1)) a.1.steps a.1.state),a.2.1)
def jD(b:zq)(p:zf):Option Int:=
 if (p.B==8) then
  some (xW p.Tm)
 else
  (ain 8 p.B).bind λa=>
  some (b.regs a)
def xH(b:qP)(p:Int):Option (Int×Int):=
 if (decide (p<0)||decide (p>=16)) then
  some (0,35)
 else
  (ain 16 p).bind λa=>
  some ((b.SJ a),0)
def xq(b:qP)(p:Int)(c:Int):Option (Int×qP):=
 if (decide (p<0)||decide (p>=16)) then
  some (35,b)
 else
  (ain 16 p).bind λa=>
  some (0,(qP.mk (aset b.SJ a c)))
def jx(p:zq)(i:zf)(k:zm):Option (Int×zq×zm):=
 if (i.Op==0) then
  (jD p i).bind λe=>
  (ain 8 i.D).bind λf=>
  some (1,{p with regs:=(aset p.regs f e)},k)
 else
  if (i.Op==11) then
   (jD p i).bind λg=>
   (xH k.Tr (w64 g)).bind λh=>
   (ain 8 i.D).bind λj=>
   some (1,{p with regs:=(aset p.regs j h.1)},k)
  else
   if (i.Op==12) then
    (ain 8 i.A).bind λl=>
    (jD p i).bind λn=>
    (xq k.Tr (w64 n) (p.regs l)).bind λq=>
    some (1,p,(zm.mk q.2 k.SQ))
   else
    if (i.Op==13) then
     (ain 8 i.D).bind λa=>
     if (i.Tm==1) then
      some (1,{p with regs:=(aset (aset p.regs a p.SK.A) a p.SK.B)},k)
     else
      some (1,{p with regs:=(aset p.regs a p.SK.A)},k)
    else
     if (i.Op==14) then
      (ain 8 i.D).bind λv=>
      some (1,{p with regs:=(aset p.regs v (xW i.Tm))},k)
     else
      if (i.Op==15) then
       some (w64 (i.D+1),p,k)
      else
       if (i.Op==20) then
        ((ain 8 i.A).bind λz=>
        if ((p.regs z) !=0) then
         (ain 64 p.SO).bind λC=>
         some (decide ((p.Si C)<i.Tm))
        else
         some false).bind λE=>
        if E then
         (ain 64 p.SO).bind λb=>
         some (w64 (0-i.D),{p with Si:=(aset p.Si b (w64 ((p.Si b)+1)))},k)
        else
         (ain 64 p.SO).bind λF=>
         some (1,{p with Si:=(aset p.Si F 0)},k)
       else
        (ain 8 i.A).bind λc=>
        (jD p i).bind λG=>
        (gw i.Op (p.regs c) G).bind λd=>
        if d.2 then
         (ain 8 i.D).bind λH=>
         some (1,{p with regs:=(aset p.regs H d.1)},k)
        else
         (jD p i).bind λI=>
         (bp i.Op (p.regs c) I).bind λJ=>
         if J.1 then
          some (w64 (i.D+1),p,k)
         else
          some (1,p,k)
def qL(h:Nat)(p:zq)(g:zm):Option (qT×zq×zm):=
 if (p.state==1) then
  some ((qT.mk 5 p.SO (zg.mk 0 0 0 0) 0),p,g)
 else
  if (p.state==2) then
   (idx p.module.Code p.SO).bind λd=>
   (ain 8 d.A).bind λe=>
   some ((qT.mk 6 p.SO (zg.mk 0 0 0 0) (p.regs e)),p,g)
  else
   (idx p.module.Code p.SO).bind λb=>
   if (b.Op==21) then
    (jV h {p with steps:=(w64 (p.steps+1))} b.Tm g).bind λc=>
    some (c.1,c.2.1,c.2.2)
   else
    if (b.Op==22) then
     (ain 8 b.A).bind λf=>
     some ((qT.mk 4 p.SO (zg.mk 0 0 0 0) (p.regs f)),{p with steps:=(w64 (p.steps+1)),state:=2},g)
    else
     (jx {p with steps:=(w64 (p.steps+1))} b g).bind λa=>
     some ((qT.mk 1 p.SO (zg.mk 0 0 0 0) 0),(zq.mk a.2.1.SK a.2.1.module a.2.1.regs a.2.1.Si (w64 (p.SO+a.1)) a.2.1.steps a.2.1.state),a.2.2)
def ax(p:zq):Option Int:=
 some p.steps
def BG(p:List zM)(c:Nat)(d:zM->Option zM)(a:zM):Option zM:=
 (idx p (c:Int)).bind λb=>
 d (zM.mk (xW (a.Up+b.Up)) (xW (a.TL+b.TL)) (xW (a.TZ+b.TZ)) (xW (a.Calls+b.Calls)) (xW (a.Sum+b.Sum)))
def mw(p:List zM):Option zM:=
 (jM (BG p) (λ(a:zM)=>a) (p).length 0 (zM.mk 0 0 0 0 0)).bind λb=>
 some b
def cw(p:zR)(d:Int)(e:Int)(f:Int)(g:Int):Option (Int×zR):=
 (fc d).bind λb=>
 if (!b) then
  some (2,p)
 else
  (ain 4 d).bind λa=>
  (mw ([(p.Sz a),(zM.mk 1 0 e f g)])).bind λc=>
  some (0,(zR.mk (aset p.Sz a c)))
def qz(f:Nat)(p:zl):Option (qT×Bool×zl):=
 if (p.Su !=2) then
  some ((qT.mk 0 0 (zg.mk 0 0 0 0) 0),false,p)
 else
  p.SX.Ue.bind λb=>
  (qL f b p.Tg).bind λa=>
  if (a.1.Sm==2) then
   some (a.1,true,(zl.mk a.2.2 p.Tz 3 (bI.mk p.SX.hook p.SX.Te p.SX.SL p.SX.prog (xW (p.SX.calls+1)) (some a.2.1))))
  else
   if (a.1.Sm==4) then
    (ax a.2.1).bind λc=>
    (cw p.Tz p.SX.hook (xW c) p.SX.calls a.1.Tp).bind λd=>
    (bQ (zl.mk a.2.2 d.2 p.Su (bI.mk p.SX.hook p.SX.Te p.SX.SL p.SX.prog p.SX.calls (some a.2.1)))).bind λe=>
    some (a.1,true,e)
   else
    some (a.1,true,{p with Tg:=a.2.2,SX:=(bI.mk p.SX.hook p.SX.Te p.SX.SL p.SX.prog p.SX.calls (some a.2.1))})
def gk(p:zE)(i:List Int)(c:Nat)(h:(Nat->Bool)->Option (Unit⊕(Int×zE)))(b:(Nat->Bool)):Option (Unit⊕(Int×zE)):=
 (idx i (c:Int)).bind λa=>
 ((vi p a).bind λd=>
 if (!d) then
  some true
 else
  (ain 4 a).bind λe=>
  some (b e)).bind λf=>
 if f then
  some (.inr (2,p))
 else
  (ain 4 a).bind λg=>
  h (aset b g true)
def gn(p:zE)(f:List Int)(a:Nat)(e:Unit->Option (Unit⊕(Int×zE)))(d:Unit):Option (Unit⊕(Int×zE)):=
 (idx f (a:Int)).bind λb=>
 (idx p.in_ b).bind λc=>
 if (c==0) then
  some (.inr (41,p))
 else
  e ()
def gp(p:List Int)(c:Nat)(e:zE->Option zE)(a:zE):Option zE:=
 (idx p (c:Int)).bind λb=>
 (idx a.in_ b).bind λd=>
 e (zE.mk a.TR (a.in_.set (Int.toNat b) 0))
def vk(i:zE)(p:List Int):Option (Int×zE):=
 (jM (gk i p) (λ(e:(Nat->Bool))=>(.inl ())) (p).length 0 (λ_=>false)).bind λa=>match a with
  |.inl f=>
   (jM (gn i p) (λ(g:Unit)=>(.inl ())) (p).length 0 ()).bind λb=>match b with
    |.inl h=>
     (jM (gp p) (λ(c:zE)=>c) (p).length 0 i).bind λd=>
     some (0,d)
    |.inr r=>some r
  |.inr r=>some r
def gG(p:Int)(c:zk):Option Int:=
 (if (p==0) then
  some (p==0)
 else
  some (p==4)).bind λa=>
 if a then
  some c.Tp
 else
  (if (p==1) then
   some (p==1)
  else
   some (p==3)).bind λb=>
  if b then
   if c.Found then
    some 1
   else
    some 0
  else
   if (p==2) then
    if (c.E==0) then
     some 1
    else
     some 0
   else
    some 0
def jE(p:zq)(c:zk)(g:zm):Option (Int×zq):=
 if (p.state !=1) then
  some (2,p)
 else
  (idx p.module.Code p.SO).bind λa=>
  (gG a.Tm c).bind λb=>
  some (0,{p with regs:=(aset p.regs 0 b),SO:=(w64 (p.SO+1)),state:=0})
def xh(p:zl)(c:zk):Option (Int×zl):=
 if (p.Su !=3) then
  some (41,p)
 else
  p.SX.Ue.bind λb=>
  (jE b c p.Tg).bind λa=>
  some (a.1,{p with Su:=2,SX:=(bI.mk p.SX.hook p.SX.Te p.SX.SL p.SX.prog p.SX.calls (some a.2))})
def cI(p:za)(e:zz->Option zz)(a:zz):Option zz:=
 (idx p.rings a.Tb).bind λb=>
 (xM b).bind λc=>
 if (c.Tx==0) then
  (nz ((p.rings).length:Int)).bind λd=>
  e {a with Tb:=((w64 (a.Tb+1)).tmod ((p.rings).length:Int))}
 else
  some a
def du(k:Nat)(p:za)(i:Int):Option za:=
 (zW p).bind λd=>
 (idx p.LE (w64 (i-d))).bind λb=>
 (xo b.LT).bind λe=>
 (jN b.LT).bind λj=>
 if (j==0) then
  if p.Sk then
   (room (p.SH.length+([(zd.mk 15 i 0 0 0 0 0 0 0 0 (zg.mk 0 0 0 0) (zk.mk 0 false 0 false 0 0) 0 0)]).length) 176).bind λL=>
   (bm p.SD ([i])).bind λz=>
   some {p with SD:=z.2,LE:=(p.LE.set (Int.toNat (w64 (i-d))) {b with Sv:=true}),SH:=(p.SH++[(zd.mk 15 i 0 0 0 0 0 0 0 0 (zg.mk 0 0 0 0) (zk.mk 0 false 0 false 0 0) 0 0)])}
  else
   (loop (cI p) k b).bind λg=>
   (idx p.rings g.Tb).bind λA=>
   (va A p.Ti).bind λl=>
   (nz ((p.rings).length:Int)).bind λM=>
   (vM g.LT g.Tb l.1).bind λB=>
   (room (p.SH.length+([(zd.mk 5 i 0 0 0 l.1.N g.Tb 0 0 0 (zg.mk 0 0 0 0) (zk.mk 0 false 0 false 0 0) 0 0)]).length) 176).bind λO=>
   some {p with LE:=(p.LE.set (Int.toNat (w64 (i-d))) {g with LT:=B.2,Tb:=((w64 (g.Tb+1)).tmod ((p.rings).length:Int))}),rings:=(p.rings.set (Int.toNat g.Tb) l.2.2),SH:=(p.SH++[(zd.mk 5 i 0 0 0 l.1.N g.Tb 0 0 0 (zg.mk 0 0 0 0) (zk.mk 0 false 0 false 0 0) 0 0)])}
 else
  if (j==1) then
   (jn p.Fn.SF e.1).bind λh=>
   if (!h.2.2) then
    (xG b.LT).bind λC=>
    (room (p.SH.length+([(zd.mk 9 i 0 0 0 e.2.N e.1 0 0 0 (zg.mk 0 0 0 0) (zk.mk 0 false 0 false 0 0) 0 0)]).length) 176).bind λP=>
    some {p with LE:=(p.LE.set (Int.toNat (w64 (i-d))) {b with LT:=C.2}),SH:=(p.SH++[(zd.mk 9 i 0 0 0 e.2.N e.1 0 0 0 (zg.mk 0 0 0 0) (zk.mk 0 false 0 false 0 0) 0 0)])}
   else
    (qR p.Fn h.2.1).bind λD=>
    (vj p.Fn.SC (w64 (i-d))).bind λE=>
    (jU k b.LT h.1 h.2.1 D.1).bind λF=>
    (room (p.SH.length+([(zd.mk 6 i 0 0 0 e.2.N e.1 h.2.1 h.1 0 (zg.mk 0 0 0 0) (zk.mk 0 false 0 false 0 0) 0 0)]).length) 176).bind λQ=>
    some {p with Fn:=(zb.mk p.Fn.SF p.Fn.TE E.2.2 p.Fn.Sz p.Fn.maps p.Fn.Ta p.Fn.SG p.Fn.waiting),LE:=(p.LE.set (Int.toNat (w64 (i-d))) {b with LT:=F.2}),SH:=(p.SH++[(zd.mk 6 i 0 0 0 e.2.N e.1 h.2.1 h.1 0 (zg.mk 0 0 0 0) (zk.mk 0 false 0 false 0 0) 0 0)])}
  else
   if (j==2) then
    (xo b.LT).bind λf=>
    (vR b.LT).bind λc=>
    (qz k b.LT).bind λa=>
    if (a.1.Sm==3) then
     (room (p.SH.length+([(zd.mk 8 i 0 0 0 f.2.N 0 c.2 c.1 a.1.Pc (zg.mk 0 0 0 0) (zk.mk 0 false 0 false 0 0) a.1.Tp 0)]).length) 176).bind λR=>
     some {p with LE:=(p.LE.set (Int.toNat (w64 (i-d))) {b with LT:=a.2.2}),SH:=(p.SH++[(zd.mk 8 i 0 0 0 f.2.N 0 c.2 c.1 a.1.Pc (zg.mk 0 0 0 0) (zk.mk 0 false 0 false 0 0) a.1.Tp 0)])}
    else
     if (a.1.Sm==2) then
      (av a.1.Item.Ts ((p.Fd).length:Int)).bind λv=>
      (idx p.Fd v).bind λG=>
      (jI G ([(zp.mk i 0 false a.1.Item)])).bind λH=>
      (room (p.SH.length+([(zd.mk 16 i 0 0 0 f.2.N 0 c.2 c.1 a.1.Pc a.1.Item (zk.mk 0 false 0 false 0 0) a.1.Tp 0)]).length) 176).bind λS=>
      some {p with LE:=(p.LE.set (Int.toNat (w64 (i-d))) {b with LT:=a.2.2,pc:=a.1.Pc}),Fd:=(p.Fd.set (Int.toNat v) H.2),SH:=(p.SH++[(zd.mk 16 i 0 0 0 f.2.N 0 c.2 c.1 a.1.Pc a.1.Item (zk.mk 0 false 0 false 0 0) a.1.Tp 0)])}
     else
      if (a.1.Sm==4) then
       (zW {p with LE:=(p.LE.set (Int.toNat (w64 (i-d))) {b with LT:=a.2.2})}).bind λI=>
       (vk p.Fn.SC ([w64 (i-I)])).bind λJ=>
       (room (p.SH.length+([(zd.mk 9 i 0 0 0 f.2.N f.1 c.2 c.1 a.1.Pc (zg.mk 0 0 0 0) (zk.mk 0 false 0 false 0 0) a.1.Tp 0)]).length) 176).bind λT=>
       some {p with Fn:=(zb.mk p.Fn.SF p.Fn.TE J.2 p.Fn.Sz p.Fn.maps p.Fn.Ta p.Fn.SG p.Fn.waiting),LE:=(p.LE.set (Int.toNat (w64 (i-d))) {b with LT:=a.2.2}),SH:=(p.SH++[(zd.mk 9 i 0 0 0 f.2.N f.1 c.2 c.1 a.1.Pc (zg.mk 0 0 0 0) (zk.mk 0 false 0 false 0 0) a.1.Tp 0)])}
      else
       (room (p.SH.length+([(zd.mk 7 i 0 0 0 f.2.N 0 c.2 c.1 a.1.Pc (zg.mk 0 0 0 0) (zk.mk 0 false 0 false 0 0) a.1.Tp 0)]).length) 176).bind λU=>
       some {p with LE:=(p.LE.set (Int.toNat (w64 (i-d))) {b with LT:=a.2.2}),SH:=(p.SH++[(zd.mk 7 i 0 0 0 f.2.N 0 c.2 c.1 a.1.Pc (zg.mk 0 0 0 0) (zk.mk 0 false 0 false 0 0) a.1.Tp 0)])}
   else
    if (j==3) then
     (vR b.LT).bind λn=>
     b.Tw.bind λq=>
     (room (p.SH.length+([(zd.mk 17 i 0 0 0 e.2.N 0 n.2 n.1 b.pc (zg.mk 0 0 0 0) q 0 0)]).length) 176).bind λV=>
     (xh b.LT q).bind λK=>
     some {p with LE:=(p.LE.set (Int.toNat (w64 (i-d))) {b with LT:=K.2,Tw:=none}),SH:=(p.SH++[(zd.mk 17 i 0 0 0 e.2.N 0 n.2 n.1 b.pc (zg.mk 0 0 0 0) q 0 0)])}
    else
     some p
def zN(p:List zt):Option (List zt):=
 (room (([]:List zt).length+p.length) 16).bind λa=>
 some (([]:List zt)++p)
def vt(p:qp):Option (List zt):=
 (zN p.Sq).bind λa=>
 some a
def jy(p:qm):Option (List zt):=
 match p with
 |.inl x=>(vt x).bind λq=>some q
 |.inr x=>(vt x.TG).bind λq=>some q
def fk(c:zc)(p:Int):Option ((List zt)×Int):=
 if (decide (p<0)||decide (p>=((c.maps).length:Int))) then
  some (([]:List zt),2)
 else
  (idx c.maps p).bind λa=>
  (jy a).bind λb=>
  some (b,0)
def oQ(p:za)(g:Int)(c:Nat)(f:(List zt)->Option (List zt))(a:(List zt)):Option (List zt):=
 (idx p.Fd (c:Int)).bind λd=>
 (fk d g).bind λb=>
 (room (a.length+b.1.length) 16).bind λe=>
 f (a++b.1)
def hY(p:za)(c:Int):Option ((List zt)×Int):=
 if (decide (c<0)||decide (c>=((p.SI.Maps).length:Int))) then
  some (([]:List zt),2)
 else
  (jM (oQ p c) (λ(a:(List zt))=>a) (p.Fd).length 0 ([]:List zt)).bind λb=>
  some (b,0)
def vI(p:zt)(a:Int):Option Int:=
 if decide (p.Ts<a) then
  some (-1)
 else
  if decide (p.Ts>a) then
   some 1
  else
   some 0
def qH(p:List zt)(e:Int)(d:(Int×Int)->Option Int)(a:Int×Int):Option Int:=
 if decide (a.1<a.2) then
  (idx p (w64 (iN .u64 (xW (w64 (a.1+a.2))) 1))).bind λb=>
  (vI b e).bind λc=>
  if decide (c<0) then
   d (w64 ((w64 (iN .u64 (xW (w64 (a.1+a.2))) 1))+1),a.2)
  else
   d (a.1,w64 (iN .u64 (xW (w64 (a.1+a.2))) 1))
 else
  some a.1
def zK(f:Nat)(p:List zt)(e:Int):Option (Int×Bool):=
 (loop (qH p e) f (0,((p).length:Int))).bind λa=>
 (if decide (a<((p).length:Int)) then
  (idx p a).bind λb=>
  (vI b e).bind λc=>
  some (c==0)
 else
  some false).bind λd=>
 some (a,d)
def fD(f:Nat)(p:qp)(b:Int):Option (Int×Bool):=
 (zK f p.Sq b).bind λa=>
 some (a.1,a.2)
def qi(p:List zt)(a b:Int):Option (List zt):=Mr p a b
def qj(p:List zt)(a:Int)(b:List zt):Option ((List zt)×(List zt)):=O3 16 p a b
def jO(m:Nat)(p:qp)(i:Int)(l:Int)(k:Int):Option (zk×qp):=
 if (decide (i<0)||decide (i>=5)) then
  some ((zk.mk 2 false 0 false 0 0),p)
 else
  (fD m p l).bind λa=>
  (if (a.2&&(i !=1)) then
   (idx p.Sq a.1).bind λe=>
   some (zk.mk 0 a.2 e.Tp false 0 0)
  else
   some (zk.mk 0 a.2 0 false 0 0)).bind λb=>
  if (i==3) then
   if a.2 then
    (qi p.Sq a.1 (w64 (a.1+1))).bind λf=>
    some (b,(qp.mk p.cap f))
   else
    some (b,p)
  else
   (if (i==2) then
    some (i==2)
   else
    some (i==4)).bind λg=>
   if g then
    if ((!a.2)&&(((p.Sq).length:Int)==p.cap)) then
     some ((zk.mk 40 false 0 false 0 0),p)
    else
     (if (!a.2) then
      (qj p.Sq a.1 ([(zt.mk l 0)])).bind λh=>
      some (qp.mk p.cap h.1)
     else
      some p).bind λc=>
     (if (i==4) then
      some (xW (b.Tp+k),{b with Tp:=(xW (b.Tp+k))})
     else
      some (k,b)).bind λd=>
     (idx c.Sq a.1).bind λj=>
     some (d.2,(qp.mk c.cap (c.Sq.set (Int.toNat a.1) (zt.mk j.Ts d.1))))
   else
    some (b,p)
def xU(p:List Int)(f:Int)(a:Nat)(e:Unit->Option (Unit⊕Int))(d:Unit):Option (Unit⊕Int):=
 (idx p (a:Int)).bind λb=>
 (bJ b f).bind λc=>
 if c then
  some (.inr (a:Int))
 else
  e ()
def qU(p:List Int)(d:Int):Option Int:=
 (jM (xU p d) (λ(b:Unit)=>(.inl ())) (p).length 0 ()).bind λa=>match a with
  |.inl c=>
   some (-1)
  |.inr r=>some r
def xI(p:Int)(e:((List Int)×Int×Int)->Option ((List Int)×Int))(a:(List Int)×Int×Int):Option ((List Int)×Int):=
 if decide (a.2.2<((a.1).length:Int)) then
  (idx a.1 a.2.2).bind λb=>
  (bJ b p).bind λc=>
  if (!c) then
   (idx a.1 a.2.1).bind λd=>
   e ((a.1.set (Int.toNat a.2.1) b),w64 (a.2.1+1),w64 (a.2.2+1))
  else
   e (a.1,a.2.1,w64 (a.2.2+1))
 else
  some (a.1,a.2.1)
def qM(f:Nat)(p:List Int)(e:Int):Option (List Int):=
 (qU p e).bind λb=>
 if (b==(-1)) then
  some p
 else
  (loop (xI e) f (p,b,w64 (b+1))).bind λa=>
  (cut a.1 a.2 (a.1.length:Int)).bind λc=>
  (cut (a.1.take (Int.toNat a.2)++List.replicate c.length 0) 0 a.2).bind λd=>
  some d
def xD(f:Nat)(p:qA)(b:Int):Option qA:=
 (qM f p.TM b).bind λa=>
 some (qA.mk p.TG a)
def cJ(f:Nat)(p:qA)(d:zk):Option (qA×zk):=
 (idx p.TM (w64 (((p.TM).length:Int)-1))).bind λa=>
 (jO f p.TG 3 a 0).bind λb=>
 (xD f (qA.mk b.2 p.TM) a).bind λc=>
 some (c,(zk.mk d.E d.Found d.Tp true a b.1.Tp))
def jF(p:List Int)(a:Int)(b:List Int):Option ((List Int)×(List Int)):=O3 8 p a b
def xX(f:Nat)(c:qA)(p:Int):Option qA:=
 (xD f c p).bind λa=>
 (jF a.TM 0 ([p])).bind λb=>
 some (qA.mk a.TG b.1)
def dY(h:Nat)(j:qA)(p:Int)(i:Int)(k:Int):Option (zk×qA):=
 (jO h j.TG p i k).bind λc=>
 (if (c.1.E==40) then
  (cJ h (qA.mk c.2 j.TM) (zk.mk 0 false 0 false 0 0)).bind λb=>
  (jO h b.1.TG p i k).bind λd=>
  some ((qA.mk d.2 b.1.TM),(zk.mk d.1.E d.1.Found d.1.Tp b.2.UJ b.2.TS b.2.TT))
 else
  some ((qA.mk c.2 j.TM),c.1)).bind λa=>
 if (a.2.E !=0) then
  some (a.2,a.1)
 else
  (if (p==2) then
   some (p==2)
  else
   if (p==4) then
    some (p==4)
   else
    if (p==0) then
     some a.2.Found
    else
     some false).bind λe=>
  if e then
   (xX h a.1 i).bind λf=>
   some (a.2,f)
  else
   if (p==3) then
    (xD h a.1 i).bind λg=>
    some (a.2,g)
   else
    some (a.2,a.1)
def jG(f:Nat)(c:qm)(p:Int)(a:Int)(b:Int):Option (zk×qm):=
 match c with
 |.inl x=>(jO f x p a b).bind λq=>some (q.1,(.inl q.2))
 |.inr x=>(dY f x p a b).bind λq=>some (q.1,(.inr q.2))
def jJ(g:Nat)(p:zc):Option (bB×Bool×zc):=
 if (((p.Sr).length:Int)==0) then
  some ((bB.mk 0 0 false (zg.mk 0 0 0 0) (zk.mk 0 false 0 false 0 0) ([]:List zt)),false,p)
 else
  (idx p.Sr 0).bind λa=>
  (cut p.Sr 1 (p.Sr.length:Int)).bind λb=>
  if a.TQ then
   (idx p.maps a.Item.Tc).bind λd=>
   (jy d).bind λe=>
   some ({a with To:=a.TJ,Tj:=(zk.mk 0 false 0 false 0 0),Pairs:=e},true,{p with Sr:=b})
  else
   (idx p.maps a.Item.Tc).bind λf=>
   (jG g f a.Item.Op a.Item.Ts a.Item.Tp).bind λc=>
   some ({a with To:=a.TJ,Tj:=c.1,Pairs:=([]:List zt)},true,{p with maps:=(p.maps.set (Int.toNat a.Item.Tc) c.2),Sr:=b})
def cx(p:zc):Option (Int×zc):=
 if decide (((p.Sr).length:Int)>0) then
  some (42,p)
 else
  some (0,{p with Sv:=true})
def cy(k:Nat)(p:za)(i:Int):Option za:=
 (qD p).bind λc=>
 (idx p.Fd (w64 (i-c))).bind λg=>
 (jJ k g).bind λa=>
 if (!a.2.1) then
  (cx a.2.2).bind λh=>
  (room (p.SH.length+([(zd.mk 15 i 0 0 0 0 0 0 0 0 (zg.mk 0 0 0 0) (zk.mk 0 false 0 false 0 0) 0 0)]).length) 176).bind λn=>
  (bm p.SD ([i])).bind λj=>
  some {p with SD:=j.2,Fd:=(p.Fd.set (Int.toNat (w64 (i-c))) h.2),SH:=(p.SH++[(zd.mk 15 i 0 0 0 0 0 0 0 0 (zg.mk 0 0 0 0) (zk.mk 0 false 0 false 0 0) 0 0)])}
 else
  (zW {p with Fd:=(p.Fd.set (Int.toNat (w64 (i-c))) a.2.2)}).bind λl=>
  if decide (a.1.To>=l) then
   (zW {p with Fd:=(p.Fd.set (Int.toNat (w64 (i-c))) a.2.2)}).bind λd=>
   (idx p.LE (w64 (a.1.To-d))).bind λe=>
   (xo e.LT).bind λf=>
   (room (p.SH.length+([(zd.mk 3 i a.1.To 0 a.1.Ug f.2.N 0 0 0 0 a.1.Item a.1.Tj 0 0)]).length) 176).bind λq=>
   some {p with LE:=(p.LE.set (Int.toNat (w64 (a.1.To-d))) {e with Tw:=(some a.1.Tj)}),Fd:=(p.Fd.set (Int.toNat (w64 (i-c))) a.2.2),SH:=(p.SH++[(zd.mk 3 i a.1.To 0 a.1.Ug f.2.N 0 0 0 0 a.1.Item a.1.Tj 0 0)])}
  else
   (idx p.or a.1.To).bind λb=>
   if a.1.TQ then
    (idx b.parts a.1.Ug).bind λv=>
    some {p with or:=(p.or.set (Int.toNat a.1.To) {b with SB:=(w64 (b.SB-1)),parts:=(b.parts.set (Int.toNat a.1.Ug) a.1.Pairs)}),Fd:=(p.Fd.set (Int.toNat (w64 (i-c))) a.2.2)}
   else
    (idx b.Id.Tj a.1.Ug).bind λz=>
    (room (p.SH.length+([(zd.mk 3 i a.1.To b.SO a.1.Ug 0 0 0 0 0 a.1.Item a.1.Tj 0 0)]).length) 176).bind λA=>
    some {p with or:=(p.or.set (Int.toNat a.1.To) {b with SB:=(w64 (b.SB-1)),Id:=(zC.mk b.Id.E b.Id.N (b.Id.Tj.set (Int.toNat a.1.Ug) a.1.Tj) b.Id.Pairs)}),Fd:=(p.Fd.set (Int.toNat (w64 (i-c))) a.2.2),SH:=(p.SH++[(zd.mk 3 i a.1.To b.SO a.1.Ug 0 0 0 0 0 a.1.Item a.1.Tj 0 0)])}
def qe(p:List zB)(a b:Int):Option (List zB):=Mr p a b
abbrev yE:=Unit⊕(Int×zY)
def fm(g:zY)(p:List Int)(a:Nat)(f:Unit->Option yE)(e:Unit):Option yE:=
 (idx p (a:Int)).bind λb=>
 (cut p 0 (a:Int)).bind λc=>
 (qa c b).bind λd=>
 if d then
  some (.inr (2,g))
 else
  f ()
def fq(p:zY)(e:List Int)(a:Nat)(d:Unit->Option yE)(c:Unit):Option yE:=
 (idx e (a:Int)).bind λb=>
 if (!(jA p.held b).isSome) then
  some (.inr (41,p))
 else
  d ()
def ft(p:List Int)(b:Nat)(d:zY->Option zY)(a:zY):Option zY:=
 (idx p (b:Int)).bind λc=>
 d (zY.mk a.maps (mdel a.held c))
def bL(i:zY)(p:List Int):Option (Int×zY):=
 (jM (fm i p) (λ(e:Unit)=>(.inl ())) (p).length 0 ()).bind λa=>match a with
  |.inl f=>
   (jM (fq i p) (λ(g:Unit)=>(.inl ())) (p).length 0 ()).bind λb=>match b with
    |.inl h=>
     (jM (ft p) (λ(c:zY)=>c) (p).length 0 i).bind λd=>
     some (0,d)
    |.inr r=>some r
  |.inr r=>some r
def aI(p:List Int)(f:List Int)(a:Nat)(e:Unit->Option (Unit⊕Int))(d:Unit):Option (Unit⊕Int):=
 (idx p (a:Int)).bind λb=>
 (jj b f).bind λc=>
 if c then
  some (.inr (a:Int))
 else
  e ()
def jz(p:List Int)(d:List Int):Option Int:=
 (jM (aI p d) (λ(b:Unit)=>(.inl ())) (p).length 0 ()).bind λa=>match a with
  |.inl c=>
   some (-1)
  |.inr r=>some r
def xk(p:List Int)(e:((List Int)×Int×Int)->Option ((List Int)×Int))(a:(List Int)×Int×Int):Option ((List Int)×Int):=
 if decide (a.2.2<((a.1).length:Int)) then
  (idx a.1 a.2.2).bind λb=>
  (jj b p).bind λc=>
  if (!c) then
   (idx a.1 a.2.1).bind λd=>
   e ((a.1.set (Int.toNat a.2.1) b),w64 (a.2.1+1),w64 (a.2.2+1))
  else
   e (a.1,a.2.1,w64 (a.2.2+1))
 else
  some (a.1,a.2.1)
def jp(f:Nat)(p:List Int)(e:List Int):Option (List Int):=
 (jz p e).bind λb=>
 if (b==(-1)) then
  some p
 else
  (loop (xk e) f (p,b,w64 (b+1))).bind λa=>
  (cut a.1 a.2 (a.1.length:Int)).bind λc=>
  (cut (a.1.take (Int.toNat a.2)++List.replicate c.length 0) 0 a.2).bind λd=>
  some d
def vu(p:zb)(i:Int)(c:Nat)(h:(List Int)->Option (List Int))(a:(List Int)):Option (List Int):=
 (idx p.waiting (c:Int)).bind λb=>
 (if decide (((a).length:Int)<i) then
  (jA p.SG b).bind λd=>
  (vF p.SC d.Tk).bind λe=>
  some e
 else
  some false).bind λf=>
 if f then
  (room (a.length+([b]).length) 8).bind λg=>
  h (a++[b])
 else
  h a
def vv(c:(List Int))(d:Nat)(f:zb->Option zb)(a:zb):Option zb:=
 (idx c (d:Int)).bind λb=>
 (bL a.TE ([b])).bind λe=>
 f {a with TE:=e.2,SG:=(mdel a.SG b)}
def jY(f:Nat)(p:zb)(g:Int):Option ((List Int)×zb):=
 (jM (vu p g) (λ(c:(List Int))=>c) (p.waiting).length 0 ([]:List Int)).bind λa=>
 (jM (vv a) (λ(d:zb)=>d) (a).length 0 p).bind λb=>
 (jp f b.waiting a).bind λe=>
 some (a,{b with waiting:=e})
def jR(p:za)(b:Int)(c:Int)(d:Int):Option za:=
 (idx p.or b).bind λa=>
 some {p with or:=(p.or.set (Int.toNat b) {a with SB:=0,Id:=(zC.mk d c a.Id.Tj a.Id.Pairs)})}
def qC(p:zw)(a:Int):Option zw:=
 if (p.e==0) then
  some {p with e:=a}
 else
  some p
def gq(i:zw->Option zw)(a:zw):Option zw:=
 if (decide (a.SO<3)&&(a.e==0)) then
  (if decide (a.SO>=((a.b).length:Int)) then
   (qC {a with field:=a.SO} 10).bind λd=>
   some d
  else
   (idx a.b a.SO).bind λf=>
   (uJ (⟨[84,80,1].toArray⟩) a.SO).bind λg=>
   if (f !=g) then
    (qC {a with field:=a.SO} 12).bind λh=>
    some h
   else
    some {a with field:=a.SO}).bind λc=>
  i {c with SO:=(w64 (c.SO+1))}
 else
  some a
def aJ(f:Nat)(p:zw):Option zw:=
 (loop gq f p).bind λa=>
 some a
def wo(p:List Int)(a:Nat)(e:Int->Option (Unit⊕(Int×Int×Int)))(c:Int):Option (Unit⊕(Int×Int×Int)):=
 (idx p (a:Int)).bind λb=>
 if ((((a:Int)==9)&&decide (b>1))||(decide ((a:Int)>0)&&(b==0))) then
  some (.inr (0,0,12))
 else
  (nn (w64 (7*(a:Int)))).bind λd=>
  if decide (b<128) then
   some (.inr (bOr .u64 c (wO .u64 (xW (wN .u8 b 127)) (w64 (7*(a:Int)))),w64 ((a:Int)+1),0))
  else
   e (bOr .u64 c (wO .u64 (xW (wN .u8 b 127)) (w64 (7*(a:Int)))))
def pT(p:List Int):Option (Int×Int×Int):=
 (jM (wo p) (λ(b:Int)=>(.inl ())) (p).length 0 0).bind λa=>match a with
  |.inl c=>
   some (0,0,10)
  |.inr r=>some r
def ja(p:zw)(g:Int)(h:Int):Option (Int×zw):=
 if (p.e !=0) then
  some (0,p)
 else
  (cut p.b p.SO (p.b.length:Int)).bind λc=>
  (pT c).bind λa=>
  if (a.2.2 !=0) then
   (qC (zw.mk p.b (w64 (p.SO+a.2.1)) p.SO p.e) a.2.2).bind λd=>
   some (0,d)
  else
   if decide (a.1>g) then
    (qC (zw.mk p.b (w64 (p.SO+a.2.1)) p.SO p.e) h).bind λf=>
    some (0,f)
   else
    some (w64 a.1,(zw.mk p.b (w64 (p.SO+a.2.1)) p.SO p.e))
def kD(p:List Int):Option (Int×Int×Int):=
 (pT p).bind λa=>
 some (MI .i64 (w64 (iN .u64 a.1 1)) (w64 (0-(w64 (wN .u64 a.1 1)))),a.2.1,a.2.2)
def bC(p:zw):Option (zf×zw):=
 (ja p 22 12).bind λd=>
 (ja d.2 63 12).bind λf=>
 (ja f.2 63 12).bind λg=>
 (ja g.2 63 12).bind λa=>
 if (a.2.e !=0) then
  some ((zf.mk d.1 f.1 g.1 a.1 0),a.2)
 else
  (cut a.2.b a.2.SO (a.2.b.length:Int)).bind λh=>
  (kD h).bind λc=>
  if (c.2.2 !=0) then
   (qC (zw.mk a.2.b (w64 (a.2.SO+c.2.1)) a.2.SO a.2.e) c.2.2).bind λj=>
   some ((zf.mk d.1 f.1 g.1 a.1 c.1),j)
  else
   (fK ([(zf.mk d.1 f.1 g.1 a.1 c.1)])).bind λl=>
   if (!l) then
    (qC (zw.mk a.2.b (w64 (a.2.SO+c.2.1)) p.SO a.2.e) 12).bind λn=>
    some ((zf.mk d.1 f.1 g.1 a.1 c.1),n)
   else
    some ((zf.mk d.1 f.1 g.1 a.1 c.1),(zw.mk a.2.b (w64 (a.2.SO+c.2.1)) a.2.SO a.2.e))
def nK(d:Int×zw)(i:(zw×(List Int)×Int)->Option (zw×(List Int)))(a:zw×(List Int)×Int):Option (zw×(List Int)):=
 if decide (a.2.2<d.1) then
  (ja a.1 3 12).bind λb=>
  (qa a.2.1 b.1).bind λf=>
  (if f then
   (qC b.2 12).bind λg=>
   some g
  else
   some b.2).bind λc=>
  if (c.e !=0) then
   some (c,a.2.1)
  else
   (room (a.2.1.length+([b.1]).length) 8).bind λh=>
   i (c,(a.2.1++[b.1]),w64 (a.2.2+1))
 else
  some (a.1,a.2.1)
def nL(c:Int×zw)(f:(zw×(List zf)×Int)->Option (zw×(List zf)))(a:zw×(List zf)×Int):Option (zw×(List zf)):=
 if (decide (a.2.2<c.1)&&(a.1.e==0)) then
  (bC a.1).bind λb=>
  (room (a.2.1.length+([b.1]).length) 40).bind λd=>
  f (b.2,(a.2.1++[b.1]),w64 (a.2.2+1))
 else
  some (a.1,a.2.1)
def dR(i:Nat)(p:List Int):Option (zD×Int×Int):=
 (aJ i (zw.mk p 0 0 0)).bind λh=>
 (ja h 4 11).bind λf=>
 (loop (nK f) i (f.2,([]:List Int),0)).bind λg=>
 (ja g.1 64 11).bind λc=>
 (if (c.1==0) then
  (qC c.2 12).bind λj=>
  some j
 else
  some c.2).bind λl=>
 (loop (nL c) i (l,([]:List zf),0)).bind λa=>
 (if ((a.1.e==0)&&decide (a.1.SO<((p).length:Int))) then
  (qC (zw.mk a.1.b a.1.SO a.1.SO a.1.e) 13).bind λn=>
  some n
 else
  some a.1).bind λd=>
 if (d.e !=0) then
  some ((zD.mk ([]:List Int) ([]:List zf)),d.field,d.e)
 else
  some ((zD.mk g.2 a.2),0,0)
def fv(p:zY)(h:List Int)(b:Nat)(g:Unit->Option yE)(f:Unit):Option yE:=
 (idx h (b:Int)).bind λa=>
 (if decide (a<0) then
  some true
 else
  if decide (a>=p.maps) then
   some true
  else
   (cut h 0 (b:Int)).bind λc=>
   (qa c a).bind λd=>
   some d).bind λe=>
 if e then
  some (.inr (2,p))
 else
  g ()
def dv(p:zY)(f:Int)(e:List Int):Option (Int×zY):=
 (jM (fv p e) (λ(c:Unit)=>(.inl ())) (e).length 0 ()).bind λa=>match a with
  |.inl d=>
   if (jA p.held f).isSome then
    some (42,p)
   else
    (je e).bind λb=>
    some (0,(zY.mk p.maps (mput p.held f b)))
  |.inr r=>some r
abbrev yF:=Int×Int×zb
def vY(p:zb)(a:zD×Int×Int)(b:Nat)(e:Unit->Option (Unit⊕yF))(d:Unit):Option (Unit⊕yF):=
 (idx a.1.Maps (b:Int)).bind λc=>
 if decide (c>=p.maps) then
  some (.inr (0,41,p))
 else
  e ()
def jr(g:Nat)(p:zb)(h:List Int):Option yF:=
 (dR g h).bind λa=>
 if (a.2.2 !=0) then
  some (0,a.2.2,p)
 else
  (vr g a.1).bind λb=>
  if (b.2 !=0) then
   some (0,b.2,p)
  else
   (jM (vY p a) (λ(e:Unit)=>(.inl ())) (a.1.Maps).length 0 ()).bind λc=>match c with
    |.inl f=>
     if decide ((p.SG.length:Int)>=16) then
      some (0,40,p)
     else
      (dv p.TE (w64 (p.Ta+1)) a.1.Maps).bind λd=>
      some (w64 (p.Ta+1),0,{p with TE:=d.2,Ta:=(w64 (p.Ta+1)),SG:=(mput p.SG (w64 (p.Ta+1)) (zU.mk a.1 0))})
    |.inr r=>some r
def ay(p:xA):Option (Int×xA):=
 some (w64 (p.last+1),(xA.mk (w64 (p.last+1))))
def bu(p:xA):Option Int:=
 some p.last
def xr(p:zx)(d:Int)(e:Int):Option (Int×Int×zx):=
 (ay p.SU).bind λa=>
 (idx p.Sz d).bind λc=>
 (bu a.2).bind λb=>
 some (b,0,(zx.mk a.2 (p.Sz.set (Int.toNat d) (xe.mk a.1 e))))
def vS(p:zx)(d:Int)(e:Int):Option (Int×Int×zx):=
 (jg p d).bind λb=>
 if (!b) then
  some (0,2,p)
 else
  (jh p d).bind λc=>
  if c then
   some (0,42,p)
  else
   (xr p d e).bind λa=>
   some (a.1,a.2.1,a.2.2)
def jB(p:zb)(c:Int)(d:Int):Option yF:=
 if decide (c<0) then
  some (0,2,p)
 else
  if decide (c>=p.Sz) then
   some (0,2,p)
  else
   if (jA p.SG d).isSome then
    (jA p.SG d).bind λb=>
    if (!(b.Tk==0)) then
     some (0,41,p)
    else
     (vS p.SF c d).bind λa=>
     some (a.1,a.2.1,{p with SF:=a.2.2})
   else
    some (0,41,p)
def xt(p:za)(e:zB)(g:Int)(f:Int)(h:Int):Option za:=
 (if (h==0) then
  (qG p).bind λa=>
  (room (p.SH.length+([(zd.mk 11 a 0 0 0 0 e.cmd.SS g f 0 (zg.mk 0 0 0 0) (zk.mk 0 false 0 false 0 0) 0 0)]).length) 176).bind λd=>
  some {p with SH:=(p.SH++[(zd.mk 11 a 0 0 0 0 e.cmd.SS g f 0 (zg.mk 0 0 0 0) (zk.mk 0 false 0 false 0 0) 0 0)])}
 else
  some p).bind λb=>
 (jR b e.SR f h).bind λc=>
 some c
def bD(p:zx)(d:Int)(e:Int):Option (Int×Int×zx):=
 (jg p d).bind λb=>
 if (!b) then
  some (0,2,p)
 else
  (jh p d).bind λc=>
  if (!c) then
   some (0,41,p)
  else
   (xr p d e).bind λa=>
   some (a.1,a.2.1,a.2.2)
def jQ(p:zb)(c:Int)(d:Int):Option yF:=
 if decide (c<0) then
  some (0,2,p)
 else
  if decide (c>=p.Sz) then
   some (0,2,p)
  else
   if (jA p.SG d).isSome then
    (jA p.SG d).bind λb=>
    if (!(b.Tk==0)) then
     some (0,41,p)
    else
     (bD p.SF c d).bind λa=>
     some (a.1,a.2.1,{p with SF:=a.2.2})
   else
    some (0,41,p)
def fN(p:zx)(i:List Int)(a:Nat)(h:Unit->Option (Unit⊕(Int×zx)))(g:Unit):Option (Unit⊕(Int×zx)):=
 (idx i (a:Int)).bind λb=>
 ((jg p b).bind λc=>
 if (!c) then
  some true
 else
  (cut i 0 (a:Int)).bind λd=>
  (qa d b).bind λe=>
  some e).bind λf=>
 if f then
  some (.inr (2,p))
 else
  h ()
def fP(p:zx)(f:List Int)(a:Nat)(e:Unit->Option (Unit⊕(Int×zx)))(d:Unit):Option (Unit⊕(Int×zx)):=
 (idx f (a:Int)).bind λb=>
 (jh p b).bind λc=>
 if (!c) then
  some (.inr (41,p))
 else
  e ()
def fQ(p:List Int)(c:Nat)(e:zx->Option zx)(a:zx):Option zx:=
 (idx p (c:Int)).bind λb=>
 (idx a.Sz b).bind λd=>
 e (zx.mk a.SU (a.Sz.set (Int.toNat b) (xe.mk 0 0)))
def xJ(i:zx)(p:List Int):Option (Int×zx):=
 (jM (fN i p) (λ(e:Unit)=>(.inl ())) (p).length 0 ()).bind λa=>match a with
  |.inl f=>
   (jM (fP i p) (λ(g:Unit)=>(.inl ())) (p).length 0 ()).bind λb=>match b with
    |.inl h=>
     (jM (fQ p) (λ(c:zx)=>c) (p).length 0 i).bind λd=>
     some (0,d)
    |.inr r=>some r
  |.inr r=>some r
def gr(p:zx)(h:List Int)(a:Nat)(g:(List Int)->Option (List Int))(b:(List Int)):Option (List Int):=
 (idx p.Sz (a:Int)).bind λc=>
 (if decide (c.SL>0) then
  (qa h c.prog).bind λd=>
  some d
 else
  some false).bind λe=>
 if e then
  (room (b.length+([(a:Int)]).length) 8).bind λf=>
  g (b++[(a:Int)])
 else
  g b
def aK(p:zx)(c:List Int):Option (List Int):=
 (jM (gr p c) (λ(a:(List Int))=>a) (p.Sz).length 0 ([]:List Int)).bind λb=>
 some b
def vw(p:zE):Option (Int×zE):=
 some (w64 (p.TR+1),(zE.mk (w64 (p.TR+1)) p.in_))
def qS(p:zb)(e:Int):Option yF:=
 if (!(jA p.SG e).isSome) then
  some (0,41,p)
 else
  (jA p.SG e).bind λb=>
  if decide (b.Tk>0) then
   some (0,42,p)
  else
   (aK p.SF ([e])).bind λc=>
   if decide (((c).length:Int)>0) then
    some (0,42,p)
   else
    (vw p.SC).bind λa=>
    (room (p.waiting.length+([e]).length) 8).bind λd=>
    some (a.1,0,{p with SC:=a.2,SG:=(uI p.SG e (zU.mk b.module a.1)),waiting:=(p.waiting++[e])})
def qv(p:List zZ):Option (List zZ):=
 (room (([]:List zZ).length+p.length) 24).bind λa=>
 some (([]:List zZ)++p)
def dw(p:zr)(g:zJ):Option ((List zZ)×zr):=
 (qv p.waiting).bind λa=>
 some (a,(zr.mk p.room true ([]:List zZ) (zT.mk p.Sj.SZ p.Sj.TB p.Sj.TC (w64 (p.Sj.Tf+((p.waiting).length:Int))) p.Sj.Tx)))
def de(p:za)(j:zB)(a:Nat)(f:(List zr)×(List zd))(c:(List zZ)×zr)(g:Nat)(i:(List zd)->Option (List zd))(b:(List zd)):Option (List zd):=
 (idx c.1 (g:Int)).bind λd=>
 (qG {p with rings:=(f.1.set (Int.toNat (a:Int)) c.2),Sy:=j.SR,Sk:=true,SH:=b}).bind λe=>
 (room (b.length+([(zd.mk 10 e 0 0 0 d.N (a:Int) 0 0 0 (zg.mk 0 0 0 0) (zk.mk 0 false 0 false 0 0) 0 0)]).length) 176).bind λh=>
 i (b++[(zd.mk 10 e 0 0 0 d.N (a:Int) 0 0 0 (zg.mk 0 0 0 0) (zk.mk 0 false 0 false 0 0) 0 0)])
def df(p:za)(h:zB)(b:Nat)(g:((List zr)×(List zd))->Option za)(a:(List zr)×(List zd)):Option za:=
 (idx a.1 (b:Int)).bind λd=>
 (dw d p.Ti).bind λc=>
 (jM (de p h b a c) (λ(e:(List zd))=>e) (c.1).length 0 a.2).bind λf=>
 g ((a.1.set (Int.toNat (b:Int)) c.2),f)
def cL(k:Nat)(p:za)(i:zB):Option za:=
 if (i.cmd.Sm==4) then
  (jr k p.Fn i.cmd.SM).bind λa=>
  (if (a.2.1==0) then
   (qG {p with Fn:=a.2.2}).bind λf=>
   (room (p.SH.length+([(zd.mk 12 f 0 0 0 0 0 a.1 0 0 (zg.mk 0 0 0 0) (zk.mk 0 false 0 false 0 0) 0 0)]).length) 176).bind λB=>
   some {p with Fn:=a.2.2,SH:=(p.SH++[(zd.mk 12 f 0 0 0 0 0 a.1 0 0 (zg.mk 0 0 0 0) (zk.mk 0 false 0 false 0 0) 0 0)])}
  else
   some {p with Fn:=a.2.2}).bind λl=>
  (jR l i.SR a.1 a.2.1).bind λn=>
  some n
 else
  if (i.cmd.Sm==5) then
   (jB p.Fn i.cmd.SS i.cmd.Tu).bind λd=>
   (xt {p with Fn:=d.2.2} i i.cmd.Tu d.1 d.2.1).bind λq=>
   some q
  else
   if (i.cmd.Sm==6) then
    (jQ p.Fn i.cmd.SS i.cmd.Tu).bind λe=>
    (xt {p with Fn:=e.2.2} i i.cmd.Tu e.1 e.2.1).bind λv=>
    some v
   else
    if (i.cmd.Sm==7) then
     (xJ p.Fn.SF ([i.cmd.SS])).bind λg=>
     (xt {p with Fn:=(zb.mk g.2 p.Fn.TE p.Fn.SC p.Fn.Sz p.Fn.maps p.Fn.Ta p.Fn.SG p.Fn.waiting)} i 0 0 g.1).bind λz=>
     some z
    else
     if (i.cmd.Sm==8) then
      (qS p.Fn i.cmd.Tu).bind λb=>
      if (b.2.1 !=0) then
       (jR {p with Fn:=b.2.2} i.SR 0 b.2.1).bind λA=>
       some A
      else
       (room (p.held.length+([{i with TX:=b.1}]).length) 144).bind λC=>
       some {p with Fn:=b.2.2,held:=(p.held++[{i with TX:=b.1}])}
     else
      if (i.cmd.Sm==9) then
       (room (p.held.length+([i]).length) 144).bind λD=>
       some {p with held:=(p.held++[i])}
      else
       if (i.cmd.Sm==10) then
        (jM (df p i) (λ(h:(List zr)×(List zd))=>{p with rings:=h.1,Sy:=i.SR,Sk:=true,SH:=h.2}) (p.rings).length 0 (p.rings,p.SH)).bind λc=>
        (qG c).bind λj=>
        (room (c.SH.length+([(zd.mk 14 j 0 0 0 0 0 0 0 0 (zg.mk 0 0 0 0) (zk.mk 0 false 0 false 0 0) 0 0)]).length) 176).bind λE=>
        some {c with SH:=(c.SH++[(zd.mk 14 j 0 0 0 0 0 0 0 0 (zg.mk 0 0 0 0) (zk.mk 0 false 0 false 0 0) 0 0)])}
       else
        some p
def dx(i:Nat)(p:za):Option za:=
 (xg p).bind λb=>
 if decide (b>=0) then
  (idx p.held b).bind λc=>
  (qe p.held b (w64 (b+1))).bind λd=>
  (if (c.cmd.Sm==8) then
   (jY i p.Fn 1).bind λf=>
   (qG {p with Fn:=f.2,held:=d}).bind λg=>
   (room (p.SH.length+([(zd.mk 13 g 0 0 0 0 0 c.cmd.Tu 0 0 (zg.mk 0 0 0 0) (zk.mk 0 false 0 false 0 0) 0 0)]).length) 176).bind λA=>
   some {p with Fn:=f.2,held:=d,SH:=(p.SH++[(zd.mk 13 g 0 0 0 0 0 c.cmd.Tu 0 0 (zg.mk 0 0 0 0) (zk.mk 0 false 0 false 0 0) 0 0)])}
  else
   some {p with held:=d}).bind λl=>
  (jR l c.SR 0 0).bind λn=>
  some n
 else
  if (((p.Sr).length:Int)==0) then
   (jR {p with over:=true} p.Sy 0 0).bind λa=>
   (qG a).bind λe=>
   (room (a.SH.length+([(zd.mk 15 e 0 0 0 0 0 0 0 0 (zg.mk 0 0 0 0) (zk.mk 0 false 0 false 0 0) 0 0)]).length) 176).bind λB=>
   (bm a.SD ([e])).bind λq=>
   some {a with SD:=q.2,SH:=(a.SH++[(zd.mk 15 e 0 0 0 0 0 0 0 0 (zg.mk 0 0 0 0) (zk.mk 0 false 0 false 0 0) 0 0)])}
  else
   (idx p.Sr 0).bind λh=>
   (cut p.Sr 1 (p.Sr.length:Int)).bind λj=>
   if p.Sk then
    (jR {p with Sr:=j} h.SR 0 43).bind λv=>
    some v
   else
    (cL i {p with Sr:=j} h).bind λz=>
    some z
def vZ(j:Nat)(h:za)(p:Int)(i:Bool):Option (Int×Bool×za):=
 if (!i) then
  some (p,i,h)
 else
  (zW h).bind λa=>
  if decide (p<a) then
   (xO h p).bind λb=>
   some (p,i,b)
  else
   (qD h).bind λc=>
   if decide (p<c) then
    (du j h p).bind λd=>
    some (p,i,d)
   else
    (qG h).bind λe=>
    if decide (p<e) then
     (cy j h p).bind λf=>
     some (p,i,f)
    else
     (dx j h).bind λg=>
     some (p,i,g)
def aa(f:Nat)(p:za)(d:Int):Option (Int×Bool×za):=
 (vh p).bind λc=>
 (dt c.SD d).bind λa=>
 (vZ f {c with SD:=a.2.2} a.1 a.2.1).bind λb=>
 some (b.1,b.2.1,b.2.2)
def fw(p:zo)(c:(List Int))(d:Nat)(h:(Int×Bool)->Option (Int×Bool))(a:Int×Bool):Option (Int×Bool):=
 (idx c (d:Int)).bind λb=>
 (if (!a.2) then
  some true
 else
  (idx p.Sn b).bind λe=>
  (idx p.Sn a.1).bind λf=>
  some (decide (e.TN<f.TN))).bind λg=>
 if g then
  h (b,true)
 else
  h (a.1,a.2)
def dy(p:zo):Option (Int×Bool×zo):=
 (aG p).bind λb=>
 (jM (fw p b) (λ(c:Int×Bool)=>(c.1,c.2)) (b).length 0 (0,false)).bind λd=>
 if (!d.2) then
  some (0,false,p)
 else
  (vX p d.1).bind λa=>
  some (a.1,a.2.1,a.2.2)
def dz(f:Nat)(p:za):Option (Int×Bool×za):=
 (vh p).bind λc=>
 (dy c.SD).bind λa=>
 (vZ f {c with SD:=a.2.2} a.1 a.2.1).bind λb=>
 some (b.1,b.2.1,b.2.2)
def dF(f:Nat)(p:List Int)(a:Nat)(e:za->Option za)(b:za):Option za:=
 (idx p (a:Int)).bind λc=>
 (aa f b c).bind λd=>
 e d.2.2
def vJ(f:Nat)(c:(za×Bool)->Option za)(a:za×Bool):Option za:=
 if a.2 then
  (dz f a.1).bind λb=>
  c (b.2.2,b.2.1)
 else
  some a.1
def cM(f:Nat)(p:za)(g:List Int):Option (Int×za):=
 (bY p.SD).bind λb=>
 (jM (dF f g) (λ(c:za)=>c) (g).length 0 p).bind λd=>
 (loop (vJ f) f (d,true)).bind λa=>
 (bY a.SD).bind λe=>
 some (w64 (e-b),a)
def qb(p:List zk):Option (List zk):=
 (room (([]:List zk).length+p.length) 48).bind λa=>
 some (([]:List zk)++p)
def aL(b:za)(p:Int):Option (List zC):=
 if decide (p<0)||decide (p>=(b.or.length:Int)) then some [] else
 (idx b.or p).bind λc=>(room (0+c.SE.length) 64).bind λ_=>(c.SE.foldlM (λ(_:Unit)a=>(qb a.Tj).bind λ_=>(zN a.Pairs).bind λ_=>some ()) ()).bind λ_=>some c.SE
def hZ(p:zo):Option (List Int):=
 (dV p 2).bind λa=>
 some a
def ic(p:za):Option (List Int):=
 (hZ p.SD).bind λa=>
 some a
def qx(p:List zd):Option (List zd):=
 (room (([]:List zd).length+p.length) 176).bind λa=>
 some (([]:List zd)++p)
def cO(p:za):Option (List zd):=
 (qx p.SH).bind λa=>
 some a
def ie :Option zH:=
 some (zH.mk 1 1 1 1 ([(jL.mk 0 2)]))
def uR(c:zR)(a:Nat)(g:(List zM)->Option (List zM))(b:(List zM)):Option (List zM):=
 (ain 4 (a:Int)).bind λd=>
 (idx b (a:Int)).bind λe=>
 (mw ([e,(c.Sz d)])).bind λf=>
 g (b.set (Int.toNat (a:Int)) f)
def uS(p:List zR)(a:Nat)(f:(List zM)->Option (List zM))(b:(List zM)):Option (List zM):=
 (idx p (a:Int)).bind λc=>
 (jM (uR c) (λ(d:(List zM))=>d) 4 0 b).bind λe=>
 f e
def lA(p:List zR):Option (List zM):=
 (mkLen 4 40).bind λa=>
 (jM (uS p) (λ(b:(List zM))=>b) (p).length 0 (List.replicate a (zM.mk 0 0 0 0 0))).bind λc=>
 some c
def aM(p:za):Option (List zM):=
 (room p.LE.length 8).bind λc=>
 (lA (p.LE.map λ(x:zz)=>x.LT.Tz)).bind λa=>
 (cut a 0 (p.rings.length:Int)).bind λb=>
 some b
def eB(i:Nat) :Option Bool:=
 ie.bind λh=>
 (ep i h ([[(zO.mk 4 (zg.mk 0 0 0 0) ([]:List zg) 0 0 0 (qt.mk 0 0) ([84,80,1,0,2,0,0,0,8,10,22,0,0,0,0]:List Int)),(zO.mk 5 (zg.mk 0 0 0 0) ([]:List zg) 0 0 1 (qt.mk 0 0) ([]:List Int)),(zO.mk 3 (zg.mk 0 0 0 0) ([]:List zg) 0 0 0 (qt.mk 0 0) ([]:List Int)),(zO.mk 9 (zg.mk 0 0 0 0) ([]:List zg) 0 0 0 (qt.mk 0 0) ([]:List Int)),(zO.mk 0 (zg.mk 0 2 1 2) ([]:List zg) 0 0 0 (qt.mk 0 0) ([]:List Int)),(zO.mk 10 (zg.mk 0 0 0 0) ([]:List zg) 0 0 0 (qt.mk 0 0) ([]:List Int))]])).bind λc=>
 vT c.1
  (some false)
  (λd=>
  (if (c.2 !=0) then
   some (d,true)
  else
   (cM i d ([]:List Int)).bind λe=>
   some (e.2,(e.1==0))).bind λa=>
  if a.2 then
   some false
  else
   (aL a.1 0).bind λb=>
   (aM a.1).bind λf=>
   (hY a.1 0).bind λj=>
   (if (((b).length:Int)==6) then
    (idx b 0).bind λl=>
    if (l.N==1) then
     (idx b 2).bind λn=>
     if (n.N==1) then
      (idx b 5).bind λq=>
      if (q.E==0) then
       if (((f).length:Int)==1) then
        (idx f 0).bind λg=>
        if (g.Up==1) then
         if (g.Sum==5) then
          if (((j.1).length:Int)==1) then
           (ic a.1).bind λv=>
           some (((v).length:Int)==3)
          else
           some false
         else
          some false
        else
         some false
       else
        some false
      else
       some false
     else
      some false
    else
     some false
   else
    some false).bind λz=>
   some z)
def bM(f:Nat)(p:qZ):Option ((Option za)×Bool):=
 (ep f p.C p.Tl).bind λa=>
 vT a.1
  (some (none,(true==(a.2 !=0))))
  (λb=>
  some ((some b),(false==(a.2 !=0))))
def eC(p:za)(c:Nat)(f:(List zT)->Option (List zT))(a:(List zT)):Option (List zT):=
 (idx p.rings (c:Int)).bind λd=>
 (xM d).bind λb=>
 (room (a.length+([b]).length) 40).bind λe=>
 f (a++[b])
def aN(p:za):Option (List zT):=
 ((room (p.rings).length 1).bind λc=>
 jM (eC p) (λ(a:(List zT))=>a) (p.rings).length 0 ([]:List zT)).bind λb=>
 some b
def eD(p:za)(a:Nat)(d:Unit->Option (Unit⊕Bool))(c:Unit):Option (Unit⊕Bool):=
 (idx p.or (a:Int)).bind λb=>
 if b.waits then
  some (.inr false)
 else
  d ()
def xE(p:za):Option Bool:=
 ((room (p.or).length 1).bind λc=>
 jM (eD p) (λ(d:Unit)=>(.inl ())) (p.or).length 0 ()).bind λa=>match a with
  |.inl e=>
   (vf p).bind λb=>
   some b
  |.inr r=>some r
abbrev yC:=List (List Int)
def dh(p:Int)(d:(yC×Int)->Option yC)(a:yC×Int):Option yC:=
 if decide (a.2<p) then
  (mkLen 4 8).bind λb=>
  (idx a.1 a.2).bind λc=>
  d ((a.1.set (Int.toNat a.2) (List.replicate b 0)),w64 (a.2+1))
 else
  some a.1
def di(p:List zd)(i:Int)(e:Nat)(h:yC->Option (yC⊕(yC×Bool)))(b:yC):Option (yC⊕(yC×Bool)):=
 (idx p (e:Int)).bind λa=>
 (if (a.TO==4) then
  some 0
 else
  if (a.TO==5) then
   some 1
  else
   if (a.TO==10) then
    some 2
   else
    if (a.TO==9) then
     some 3
    else
     some (-1)).bind λc=>
 if decide (c<0) then
  h b
 else
  (if decide (a.SS<0) then
   some true
  else
   some (decide (a.SS>=i))).bind λf=>
  if f then
   some (.inr (([]:List (List Int)),false))
  else
   (idx b a.SS).bind λd=>
   (idx d c).bind λg=>
   h (b.set (Int.toNat a.SS) (d.set (Int.toNat c) (w64 (g+1))))
def xu(g:Nat)(f:List zd)(p:Int):Option (yC×Bool):=
 (mkLen p 24).bind λa=>
 (loop (dh p) g ((List.replicate a []),0)).bind λb=>
 (jM (di f p) (λ(c:yC)=>(.inl c)) (f).length 0 b).bind λd=>match d with
  |.inl e=>
   some (e,true)
  |.inr r=>some r
def aO(p:qZ)(e:za)(d:yC×Bool)(f:(List zT))(b:Nat)(i:Unit->Option (Unit⊕Bool))(A:Unit):Option (Unit⊕Bool):=
 (idx f (b:Int)).bind λa=>
 ((idx d.1 (b:Int)).bind λc=>
 (idx c 0).bind λg=>
 if (a.SZ !=g) then
  some true
 else
  (idx c 1).bind λh=>
  if (a.TC !=h) then
   some true
  else
   (idx c 2).bind λj=>
   if (a.Tf !=j) then
    some true
   else
    if (a.SZ !=(w64 ((w64 (a.TC+a.Tf))+a.Tx))) then
     some true
    else
     some (decide (a.Tx>p.C.Td))).bind λl=>
 if l then
  some (.inr false)
 else
  ((xE e).bind λn=>
  if n then
   (idx d.1 (b:Int)).bind λq=>
   (idx q 3).bind λv=>
   some (v !=a.TC)
  else
   some false).bind λz=>
  if z then
   some (.inr false)
  else
   i ()
def aP(k:Nat)(p:qZ)(i:(za×Int)->Option (za⊕Bool))(a:za×Int):Option (za⊕Bool):=
 if (decide (a.2<=((p.Th).length:Int))&&decide (a.2<600)) then
  (if decide (a.2<((p.Th).length:Int)) then
   (idx p.Th a.2).bind λe=>
   (aa k a.1 e).bind λf=>
   some f.2.2
  else
   some a.1).bind λb=>
  (if ((a.2.tmod 5) !=0) then
   (xE b).bind λg=>
   if (!g) then
    some (decide (a.2<((p.Th).length:Int)))
   else
    some false
  else
   some false).bind λh=>
  if h then
   i (b,w64 (a.2+1))
  else
   (cO b).bind λj=>
   (xu k j p.C.SA).bind λd=>
   (aN b).bind λc=>
   if ((!d.2)||(((c).length:Int) !=p.C.SA)) then
    some (.inr false)
   else
    (jM (aO p b d c) (λ(n:Unit)=>(.inl ())) (c).length 0 ()).bind λl=>match l with
     |.inl q=>
      i (b,w64 (a.2+1))
     |.inr r=>some (.inr r)
 else
  some (.inl a.1)
def aQ(c:yC×Bool)(d:(List zT))(b:Nat)(i:Unit->Option (Unit⊕Bool))(h:Unit):Option (Unit⊕Bool):=
 ((idx d (b:Int)).bind λa=>
 if (a.Tx !=0) then
  some true
 else
  (idx c.1 (b:Int)).bind λe=>
  (idx e 3).bind λf=>
  some (a.SZ !=(w64 (f+a.Tf)))).bind λg=>
 if g then
  some (.inr false)
 else
  i ()
def jZ(i:Nat)(p:qZ):Option Bool:=
 (eB i).bind λe=>
 if (!e) then
  some false
 else
  (bM i p).bind λa=>
  vT a.1
   (some a.2)
   (λf=>
   if (!a.2) then
    some a.2
   else
    (loop (aP i p) i (f,0)).bind λg=>match g with
     |.inl h=>
      (cM i h ([]:List Int)).bind λb=>
      (cO b.2).bind λj=>
      (xu i j p.C.SA).bind λd=>
      (aN b.2).bind λc=>
      (if (!d.2) then
       some true
      else
       if (((c).length:Int) !=p.C.SA) then
        some true
       else
        (xE b.2).bind λl=>
        some (!l)).bind λn=>
      if n then
       some false
      else
       (jM (aQ d c) (λ(v:Unit)=>(.inl ())) (c).length 0 ()).bind λq=>match q with
        |.inl z=>
         some true
        |.inr r=>some r
     |.inr r=>some r)
end Go.Proofs.YtplmgfkghomelaaGreatDoor
