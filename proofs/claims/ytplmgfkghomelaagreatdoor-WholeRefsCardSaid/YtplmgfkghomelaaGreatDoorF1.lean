/- Lemmas. -/
import Derived.Test.YtplmgfkghomelaaGreatDoorIns
set_option linter.all false
namespace Go.Proofs.YtplmgfkghomelaaGreatDoor
open Go.Sx
structure zG where
 Vs:Int
 in_:List Int
def B6:Rp (List Int):=nF 3 (zu .i64) 1 (λ_=>rfl) (by decide)
def py:Rp zG:=qv (λ(x:zG)v=>[.int .i64 x.Vs,v.getD 0 undef]) 2 (λ_ _=>rfl) (λx=>x.in_) (B6)
def fb:Rp zG:=vu 231 py
structure qr where
 A:Int
 B:Int
def pz(x:qr):List Value:=[.int .u64 x.A,.int .u64 x.B]
structure qa where
 N:Int
 Uv:qr
def xG(x:qa):List Value:=[.int .i64 x.N,.int .u64 x.Uv.A,.int .u64 x.Uv.B]
structure xH where
 US:Int
 Ve:Int
 Vz:Int
 Vb:Int
 Vi:Int
structure zp where
 room:Int
 Vj:Bool
 waiting:List qa
 counts:xH
def Qt:Rp (List qa):=nF 193 (xG) 3 (λ_=>rfl) (by decide)
def sN(f:Value):Rp zp:=qv (λ(x:zp)v=>[f,.int .i64 x.room,.bool x.Vj,v.getD 0 undef,.int .i64 x.counts.US,.int .i64 x.counts.Ve,.int .i64 x.counts.Vz,.int .i64 x.counts.Vb,.int .i64 x.counts.Vi]) 9 (λ_ _=>rfl) (λx=>x.waiting) (Qt)
def de(f:Value):Rp zp:=vu 178 (sN f)
structure xI where
 last:Int
structure xk where
 Ux:Int
 prog:Int
def hY(x:xk):List Value:=[.int .i64 x.Ux,.int .i64 x.prog]
structure zC where
 UB:xI
 Uk:List xk
structure zR where
 maps:Int
 held:List (Int×(List Int))
structure zf where
 Op:Int
 D:Int
 A:Int
 B:Int
 UN:Int
def qd(x:zf):List Value:=[.int .i64 x.Op,.int .i64 x.D,.int .i64 x.A,.int .i64 x.B,.int .i64 x.UN]
structure zE where
 Maps:List Int
 Code:List zf
structure zS where
 module:zE
 UD:Int
structure zb where
 Us:zC
 UY:zR
 Uo:zG
 Uk:Int
 maps:Int
 given:Int
 Uj:List (Int×zS)
 waiting:List Int
structure qn where
 Ua:Int
 Vo:Int
def pA(x:qn):List Value:=[.int .i64 x.Ua,.int .i64 x.Vo]
structure zn where
 Ub:List qn
 LT:Int
structure jM where
 TY:Int
 Wo:Int
def xj(x:jM):List Value:=[.int .i64 x.TY,.int .i64 x.Wo]
structure zH where
 Uc:Int
 Ui:Int
 Up:Int
 UT:Int
 Maps:List jM
structure zg where
 UI:Int
 Op:Int
 UV:Int
 UQ:Int
def qh(x:zg):List Value:=[.int .i64 x.UI,.int .i64 x.Op,.int .u64 x.UV,.int .u64 x.UQ]
structure zF where
 TY:Int
 Item:zg
 UC:List zg
 UI:Int
 UF:Int
 UA:Int
 Uv:qr
 Uq:List Int
structure zk where
 E:Int
 Found:Bool
 UQ:Int
 Wt:Bool
 Vx:Int
 Vy:Int
def qc(x:zk):List Value:=[.int .i64 x.E,.bool x.Found,.int .u64 x.UQ,.bool x.Wt,.int .u64 x.Vx,.int .u64 x.Vy]
structure zr where
 UV:Int
 UQ:Int
def zN(x:zr):List Value:=[.int .u64 x.UV,.int .u64 x.UQ]
structure zy where
 E:Int
 N:Int
 UJ:List zk
 Pairs:List zr
structure zd where
 Uf:List zF
 Uw:Int
 waits:Bool
 Ul:Int
 Id:zy
 parts:List (List zr)
 Ud:List zy
structure qP where
 Uu:Nat->Int
structure jp where
 counts:Nat->Int
structure zm where
 UU:qP
 Uz:jp
def xv(x:zm):List Value:=[.int .u64 (x.UU.Uu 0),.int .u64 (x.UU.Uu 1),.int .u64 (x.UU.Uu 2),.int .u64 (x.UU.Uu 3),.int .u64 (x.UU.Uu 4),.int .u64 (x.UU.Uu 5),.int .u64 (x.UU.Uu 6),.int .u64 (x.UU.Uu 7),.int .u64 (x.UU.Uu 8),.int .u64 (x.UU.Uu 9),.int .u64 (x.UU.Uu 10),.int .u64 (x.UU.Uu 11),.int .u64 (x.UU.Uu 12),.int .u64 (x.UU.Uu 13),.int .u64 (x.UU.Uu 14),.int .u64 (x.UU.Uu 15),.int .u64 (x.Uz.counts 0),.int .u64 (x.Uz.counts 1),.int .u64 (x.Uz.counts 2),.int .u64 (x.Uz.counts 3),.int .u64 (x.Uz.counts 4),.int .u64 (x.Uz.counts 5),.int .u64 (x.Uz.counts 6),.int .u64 (x.Uz.counts 7),.int .u64 (x.Uz.counts 8),.int .u64 (x.Uz.counts 9),.int .u64 (x.Uz.counts 10),.int .u64 (x.Uz.counts 11),.int .u64 (x.Uz.counts 12),.int .u64 (x.Uz.counts 13),.int .u64 (x.Uz.counts 14),.int .u64 (x.Uz.counts 15)]
structure zP where
 VW:Int
 Vp:Int
 VD:Int
 Calls:Int
 Sum:Int
def qY(x:zP):List Value:=[.int .u64 x.VW,.int .u64 x.Vp,.int .u64 x.VD,.int .u64 x.Calls,.int .u64 x.Sum]
structure zU where
 Uk:Nat->zP
def eD(x:zU):List Value:=[.int .u64 (x.Uk 0).VW,.int .u64 (x.Uk 0).Vp,.int .u64 (x.Uk 0).VD,.int .u64 (x.Uk 0).Calls,.int .u64 (x.Uk 0).Sum,.int .u64 (x.Uk 1).VW,.int .u64 (x.Uk 1).Vp,.int .u64 (x.Uk 1).VD,.int .u64 (x.Uk 1).Calls,.int .u64 (x.Uk 1).Sum,.int .u64 (x.Uk 2).VW,.int .u64 (x.Uk 2).Vp,.int .u64 (x.Uk 2).VD,.int .u64 (x.Uk 2).Calls,.int .u64 (x.Uk 2).Sum,.int .u64 (x.Uk 3).VW,.int .u64 (x.Uk 3).Vp,.int .u64 (x.Uk 3).VD,.int .u64 (x.Uk 3).Calls,.int .u64 (x.Uk 3).Sum]
structure zt where
 Uv:qr
 module:zE
 regs:Nat->Int
 LT:Nat->Int
 Uw:Int
 steps:Int
 state:Int
structure bI where
 hook:Int
 UK:qa
 Ux:Int
 prog:Int
 calls:Int
 VK:Option zt
structure zl where
 UM:zm
 Vh:zU
 Ua:Int
 UE:bI
structure zA where
 TX:zl
 UH:Int
 pc:Int
 Va:Option zk
 Ue:Bool
structure qo where
 cap:Int
 Ug:List zr
structure qB where
 Vl:qo
 Vr:List Int
abbrev qm:Type:=qo⊕qB
structure zq where
 Vf:Int
 VN:Int
 Vw:Bool
 Item:zg
def qL(x:zq):List Value:=[.int .i64 x.Vf,.int .i64 x.VN,.bool x.Vw,.int .i64 x.Item.UI,.int .i64 x.Item.Op,.int .u64 x.Item.UV,.int .u64 x.Item.UQ]
structure zc where
 Vu:Int
 UX:Int
 maps:List qm
 TZ:List zq
 Ue:Bool
structure zx where
 Ut:Int
 cmd:zF
 Vt:Int
structure ze where
 UW:Int
 Wz:Int
 Vf:Int
 WO:Int
 VN:Int
 Uv:Int
 UF:Int
 UA:Int
 WA:Int
 Pc:Int
 Item:zg
 UJ:zk
 UQ:Int
 E:Int
def zJ(x:ze):List Value:=[.int .i64 x.UW,.int .i64 x.Wz,.int .i64 x.Vf,.int .i64 x.WO,.int .i64 x.VN,.int .i64 x.Uv,.int .i64 x.UF,.int .i64 x.UA,.int .i64 x.WA,.int .i64 x.Pc,.int .i64 x.Item.UI,.int .i64 x.Item.Op,.int .u64 x.Item.UV,.int .u64 x.Item.UQ,.int .i64 x.UJ.E,.bool x.UJ.Found,.int .u64 x.UJ.UQ,.bool x.UJ.Wt,.int .u64 x.UJ.Vx,.int .u64 x.UJ.Vy,.int .u64 x.UQ,.int .i64 x.E]
structure zL where
 last:Int
def dN(x:zL):List Value:=[.int .i64 x.last]
structure za where
 Fd:zb
 Um:zn
 Ur:zH
 or:List zd
 LE:List zA
 Fn:List zc
 rings:List zp
 TZ:List zx
 held:List zx
 Uh:Int
 closed:Bool
 over:Bool
 Un:List ze
 UL:zL
def Qu:Rp (List xk):=nF 294 (hY) 2 (λ_=>rfl) (by decide)
def sO:Rp zC:=qv (λ(x:zC)v=>[.int .i64 x.UB.last,v.getD 0 undef]) 2 (λ_ _=>rfl) (λx=>x.Uk) (Qu)
def aG:Rp zC:=vu 229 sO
abbrev yE:=Int×(List Int)
def Qv:Rp (List yE):=Dd B6
def kV:Rp zR:=qv (λ(x:zR)v=>[.int .i64 x.maps,v.getD 0 undef]) 2 (λ_ _=>rfl) (λx=>x.held) (Qv)
def df:Rp zR:=vu 223 kV
def Qw:Rp (List zf):=nF 160 (qd) 5 (λ_=>rfl) (by decide)
def mM:Rp zS:=qv (λ(x:zS)v=>[v.getD 0 undef,v.getD 1 undef,.int .i64 x.UD]) 3 (λ_ _=>rfl) (λx=>(x.module.Maps,x.module.Code)) (jo B6 Qw)
def mP:Rp zS:=vu 299 mM
def Qx:Rp (List (Int×zS)):=Dd mP
def vh:Rp zb:=qv (λ(x:zb)v=>[v.getD 0 undef,v.getD 1 undef,v.getD 2 undef,.int .i64 x.Uk,.int .i64 x.maps,.int .i64 x.given,v.getD 3 undef,v.getD 4 undef]) 8 (λ_ _=>rfl) (λx=>(x.Us,(x.UY,(x.Uo,(x.Uj,x.waiting))))) (jo aG (jo df (jo fb (jo Qx B6))))
def bZ:Rp zb:=vu 169 vh
def Qy:Rp (List qn):=nF 210 (pA) 2 (λ_=>rfl) (by decide)
def fT:Rp zn:=qv (λ(x:zn)v=>[v.getD 0 undef,.int .i64 x.LT]) 2 (λ_ _=>rfl) (λx=>x.Ub) (Qy)
def xE:Rp zn:=vu 203 fT
def Qz:Rp (List zg):=nF 46 (qh) 4 (λ_=>rfl) (by decide)
def QA:Rp (List Int):=wC 5 (zu .u8) 1 (λ_=>rfl) (by decide)
def oL:Rp zF:=qv (λ(x:zF)v=>[.int .i64 x.TY,.int .i64 x.Item.UI,.int .i64 x.Item.Op,.int .u64 x.Item.UV,.int .u64 x.Item.UQ,v.getD 0 undef,.int .i64 x.UI,.int .i64 x.UF,.int .i64 x.UA,.int .u64 x.Uv.A,.int .u64 x.Uv.B,v.getD 1 undef]) 12 (λ_ _=>rfl) (λx=>(x.UC,x.Uq)) (jo Qz QA)
def Au:Rp (List zF):=lO 71 oL (by decide)
def Oa:Rp (List zk):=nF 48 (qc) 6 (λ_=>rfl) (by decide)
def ug:Rp (List zr):=nF 86 (zN) 2 (λ_=>rfl) (by decide)
def Nd:Rp (List (List zr)):=lO 76 ug (by decide)
def kx:Rp zy:=qv (λ(x:zy)v=>[.int .i64 x.E,.int .i64 x.N,v.getD 0 undef,v.getD 1 undef]) 4 (λ_ _=>rfl) (λx=>(x.UJ,x.Pairs)) (jo Oa ug)
def QB:Rp (List zy):=lO 96 kx (by decide)
def aW(w:World)(S:List Nat):Rp zd:=qv (λ(x:zd)v=>[v.getD 0 undef,.int .i64 x.Uw,.bool x.waits,.int .i64 x.Ul,.int .i64 x.Id.E,.int .i64 x.Id.N,v.getD 1 undef,v.getD 2 undef,v.getD 3 undef,v.getD 4 undef]) 10 (λ_ _=>rfl) (λx=>(x.Uf,(x.Id.UJ,(x.Id.Pairs,(x.parts,x.Ud))))) (jo (rdP (Au) w S) (jo Oa (jo ug (jo Nd QB))))
def mQ(w:World)(S:List Nat):Rp zd:=vu 135 (aW w S)
def Ng(w:World)(S:List Nat):Rp (List zd):=lO 131 (mQ w S) (u5 rfl)
def QC:Rp zm:=tu (xv) 32 (λ_=>rfl)
def iV:Rp zm:=vu 244 QC
def QD:Rp zU:=tu (eD) 20 (λ_=>rfl)
def hZ:Rp zU:=vu 247 QD
def vJ(f:Value):Rp zt:=qv (λ(x:zt)v=>[.int .u64 x.Uv.A,.int .u64 x.Uv.B,v.getD 0 undef,v.getD 1 undef,f,.int .u64 (x.regs 0),.int .u64 (x.regs 1),.int .u64 (x.regs 2),.int .u64 (x.regs 3),.int .u64 (x.regs 4),.int .u64 (x.regs 5),.int .u64 (x.regs 6),.int .u64 (x.regs 7),.int .i64 (x.LT 0),.int .i64 (x.LT 1),.int .i64 (x.LT 2),.int .i64 (x.LT 3),.int .i64 (x.LT 4),.int .i64 (x.LT 5),.int .i64 (x.LT 6),.int .i64 (x.LT 7),.int .i64 (x.LT 8),.int .i64 (x.LT 9),.int .i64 (x.LT 10),.int .i64 (x.LT 11),.int .i64 (x.LT 12),.int .i64 (x.LT 13),.int .i64 (x.LT 14),.int .i64 (x.LT 15),.int .i64 (x.LT 16),.int .i64 (x.LT 17),.int .i64 (x.LT 18),.int .i64 (x.LT 19),.int .i64 (x.LT 20),.int .i64 (x.LT 21),.int .i64 (x.LT 22),.int .i64 (x.LT 23),.int .i64 (x.LT 24),.int .i64 (x.LT 25),.int .i64 (x.LT 26),.int .i64 (x.LT 27),.int .i64 (x.LT 28),.int .i64 (x.LT 29),.int .i64 (x.LT 30),.int .i64 (x.LT 31),.int .i64 (x.LT 32),.int .i64 (x.LT 33),.int .i64 (x.LT 34),.int .i64 (x.LT 35),.int .i64 (x.LT 36),.int .i64 (x.LT 37),.int .i64 (x.LT 38),.int .i64 (x.LT 39),.int .i64 (x.LT 40),.int .i64 (x.LT 41),.int .i64 (x.LT 42),.int .i64 (x.LT 43),.int .i64 (x.LT 44),.int .i64 (x.LT 45),.int .i64 (x.LT 46),.int .i64 (x.LT 47),.int .i64 (x.LT 48),.int .i64 (x.LT 49),.int .i64 (x.LT 50),.int .i64 (x.LT 51),.int .i64 (x.LT 52),.int .i64 (x.LT 53),.int .i64 (x.LT 54),.int .i64 (x.LT 55),.int .i64 (x.LT 56),.int .i64 (x.LT 57),.int .i64 (x.LT 58),.int .i64 (x.LT 59),.int .i64 (x.LT 60),.int .i64 (x.LT 61),.int .i64 (x.LT 62),.int .i64 (x.LT 63),.int .i64 x.Uw,.int .i64 x.steps,.int .i64 x.state]) 80 (λ_ _=>rfl) (λx=>(x.module.Maps,x.module.Code)) (jo B6 Qw)
def fc:Rp zl:=qv (λ(x:zl)v=>[v.getD 0 undef,v.getD 1 undef,.int .i64 x.Ua,.int .i64 x.UE.hook,.int .i64 x.UE.UK.N,.int .u64 x.UE.UK.Uv.A,.int .u64 x.UE.UK.Uv.B,.int .i64 x.UE.Ux,.int .i64 x.UE.prog,.int .u64 x.UE.calls,v.getD 2 undef]) 11 (λ_ _=>rfl) (λx=>(x.UM,x.Vh,x.UE.VK)) (RK iV hZ (λf=>(BL 330 (vJ f))) 1 (λ_=>rfl))
def fU:Rp zl:=vu 198 fc
def eE:Rp zA:=qv (λ(x:zA)v=>[v.getD 0 undef,.int .i64 x.UH,.int .i64 x.pc,v.getD 1 undef,.bool x.Ue]) 5 (λ_ _=>rfl) (λx=>(x.TX,x.Va)) (jo fU (Lm 268 qc))
def iW:Rp zA:=vu 130 eE
def Nh:Rp (List zA):=lO 125 iW (by decide)
def oy:Rp qo:=qv (λ(x:qo)v=>[.int .i64 x.cap,v.getD 0 undef]) 2 (λ_ _=>rfl) (λx=>x.Ug) (ug)
def aH:Rp qo:=vu 280 oy
def QE:Rp (List Int):=nF 44 (zu .u64) 1 (λ_=>rfl) (by decide)
def pB:Rp qB:=qv (λ(x:qB)v=>[v.getD 0 undef,v.getD 1 undef]) 2 (λ_ _=>rfl) (λx=>(x.Vl,x.Vr)) (jo aH QE)
def dy:Rp qB:=vu 283 pB
def fV:Rp qm:=Oj (H5 232 aH) (H5 235 dy) rfl rfl
def QF:Rp (List qm):=lO 184 fV (by decide)
def QG:Rp (List zq):=nF 286 (qL) 7 (λ_=>rfl) (by decide)
def fd:Rp zc:=qv (λ(x:zc)v=>[.int .i64 x.Vu,.int .i64 x.UX,v.getD 0 undef,v.getD 1 undef,.bool x.Ue]) 5 (λ_ _=>rfl) (λx=>(x.maps,x.TZ)) (jo QF QG)
def xF:Rp zc:=vu 182 fd
def Ni:Rp (List zc):=lO 122 xF (by decide)
def Nj(f:Value):Rp (List zp):=lO 119 (de f) (u5 rfl)
def ic(w:World)(S:List Nat):Rp zx:=qv (λ(x:zx)v=>[.int .i64 x.Ut,.int .i64 x.cmd.TY,.int .i64 x.cmd.Item.UI,.int .i64 x.cmd.Item.Op,.int .u64 x.cmd.Item.UV,.int .u64 x.cmd.Item.UQ,v.getD 0 undef,.int .i64 x.cmd.UI,.int .i64 x.cmd.UF,.int .i64 x.cmd.UA,.int .u64 x.cmd.Uv.A,.int .u64 x.cmd.Uv.B,v.getD 1 undef,.int .i64 x.Vt]) 14 (λ_ _=>rfl) (λx=>(x.cmd.UC,x.cmd.Uq)) (jo (Ix w S (qh) 4) (Ix w S (zu .u8) 1))
def IF(w:World)(S:List Nat):Rp (List zx):=lO 272 (ic w S) (u5 rfl)
def QH:Rp (List ze):=nF 50 (zJ) 22 (λ_=>rfl) (by decide)
def QI:Rp zL:=tu (dN) 1 (λ_=>rfl)
def eF:Rp zL:=vu 118 QI
def qE(w:World)(S:List Nat):Rp za:=qv (λ(x:za)v=>[v.getD 0 undef,v.getD 1 undef,.int .i64 x.Ur.Uc,.int .i64 x.Ur.Ui,.int .i64 x.Ur.Up,.int .i64 x.Ur.UT,v.getD 2 undef,v.getD 3 undef,v.getD 4 undef,v.getD 5 undef,v.getD 6 undef,v.getD 7 undef,v.getD 8 undef,.int .i64 x.Uh,.bool x.closed,.bool x.over,v.getD 9 undef]) 17 (λ_ _=>rfl) (λx=>(x.UL,(x.Fd,(x.Um,(x.Ur.Maps,(x.or,(x.LE,(x.Fn,(x.rings,(x.TZ,(x.held,x.Un))))))))))) (Oi eF (λf=>jo bZ (jo xE (jo (Nk jM) (jo (Ng w S) (jo Nh (jo Ni (jo (Nj f) (jo (IF w S) (jo (IF w S) QH))))))))) 10 (λ_=>rfl))
def jK(w:World)(S:List Nat):Rp za:=vu 115 (qE w S)
def Sk:Rp zk:=tu (qc) 6 (λ_=>rfl)
def Av:Rp zd:=qv (λ(x:zd)v=>[v.getD 0 undef,.int .i64 x.Uw,.bool x.waits,.int .i64 x.Ul,.int .i64 x.Id.E,.int .i64 x.Id.N,v.getD 1 undef,v.getD 2 undef,v.getD 3 undef,v.getD 4 undef]) 10 (λ_ _=>rfl) (λx=>(x.Uf,(x.Id.UJ,(x.Id.Pairs,(x.parts,x.Ud))))) (jo Au (jo Oa (jo ug (jo Nd QB))))
def ky:Rp zd:=vu 135 Av
def Aw:Rp zx:=qv (λ(x:zx)v=>[.int .i64 x.Ut,.int .i64 x.cmd.TY,.int .i64 x.cmd.Item.UI,.int .i64 x.cmd.Item.Op,.int .u64 x.cmd.Item.UV,.int .u64 x.cmd.Item.UQ,v.getD 0 undef,.int .i64 x.cmd.UI,.int .i64 x.cmd.UF,.int .i64 x.cmd.UA,.int .u64 x.cmd.Uv.A,.int .u64 x.cmd.Uv.B,v.getD 1 undef,.int .i64 x.Vt]) 14 (λ_ _=>rfl) (λx=>(x.cmd.UC,x.cmd.Uq)) (jo Qz QA)
def IG:Rp (List zd):=lO 131 ky (by decide)
def D2:Rp (List zx):=lO 272 Aw (by decide)
def D3:Rp za:=qv (λ(x:za)v=>[v.getD 0 undef,v.getD 1 undef,.int .i64 x.Ur.Uc,.int .i64 x.Ur.Ui,.int .i64 x.Ur.Up,.int .i64 x.Ur.UT,v.getD 2 undef,v.getD 3 undef,v.getD 4 undef,v.getD 5 undef,v.getD 6 undef,v.getD 7 undef,v.getD 8 undef,.int .i64 x.Uh,.bool x.closed,.bool x.over,v.getD 9 undef]) 17 (λ_ _=>rfl) (λx=>(x.UL,(x.Fd,(x.Um,(x.Ur.Maps,(x.or,(x.LE,(x.Fn,(x.rings,(x.TZ,(x.held,x.Un))))))))))) (Oi eF (λf=>jo bZ (jo xE (jo (Nk jM) (jo IG (jo Nh (jo Ni (jo (Nj f) (jo D2 (jo D2 QH))))))))) 10 (λ_=>rfl))
def QJ:Rp za:=vu 115 D3
structure jd where
 name:ByteArray
 UR:ByteArray
def zY(x:jd):List Value:=[.string x.name,.string x.UR]
def xM:List jd:=[(jd.mk (⟨[115,101,116].toArray⟩) (⟨[100,115].toArray⟩)),
 (jd.mk (⟨[97,100,100].toArray⟩) (⟨[100,97,115].toArray⟩)),
 (jd.mk (⟨[115,117,98].toArray⟩) (⟨[100,97,115].toArray⟩)),
 (jd.mk (⟨[109,117,108].toArray⟩) (⟨[100,97,115].toArray⟩)),
 (jd.mk (⟨[100,105,118].toArray⟩) (⟨[100,97,115].toArray⟩)),
 (jd.mk (⟨[114,101,109].toArray⟩) (⟨[100,97,115].toArray⟩)),
 (jd.mk (⟨[97,110,100].toArray⟩) (⟨[100,97,115].toArray⟩)),
 (jd.mk (⟨[111,114].toArray⟩) (⟨[100,97,115].toArray⟩)),
 (jd.mk (⟨[120,111,114].toArray⟩) (⟨[100,97,115].toArray⟩)),
 (jd.mk (⟨[115,104,108].toArray⟩) (⟨[100,97,115].toArray⟩)),
 (jd.mk (⟨[115,104,114].toArray⟩) (⟨[100,97,115].toArray⟩)),
 (jd.mk (⟨[108,111,97,100].toArray⟩) (⟨[100,115].toArray⟩)),
 (jd.mk (⟨[115,116,111,114,101].toArray⟩) (⟨[97,115].toArray⟩)),
 (jd.mk (⟨[102,105,101,108,100].toArray⟩) (⟨[100,102].toArray⟩)),
 (jd.mk (⟨[109,97,112].toArray⟩) (⟨[100,109].toArray⟩)),
 (jd.mk (⟨[106,117,109,112].toArray⟩) (⟨[106].toArray⟩)),
 (jd.mk (⟨[106,101,113].toArray⟩) (⟨[106,97,115].toArray⟩)),
 (jd.mk (⟨[106,110,101].toArray⟩) (⟨[106,97,115].toArray⟩)),
 (jd.mk (⟨[106,108,116].toArray⟩) (⟨[106,97,115].toArray⟩)),
 (jd.mk (⟨[106,103,101].toArray⟩) (⟨[106,97,115].toArray⟩)),
 (jd.mk (⟨[108,111,111,112].toArray⟩) (⟨[98,97,110].toArray⟩)),
 (jd.mk (⟨[99,97,108,108].toArray⟩) (⟨[104].toArray⟩)),
 (jd.mk (⟨[101,120,105,116].toArray⟩) (⟨[97].toArray⟩))]
structure qz where
 Vm:Int
 At:Int
 VC:Int
def vi(x:qz):List Value:=[.int .i64 x.Vm,.int .i64 x.At,.int .i64 x.VC]
structure zh where
 Lo:Int
 Hi:Int
def eg(x:zh):List Value:=[.int .u64 x.Lo,.int .u64 x.Hi]
structure zi where
 TY:Int
 Uy:zh
 UI:Int
def zw(x:zi):List Value:=[.int .i64 x.TY,.int .u64 x.Uy.Lo,.int .u64 x.Uy.Hi,.int .i64 x.UI]
structure zj where
 Uq:zE
 came:List (Nat->zi)
 any:List Bool
 loops:List qz
def QK:Rp (List (Nat->zi)):=nF 379 (fa (zw) 8) 32 (λ_=>rfl) (by decide)
def QL:Rp (List Bool):=nF 4 (kJ) 1 (λ_=>rfl) (by decide)
def QM:Rp (List qz):=nF 400 (vi) 3 (λ_=>rfl) (by decide)
def eh(w:World)(S:List Nat):Rp zj:=qv (λ(x:zj)v=>[v.getD 0 undef,v.getD 1 undef,v.getD 2 undef,v.getD 3 undef,v.getD 4 undef]) 5 (λ_ _=>rfl) (λx=>(x.Uq.Maps,(x.Uq.Code,(x.came,(x.any,x.loops))))) (jo (Ix w S (zu .i64) 1) (jo (Ix w S (qd) 5) (jo QK (jo QL QM))))
def dz(w:World)(S:List Nat):Rp zj:=vu 370 (eh w S)
structure bT where
 name:ByteArray
 VV:ByteArray
 most:Int
 asks:Int
 VL:Bool
def qi(x:bT):List Value:=[.string x.name,.string x.VV,.int .u64 x.most,.int .i64 x.asks,.bool x.VL]
def aw:List bT:=[(bT.mk (⟨[103,101,116].toArray⟩) (⟨[104,110].toArray⟩) 18446744073709551615 0 true),
 (bT.mk (⟨[104,97,115].toArray⟩) (⟨[104,110].toArray⟩) 1 1 true),
 (bT.mk (⟨[112,117,116].toArray⟩) (⟨[104,110,110].toArray⟩) 1 2 true),
 (bT.mk (⟨[100,101,108].toArray⟩) (⟨[104,110].toArray⟩) 1 3 true),
 (bT.mk (⟨[97,100,100].toArray⟩) (⟨[104,110,110].toArray⟩) 18446744073709551615 4 true),
 (bT.mk (⟨[109,97,114,107].toArray⟩) (⟨[115].toArray⟩) 18446744073709551615 0 false),
 (bT.mk (⟨[110,111,116,101].toArray⟩) (⟨[110].toArray⟩) 0 0 false)]
def my(f:Value):Rp zt:=vu 330 (vJ f)
structure qT where
 TY:Int
 Pc:Int
 Item:zg
 UQ:Int
def pC:Rp zk:=vu 48 Sk
structure vw where
 To:Int
 VN:Int
 Vw:Bool
 Item:zg
 UJ:zk
 Pairs:List zr
structure zz where
 b:List Int
 Uw:Int
 field:Int
 e:Int
def bU(w:World)(S:List Nat):Rp zz:=qv (λ(x:zz)v=>[v.getD 0 undef,.int .i64 x.Uw,.int .i64 x.field,.int .i64 x.e]) 4 (λ_ _=>rfl) (λx=>x.b) ((Ix w S (zu .u8) 1))
def fe(w:World)(S:List Nat):Rp zz:=vu 155 (bU w S)
structure qw where
 C:zH
 UG:List (List zF)
 Vg:List Int
theorem Ob:Cv Av (λw S=>aW w S):=Cv.struct (yd (Cv.bor _) (yd (Cv.refl _) (yd (Cv.refl _) (yd (Cv.refl _) (Cv.refl _)))))
theorem Oc:Cv ky (λw S=>mQ w S):=Cv.ptr Ob
theorem Od:Cv IG (λw S=>Ng w S):=Cv.rowN Oc
theorem Oe:Cv Aw (λw S=>ic w S):=Cv.struct (yd Cv.row (Cv.rowF))
theorem IH:Cv D2 (λw S=>IF w S):=Cv.rowN Oe
theorem Of:Cv D3 (λw S=>qE w S):=Cv.struct (Cv.gho (λ_=>yd (Cv.refl _) (yd (Cv.refl _) (yd (Cv.refl _) (yd Od (yd (Cv.refl _) (yd (Cv.refl _) (yd (Cv.refl _) (yd IH (yd IH (Cv.refl _)))))))))))
theorem QN:Cv QJ (λw S=>jK w S):=Cv.ptr Of
def bJ(p:Int)(a:Int):Option Bool:=
 some (p==a)
def ba(p:List Int)(e:Int)(a:Nat)(d:Unit->Option (Unit⊕Int))(c:Unit):Option (Unit⊕Int):=
 (idx p (a:Int)).bind λb=>
 if (e==b) then
  some (.inr (a:Int))
 else
  d ()
def xl(p:List Int)(d:Int):Option Int:=
 (jN (ba p d) (λ(b:Unit)=>(.inl ())) (p).length 0 ()).bind λa=>match a with
  |.inl c=>
   some (-1)
  |.inr r=>some r
def zW(p:List Int)(b:Int):Option Bool:=
 (xl p b).bind λa=>
 some (decide (a>=0))
def jj(p:Int)(b:List Int):Option Bool:=
 (zW b p).bind λa=>
 some a
def ie(p:zG)(e:Int)(b:Nat)(d:Unit->Option (Unit⊕Bool))(c:Unit):Option (Unit⊕Bool):=
 (idx p.in_ (b:Int)).bind λa=>
 if ((a !=0)&&decide (a<e)) then
  some (.inr false)
 else
  d ()
def vM(p:zG)(e:Int):Option Bool:=
 ((room (p.in_).length 1).bind λb=>
 jN (ie p e) (λ(c:Unit)=>(.inl ())) (p.in_).length 0 ()).bind λa=>match a with
  |.inl d=>
   some true
  |.inr r=>some r
def bB(p:zp):Option xH:=
 some (xH.mk p.counts.US p.counts.Ve p.counts.Vz p.counts.Vb ((p.waiting).length:Int))
def dh(p:za)(a:Nat)(e:Unit->Option (Unit⊕Bool))(d:Unit):Option (Unit⊕Bool):=
 (idx p.rings (a:Int)).bind λb=>
 (bB b).bind λc=>
 if decide (c.Vi>0) then
  some (.inr true)
 else
  e ()
def vm(p:za):Option Bool:=
 ((room (p.rings).length 1).bind λb=>
 jN (dh p) (λ(c:Unit)=>(.inl ())) (p.rings).length 0 ()).bind λa=>match a with
  |.inl d=>
   some false
  |.inr r=>some r
def jQ(p:zl):Option Int:=
 some p.Ua
def di(p:za)(a:Nat)(e:Unit->Option (Unit⊕Bool))(d:Unit):Option (Unit⊕Bool):=
 (idx p.LE (a:Int)).bind λb=>
 (jQ b.TX).bind λc=>
 if (c !=0) then
  some (.inr false)
 else
  e ()
def aI(p:za):Option Bool:=
 ((room (p.LE).length 1).bind λb=>
 jN (di p) (λ(c:Unit)=>(.inl ())) (p.LE).length 0 ()).bind λa=>match a with
  |.inl d=>
   some true
  |.inr r=>some r
def xr(e:zx)(p:za):Option Bool:=
 if (e.cmd.TY==8) then
  (vM p.Fd.Uo e.Vt).bind λa=>
  some a
 else
  ((vm p).bind λb=>
  if (!b) then
   (aI p).bind λc=>
   some c
  else
   some false).bind λd=>
  some d
def cO(p:zg)(b:za):Option Bool:=
 (if decide (p.UI<0) then
  some true
 else
  if decide (p.UI>=((b.Ur.Maps).length:Int)) then
   some true
  else
   if decide (p.Op<0) then
    some true
   else
    some (decide (p.Op>=5))).bind λa=>
 some a
def kX(p:Int):Option ((Option zC)×Int):=
 if (decide (p<1)||decide (p>4)) then
  some (none,2)
 else
  (mkLen p 16).bind λa=>
  some ((some (zC.mk (xI.mk 0) (List.replicate a (xk.mk 0 0)))),0)
def lT(p:Int):Option ((Option zR)×Int):=
 if (decide (p<0)||decide (p>4)) then
  some (none,2)
 else
  some ((some (zR.mk p ([]:List yE))),0)
def eG(p:Int):Option ((Option zG)×Int):=
 if (decide (p<1)||decide (p>4)) then
  some (none,2)
 else
  (mkLen p 8).bind λa=>
  some ((some (zG.mk 1 (List.replicate a 0))),0)
def cd(k:Int)(i:Int)(p:Int):Option ((Option zb)×Int):=
 (kX k).bind λa=>
 vK a.1
  ((lT i).bind λb=>
  vK b.1
   ((eG p).bind λd=>
   vK d.1
    (if (((a.2 !=0)||(b.2 !=0))||(d.2 !=0)) then
     some (none,2)
    else
     none)
    (λn=>
    if (((a.2 !=0)||(b.2 !=0))||(d.2 !=0)) then
     some (none,2)
    else
     none))
   (λq=>
   (eG p).bind λe=>
   vK e.1
    (if (((a.2 !=0)||(b.2 !=0))||(e.2 !=0)) then
     some (none,2)
    else
     none)
    (λv=>
    if (((a.2 !=0)||(b.2 !=0))||(e.2 !=0)) then
     some (none,2)
    else
     none)))
  (λh=>
  (lT i).bind λc=>
  vK c.1
   ((eG p).bind λf=>
   vK f.1
    (if (((a.2 !=0)||(c.2 !=0))||(f.2 !=0)) then
     some (none,2)
    else
     none)
    (λz=>
    if (((a.2 !=0)||(c.2 !=0))||(f.2 !=0)) then
     some (none,2)
    else
     none))
   (λj=>
   (eG p).bind λg=>
   vK g.1
    (if (((a.2 !=0)||(c.2 !=0))||(g.2 !=0)) then
     some (none,2)
    else
     none)
    (λl=>
    if (((a.2 !=0)||(c.2 !=0))||(g.2 !=0)) then
     some (none,2)
    else
     some ((some (zb.mk h j l k i 0 ([]:List (Int×zS)) ([]:List Int))),0))))
def lU(p:Int)(a:zL):Option ((Option zp)×Int):=
 if ((decide (p<1)||decide (p>16))||false) then
  some (none,2)
 else
  some ((some (zp.mk p false ([]:List qa) (xH.mk 0 0 0 0 0))),0)
def iX(p:Int):Option ((Option qo)×Int):=
 if (decide (p<1)||decide (p>16)) then
  some (none,2)
 else
  some ((some (qo.mk p ([]:List zr))),0)
def rQ(p:Int):Option ((Option qB)×Int):=
 (iX p).bind λa=>
 vK a.1
  (if (a.2 !=0) then
   some (none,a.2)
  else
   none)
  (λb=>
  if (a.2 !=0) then
   some (none,a.2)
  else
   some ((some (qB.mk b ([]:List Int))),0))
def eH(p:jM):Option ((Option qm)×Int):=
 if (p.TY==0) then
  (iX p.Wo).bind λa=>
  vK a.1
   (if (a.2==0) then
    none
   else
    some (none,2))
   (λc=>
   if (a.2==0) then
    some ((some (.inl c)),a.2)
   else
    some (none,2))
 else
  if (p.TY==1) then
   (rQ p.Wo).bind λb=>
   vK b.1
    (if (b.2==0) then
     none
    else
     some (none,2))
    (λd=>
    if (b.2==0) then
     some ((some (.inr d)),b.2)
    else
     some (none,2))
  else
   some (none,2)
def iY(p:List jM)(d:Nat)(g:zc->Option (zc⊕((Option zc)×Int)))(b:zc):Option (zc⊕((Option zc)×Int)):=
 (idx p (d:Int)).bind λe=>
 (eH e).bind λa=>
 vK a.1
  (if (a.2 !=0) then
   some (.inr (none,a.2))
  else
   none)
  (λc=>
  if (a.2 !=0) then
   some (.inr (none,a.2))
  else
   (room (b.maps.length+([c]).length) 16).bind λf=>
   g {b with maps:=(b.maps++[c])})
def cg(d:Int)(p:Int)(e:List jM):Option ((Option zc)×Int):=
 if ((((decide (p<1)||decide (p>4))||decide (d<0))||decide (d>=p))||decide (((e).length:Int)>4)) then
  some (none,2)
 else
  (jN (iY e) (λ(a:zc)=>(.inl a)) (e).length 0 (zc.mk d p ([]:List qm) ([]:List zq) false)).bind λb=>match b with
   |.inl c=>
    some ((some c),0)
   |.inr r=>some r
def oM :Option zm:=
 some (zm.mk (qP.mk (λ_=>0)) (jp.mk (λ_=>0)))
def uh :Option zU:=
 some (zU.mk (λ_=>(zP.mk 0 0 0 0 0)))
def fk :Option zl:=
 oM.bind λa=>
 uh.bind λb=>
 some (zl.mk a b 0 (bI.mk 0 (qa.mk 0 (qr.mk 0 0)) 0 0 0 none))
def zK(p:List zg):Option (List zg):=
 (room (([]:List zg).length+p.length) 32).bind λa=>
 some (([]:List zg)++p)
def qQ(p:List Int):Option (List Int):=
 (room (([]:List Int).length+p.length) 1).bind λa=>
 some (([]:List Int)++p)
def cj(p:List zF):Option (List zF):=
 (room (0+p.length) 128).bind λ_=>(p.foldlM (λ(_:Unit)c=>(zK c.UC).bind λ_=>(qQ c.Uq).bind λ_=>some ()) ()).bind λ_=>some p
def nR(p:Int):Option ((Option zn)×Int):=
 if (decide (p<1)||decide (p>64)) then
  some (none,2)
 else
  (mkLen p 16).bind λa=>
  some ((some (zn.mk (List.replicate a (qn.mk 0 0)) 0)),0)
abbrev yA:=(Option za)×Int
def oO(p:zH)(e:((List zp)×Int)->Option ((List zp)⊕yA))(a:(List zp)×Int):Option ((List zp)⊕yA):=
 if decide (a.2<p.Up) then
  (lU p.UT (zL.mk 0)).bind λb=>
  vK b.1
   (if (b.2 !=0) then
    some (.inr (none,b.2))
   else
    none)
   (λc=>
   if (b.2 !=0) then
    some (.inr (none,b.2))
   else
    (room (a.1.length+([c]).length) 8).bind λd=>
    e ((a.1++[c]),w64 (a.2+1)))
 else
  some (.inl a.1)
def oP(p:zH)(e:((List zc)×Int)->Option ((List zc)⊕yA))(a:(List zc)×Int):Option ((List zc)⊕yA):=
 if decide (a.2<p.Ui) then
  (cg a.2 p.Ui p.Maps).bind λb=>
  vK b.1
   (if (b.2 !=0) then
    some (.inr (none,b.2))
   else
    none)
   (λc=>
   if (b.2 !=0) then
    some (.inr (none,b.2))
   else
    (room (a.1.length+([c]).length) 8).bind λd=>
    e ((a.1++[c]),w64 (a.2+1)))
 else
  some (.inl a.1)
def lV(p:zH)(d:((List zA)×Int)->Option (List zA))(a:(List zA)×Int):Option (List zA):=
 if decide (a.2<p.Uc) then
  fk.bind λb=>
  (room (a.1.length+([(zA.mk b 0 0 none false)]).length) 8).bind λc=>
  d ((a.1++[(zA.mk b 0 0 none false)]),w64 (a.2+1))
 else
  some a.1
def oQ(p:List (List zF))(d:Nat)(f:(List zd)->Option ((List zd)⊕yA))(a:(List zd)):Option ((List zd)⊕yA):=
 (idx p (d:Int)).bind λb=>
 if decide (((b).length:Int)>64) then
  some (.inr (none,11))
 else
  (cj b).bind λc=>
  (room (a.length+([(zd.mk c 0 false 0 (zy.mk 0 0 ([]:List zk) ([]:List zr)) ([]:List (List zr)) ([]:List zy))]).length) 8).bind λe=>
  f (a++[(zd.mk c 0 false 0 (zy.mk 0 0 ([]:List zk) ([]:List zr)) ([]:List (List zr)) ([]:List zy))])
def D4(p:zH)(e:((List zp)×Int)->Option ((List zp)⊕yA))(a:(List zp)×Int):Option ((List zp)⊕yA):=
 if decide (a.2<p.Up) then
  (lU p.UT (zL.mk 0)).bind λb=>
  vK b.1
   (if (b.2 !=0) then
    some (.inr (none,b.2))
   else
    none)
   (λc=>
   if (b.2 !=0) then
    some (.inr (none,b.2))
   else
    (room (a.1.length+([c]).length) 8).bind λd=>
    e ((a.1++[c]),w64 (a.2+1)))
 else
  some (.inl a.1)
def D5(p:zH)(e:((List zc)×Int)->Option ((List zc)⊕yA))(a:(List zc)×Int):Option ((List zc)⊕yA):=
 if decide (a.2<p.Ui) then
  (cg a.2 p.Ui p.Maps).bind λb=>
  vK b.1
   (if (b.2 !=0) then
    some (.inr (none,b.2))
   else
    none)
   (λc=>
   if (b.2 !=0) then
    some (.inr (none,b.2))
   else
    (room (a.1.length+([c]).length) 8).bind λd=>
    e ((a.1++[c]),w64 (a.2+1)))
 else
  some (.inl a.1)
def D6(p:zH)(d:((List zA)×Int)->Option (List zA))(a:(List zA)×Int):Option (List zA):=
 if decide (a.2<p.Uc) then
  fk.bind λb=>
  (room (a.1.length+([(zA.mk b 0 0 none false)]).length) 8).bind λc=>
  d ((a.1++[(zA.mk b 0 0 none false)]),w64 (a.2+1))
 else
  some a.1
def D7(p:List (List zF))(d:Nat)(f:(List zd)->Option ((List zd)⊕yA))(a:(List zd)):Option ((List zd)⊕yA):=
 (idx p (d:Int)).bind λb=>
 if decide (((b).length:Int)>64) then
  some (.inr (none,11))
 else
  (cj b).bind λc=>
  (room (a.length+([(zd.mk c 0 false 0 (zy.mk 0 0 ([]:List zk) ([]:List zr)) ([]:List (List zr)) ([]:List zy))]).length) 8).bind λe=>
  f (a++[(zd.mk c 0 false 0 (zy.mk 0 0 ([]:List zk) ([]:List zr)) ([]:List (List zr)) ([]:List zy))])
def eI(k:Nat)(p:zH)(i:List (List zF)):Option yA:=
 (cd p.Up ((p.Maps).length:Int) p.Uc).bind λa=>
 vK a.1
  (if (((((a.2 !=0)||decide (p.Ui<1))||decide (p.Ui>4))||decide (((i).length:Int)<1))||decide (((i).length:Int)>4)) then
   some (none,2)
  else
   (loop (D4 p) k (([]:List zp),0)).bind λb=>match b with
    |.inl D=>
     (loop (D5 p) k (([]:List zc),0)).bind λc=>match c with
      |.inl E=>
       (loop (D6 p) k (([]:List zA),0)).bind λF=>
       (jN (D7 i) (λ(d:(List zd))=>(.inl d)) (i).length 0 ([]:List zd)).bind λe=>match e with
        |.inl G=>
         (nR (w64 ((w64 ((w64 (((i).length:Int)+p.Uc))+p.Ui))+1))).bind λf=>
         vK f.1
          (none)
          (λH=>
          none)
        |.inr r=>some r
      |.inr r=>some r
    |.inr r=>some r)
  (λg=>
  if (((((a.2 !=0)||decide (p.Ui<1))||decide (p.Ui>4))||decide (((i).length:Int)<1))||decide (((i).length:Int)>4)) then
   some (none,2)
  else
   (loop (oO p) k (([]:List zp),0)).bind λh=>match h with
    |.inl j=>
     (loop (oP p) k (([]:List zc),0)).bind λl=>match l with
      |.inl n=>
       (loop (lV p) k (([]:List zA),0)).bind λq=>
       (jN (oQ i) (λ(v:(List zd))=>(.inl v)) (i).length 0 ([]:List zd)).bind λz=>match z with
        |.inl A=>
         (nR (w64 ((w64 ((w64 (((i).length:Int)+p.Uc))+p.Ui))+1))).bind λB=>
         vK B.1
          (none)
          (λC=>
          some ((some (za.mk g C p A q n j ([]:List zx) ([]:List zx) 0 false false ([]:List ze) (zL.mk 0))),0))
        |.inr r=>some r
      |.inr r=>some r
    |.inr r=>some r)
def cm(p:zn):Option Int:=
 some p.LT
def qH(p:za):Option Int:=
 some (w64 ((w64 (((p.or).length:Int)+((p.LE).length:Int)))+((p.Fn).length:Int)))
def zZ(p:za):Option Int:=
 some ((p.or).length:Int)
def qF(p:za):Option Int:=
 some (w64 (((p.or).length:Int)+((p.LE).length:Int)))
def qp(p:List zq):Option (List zq):=
 (room (([]:List zq).length+p.length) 56).bind λa=>
 some (([]:List zq)++p)
def vx(p:zc):Option (List zq):=
 (qp p.TZ).bind λa=>
 some a
def vn(p:zc):Option Bool:=
 some p.Ue
def cq(p:za)(a:Nat)(d:Unit->Option (Unit⊕Bool))(c:Unit):Option (Unit⊕Bool):=
 (idx p.LE (a:Int)).bind λb=>
 if (!b.Ue) then
  some (.inr false)
 else
  d ()
def cw(p:za)(g:Bool)(a:Nat)(f:Unit->Option (Unit⊕Bool))(e:Unit):Option (Unit⊕Bool):=
 (idx p.Fn (a:Int)).bind λb=>
 (if g then
  (vn b).bind λc=>
  some (!c)
 else
  some false).bind λd=>
 if d then
  some (.inr false)
 else
  f ()
def xN(p:za)(i:Bool):Option Bool:=
 ((room (p.LE).length 1).bind λc=>
 jN (cq p) (λ(d:Unit)=>(.inl ())) (p.LE).length 0 ()).bind λa=>match a with
  |.inl e=>
   ((room (p.Fn).length 1).bind λf=>
   jN (cw p i) (λ(g:Unit)=>(.inl ())) (p.Fn).length 0 ()).bind λb=>match b with
    |.inl h=>
     some true
    |.inr r=>some r
  |.inr r=>some r
def qx(p:List zx)(f:za)(a:Nat)(e:Unit->Option (Unit⊕Int))(d:Unit):Option (Unit⊕Int):=
 (idx p (a:Int)).bind λb=>
 (xr b f).bind λc=>
 if c then
  some (.inr (a:Int))
 else
  e ()
def qg(p:List zx)(d:za):Option Int:=
 (jN (qx p d) (λ(b:Unit)=>(.inl ())) (p).length 0 ()).bind λa=>match a with
  |.inl c=>
   some (-1)
  |.inr r=>some r
def xm(p:za):Option Int:=
 (qg p.held p).bind λa=>
 some a
def aJ(p:za):Option Bool:=
 (if p.closed then
  (xN p true).bind λa=>
  if a then
   some (((p.held).length:Int)==0)
  else
   some false
 else
  some false).bind λb=>
 some b
def qX(p:za)(i:Int):Option Bool:=
 (zZ p).bind λe=>
 if decide (i<e) then
  (idx p.or i).bind λa=>
  if a.waits then
   some (a.Ul==0)
  else
   some (decide (a.Uw<((a.Uf).length:Int)))
 else
  (qF p).bind λf=>
  if decide (i<f) then
   (zZ p).bind λg=>
   (idx p.LE (w64 (i-g))).bind λb=>
   (jQ b.TX).bind λc=>
   if (c==0) then
    (if (!b.Ue) then
     if p.closed then
      some true
     else
      (vm p).bind λh=>
      some h
    else
     some false).bind λj=>
    some j
   else
    if (c==3) then
     some b.Va.isSome
    else
     some true
  else
   (qH p).bind λl=>
   if decide (i<l) then
    (qF p).bind λn=>
    (idx p.Fn (w64 (i-n))).bind λd=>
    ((vx d).bind λq=>
    if decide (((q).length:Int)>0) then
     some true
    else
     if p.closed then
      (xN p false).bind λv=>
      if v then
       (vn d).bind λz=>
       some (!z)
      else
       some false
     else
      some false).bind λA=>
    some A
   else
    (if (!p.over) then
     if decide (((p.TZ).length:Int)>0) then
      some true
     else
      (xm p).bind λB=>
      if decide (B>=0) then
       some true
      else
       (aJ p).bind λC=>
       some C
    else
     some false).bind λD=>
    some D
def gu(p:List Bool)(b:Nat)(e:zn->Option zn)(a:zn):Option zn:=
 (idx p (b:Int)).bind λd=>
 (idx a.Ub (b:Int)).bind λc=>
 if (c.Ua==2) then
  e a
 else
  if d then
   e (zn.mk (a.Ub.set (Int.toNat (b:Int)) (qn.mk 1 c.Vo)) a.LT)
  else
   e (zn.mk (a.Ub.set (Int.toNat (b:Int)) (qn.mk 0 c.Vo)) a.LT)
def eJ(p:zn)(c:List Bool):Option (Int×zn):=
 if (((c).length:Int) !=((p.Ub).length:Int)) then
  some (2,p)
 else
  (jN (gu c) (λ(a:zn)=>a) (c).length 0 p).bind λb=>
  some (0,b)
def dj(p:za)(a:Nat)(e:(List Bool)->Option (List Bool))(b:(List Bool)):Option (List Bool):=
 (qX p (a:Int)).bind λc=>
 (idx b (a:Int)).bind λd=>
 e (b.set (Int.toNat (a:Int)) c)
def vo(p:za):Option za:=
 (qH p).bind λb=>
 (mkLen (w64 (b+1)) 1).bind λa=>
 ((room a 1).bind λf=>
 jN (dj p) (λ(c:(List Bool))=>c) a 0 (List.replicate a false)).bind λd=>
 (eJ p.Um d).bind λe=>
 some {p with Um:=e.2}
def ig(p:zn)(f:Int)(a:Nat)(e:(List Int)->Option (List Int))(b:(List Int)):Option (List Int):=
 (idx p.Ub (a:Int)).bind λc=>
 if (c.Ua==f) then
  (room (b.length+([(a:Int)]).length) 8).bind λd=>
  e (b++[(a:Int)])
 else
  e b
def ek(p:zn)(c:Int):Option (List Int):=
 (jN (ig p c) (λ(a:(List Int))=>a) (p.Ub).length 0 ([]:List Int)).bind λb=>
 some b
def aK(p:zn):Option (List Int):=
 (ek p 1).bind λa=>
 some a
def ag(p:zn)(b:Int):Option (Int×Bool×zn):=
 (idx p.Ub b).bind λa=>
 some (b,true,(zn.mk (p.Ub.set (Int.toNat b) (qn.mk a.Ua (w64 (p.LT+1)))) (w64 (p.LT+1))))
def dB(p:zn)(f:Int):Option (Int×Bool×zn):=
 (aK p).bind λa=>
 if (((a).length:Int)==0) then
  some (0,false,p)
 else
  (nz ((a).length:Int)).bind λe=>
  (if decide ((f.tmod ((a).length:Int))<0) then
   some (w64 ((f.tmod ((a).length:Int))+((a).length:Int)))
  else
   some (f.tmod ((a).length:Int))).bind λc=>
  (idx a c).bind λd=>
  (ag p d).bind λb=>
  some (b.1,b.2.1,b.2.2)
def fm(c:zd)(d:Nat)(f:(List zr)->Option zd)(a:(List zr)):Option zd:=
 (idx c.parts (d:Int)).bind λb=>
 (room (a.length+b.length) 16).bind λe=>
 f (a++b)
def jc(p:za)(f:Int):Option za:=
 (idx p.or f).bind λb=>
 (jN (fm b) (λ(c:(List zr))=>{b with Id:=(zy.mk b.Id.E b.Id.N b.Id.UJ c)}) (b.parts).length 0 b.Id.Pairs).bind λa=>
 (room (p.Un.length+([(ze.mk 2 f 0 a.Uw 0 0 0 0 0 0 (zg.mk 0 0 0 0) (zk.mk 0 false 0 false 0 0) (vc a.Id.N) a.Id.E)]).length) 176).bind λd=>
 (room (a.Ud.length+([a.Id]).length) 64).bind λe=>
 some {p with or:=(p.or.set (Int.toNat f) (zd.mk a.Uf (w64 (a.Uw+1)) false a.Ul (zy.mk 0 0 ([]:List zk) ([]:List zr)) ([]:List (List zr)) (a.Ud++[a.Id]))),Un:=(p.Un++[(ze.mk 2 f 0 a.Uw 0 0 0 0 0 0 (zg.mk 0 0 0 0) (zk.mk 0 false 0 false 0 0) (vc a.Id.N) a.Id.E)])}
def qC(p:List zg)(f:za)(a:Nat)(e:Unit->Option (Unit⊕Int))(d:Unit):Option (Unit⊕Int):=
 (idx p (a:Int)).bind λb=>
 (cO b f).bind λc=>
 if c then
  some (.inr (a:Int))
 else
  e ()
def ql(p:List zg)(d:za):Option Int:=
 (jN (qC p d) (λ(b:Unit)=>(.inl ())) (p).length 0 ()).bind λa=>match a with
  |.inl c=>
   some (-1)
  |.inr r=>some r
def qf(p:List zg)(b:za):Option Bool:=
 (ql p b).bind λa=>
 some (decide (a>=0))
def xK(p:za)(b:List zg):Option Bool:=
 (qf b p).bind λa=>
 some a
def aA(b:Int)(p:Int):Option Int:=
 if decide (p<1) then
  some 0
 else
  (nz (vc p)).bind λa=>
  some (w64 ((kr .u64 (vc (b*11400714819323198485)) 32).tmod (vc p)))
def xU(c:zc)(p:zq):Option Bool:=
 if (decide (p.Item.UI<0)||decide (p.Item.UI>=((c.maps).length:Int))) then
  some false
 else
  (if p.Vw then
   some true
  else
   if decide (p.Item.Op>=0) then
    if decide (p.Item.Op<5) then
     (aA p.Item.UV c.UX).bind λa=>
     some (a==c.Vu)
    else
     some false
   else
    some false).bind λb=>
  some b
def ii(p:zc)(f:List zq)(a:Nat)(e:Unit->Option (Unit⊕(Int×zc)))(d:Unit):Option (Unit⊕(Int×zc)):=
 (idx f (a:Int)).bind λb=>
 (xU p b).bind λc=>
 if (!c) then
  some (.inr (2,p))
 else
  e ()
def jI(p:zc)(e:List zq):Option (Int×zc):=
 if p.Ue then
  some (43,p)
 else
  (jN (ii p e) (λ(b:Unit)=>(.inl ())) (e).length 0 ()).bind λa=>match a with
   |.inl c=>
    (room (p.TZ.length+e.length) 56).bind λd=>
    some (0,{p with TZ:=(p.TZ++e)})
   |.inr r=>some r
def aL(p:zL):Option (Int×zL):=
 some (w64 (p.last+1),(zL.mk (w64 (p.last+1))))
def xo(p:zp)(c:qr)(g:zL):Option (Int×Int×zp×zL):=
 if p.Vj then
  some (0,43,p,g)
 else
  if (((p.waiting).length:Int)==p.room) then
   some (0,40,{p with counts:=(xH.mk p.counts.US (w64 (p.counts.Ve+1)) p.counts.Vz p.counts.Vb p.counts.Vi)},g)
  else
   (aL g).bind λa=>
   (room (p.waiting.length+([(qa.mk a.1 c)]).length) 24).bind λb=>
   some (a.1,0,(zp.mk p.room p.Vj (p.waiting++[(qa.mk a.1 c)]) (xH.mk (w64 (p.counts.US+1)) p.counts.Ve p.counts.Vz p.counts.Vb p.counts.Vi)),a.2)
def dU(p:Int)(e:zF)(b:Nat)(h:(List zc)->Option (List zc))(a:(List zc)):Option (List zc):=
 (idx ([e.Item]) (b:Int)).bind λc=>
 (aA c.UV ((a).length:Int)).bind λd=>
 (idx a d).bind λf=>
 (jI f ([(zq.mk p (b:Int) false c)])).bind λg=>
 h (a.set (Int.toNat d) g.2)
def ij(p:Int)(e:zF)(b:Nat)(h:(List zc)->Option (List zc))(a:(List zc)):Option (List zc):=
 (idx e.UC (b:Int)).bind λc=>
 (aA c.UV ((a).length:Int)).bind λd=>
 (idx a d).bind λf=>
 (jI f ([(zq.mk p (b:Int) false c)])).bind λg=>
 h (a.set (Int.toNat d) g.2)
def dV(p:Int)(c:zF)(a:Nat)(f:(List zc)->Option (List zc))(b:(List zc)):Option (List zc):=
 (idx b (a:Int)).bind λd=>
 (jI d ([(zq.mk p (a:Int) true (zg.mk c.UI 0 0 0))])).bind λe=>
 f (b.set (Int.toNat (a:Int)) e.2)
def xV(p:za)(i:Int):Option za:=
 (idx p.or i).bind λa=>
 if a.waits then
  (jc p i).bind λe=>
  some e
 else
  (room (p.Un.length+([(ze.mk 1 i 0 a.Uw 0 0 0 0 0 0 (zg.mk 0 0 0 0) (zk.mk 0 false 0 false 0 0) 0 0)]).length) 176).bind λR=>
  (idx a.Uf a.Uw).bind λb=>
  if p.closed then
   (jc {p with or:=(p.or.set (Int.toNat i) {a with Id:=(zy.mk 43 a.Id.N a.Id.UJ a.Id.Pairs)}),Un:=(p.Un++[(ze.mk 1 i 0 a.Uw 0 0 0 0 0 0 (zg.mk 0 0 0 0) (zk.mk 0 false 0 false 0 0) 0 0)])} i).bind λf=>
   some f
  else
   (((if (b.TY==0) then
    some (b.TY==0)
   else
    some (b.TY==1)).bind λg=>
   if g then
    if (b.TY==0) then
     (xK {p with Un:=(p.Un++[(ze.mk 1 i 0 a.Uw 0 0 0 0 0 0 (zg.mk 0 0 0 0) (zk.mk 0 false 0 false 0 0) 0 0)])} ([b.Item])).bind λh=>
     if h then
      (jc {p with or:=(p.or.set (Int.toNat i) {a with Id:=(zy.mk 2 a.Id.N a.Id.UJ a.Id.Pairs)}),Un:=(p.Un++[(ze.mk 1 i 0 a.Uw 0 0 0 0 0 0 (zg.mk 0 0 0 0) (zk.mk 0 false 0 false 0 0) 0 0)])} i).bind λj=>
      some (.inr j)
     else
      (mkLen 1 48).bind λl=>
      (jN (dU i b) (λ(n:(List zc))=>n) 1 0 p.Fn).bind λq=>
      some (.inl ({a with Ul:=1,Id:=(zy.mk a.Id.E a.Id.N (List.replicate l (zk.mk 0 false 0 false 0 0)) a.Id.Pairs)},q,p.TZ))
    else
     (if decide (((b.UC).length:Int)<1) then
      some true
     else
      if decide (((b.UC).length:Int)>16) then
       some true
      else
       (xK {p with Un:=(p.Un++[(ze.mk 1 i 0 a.Uw 0 0 0 0 0 0 (zg.mk 0 0 0 0) (zk.mk 0 false 0 false 0 0) 0 0)])} b.UC).bind λv=>
       some v).bind λz=>
     if z then
      (jc {p with or:=(p.or.set (Int.toNat i) {a with Id:=(zy.mk 2 a.Id.N a.Id.UJ a.Id.Pairs)}),Un:=(p.Un++[(ze.mk 1 i 0 a.Uw 0 0 0 0 0 0 (zg.mk 0 0 0 0) (zk.mk 0 false 0 false 0 0) 0 0)])} i).bind λA=>
      some (.inr A)
     else
      (mkLen ((b.UC).length:Int) 48).bind λB=>
      ((room (b.UC).length 1).bind λS=>
      jN (ij i b) (λ(C:(List zc))=>C) (b.UC).length 0 p.Fn).bind λD=>
      some (.inl ({a with Ul:=((b.UC).length:Int),Id:=(zy.mk a.Id.E a.Id.N (List.replicate B (zk.mk 0 false 0 false 0 0)) a.Id.Pairs)},D,p.TZ))
   else
    if (b.TY==2) then
     if (decide (b.UI<0)||decide (b.UI>=((p.Ur.Maps).length:Int))) then
      (jc {p with or:=(p.or.set (Int.toNat i) {a with Id:=(zy.mk 2 a.Id.N a.Id.UJ a.Id.Pairs)}),Un:=(p.Un++[(ze.mk 1 i 0 a.Uw 0 0 0 0 0 0 (zg.mk 0 0 0 0) (zk.mk 0 false 0 false 0 0) 0 0)])} i).bind λF=>
      some (.inr F)
     else
      (mkLen ((p.Fn).length:Int) 24).bind λG=>
      (jN (dV i b) (λ(H:(List zc))=>H) (p.Fn).length 0 p.Fn).bind λI=>
      some (.inl ({a with Ul:=((p.Fn).length:Int),parts:=(List.replicate G [])},I,p.TZ))
    else
     if (b.TY==3) then
      if (decide (b.UF<0)||decide (b.UF>=((p.rings).length:Int))) then
       (jc {p with or:=(p.or.set (Int.toNat i) {a with Id:=(zy.mk 2 a.Id.N a.Id.UJ a.Id.Pairs)}),Un:=(p.Un++[(ze.mk 1 i 0 a.Uw 0 0 0 0 0 0 (zg.mk 0 0 0 0) (zk.mk 0 false 0 false 0 0) 0 0)])} i).bind λJ=>
       some (.inr J)
      else
       (idx p.rings b.UF).bind λK=>
       (xo K b.Uv p.UL).bind λc=>
       if (c.2.1==0) then
        (room ((p.Un++[(ze.mk 1 i 0 a.Uw 0 0 0 0 0 0 (zg.mk 0 0 0 0) (zk.mk 0 false 0 false 0 0) 0 0)]).length+([(ze.mk 4 i 0 a.Uw 0 c.1 b.UF 0 0 0 (zg.mk 0 0 0 0) (zk.mk 0 false 0 false 0 0) 0 0)]).length) 176).bind λT=>
        if ((c.2.1 !=0)||(!a.waits)) then
         (jc {p with or:=(p.or.set (Int.toNat i) {a with Id:=(zy.mk c.2.1 c.1 a.Id.UJ a.Id.Pairs)}),rings:=(p.rings.set (Int.toNat b.UF) c.2.2.1),Un:=((p.Un++[(ze.mk 1 i 0 a.Uw 0 0 0 0 0 0 (zg.mk 0 0 0 0) (zk.mk 0 false 0 false 0 0) 0 0)])++[(ze.mk 4 i 0 a.Uw 0 c.1 b.UF 0 0 0 (zg.mk 0 0 0 0) (zk.mk 0 false 0 false 0 0) 0 0)]),UL:=c.2.2.2} i).bind λL=>
         some (.inr L)
        else
         some (.inr {p with or:=(p.or.set (Int.toNat i) {a with Id:=(zy.mk c.2.1 c.1 a.Id.UJ a.Id.Pairs)}),rings:=(p.rings.set (Int.toNat b.UF) c.2.2.1),Un:=((p.Un++[(ze.mk 1 i 0 a.Uw 0 0 0 0 0 0 (zg.mk 0 0 0 0) (zk.mk 0 false 0 false 0 0) 0 0)])++[(ze.mk 4 i 0 a.Uw 0 c.1 b.UF 0 0 0 (zg.mk 0 0 0 0) (zk.mk 0 false 0 false 0 0) 0 0)]),UL:=c.2.2.2})
       else
        if ((c.2.1 !=0)||(!a.waits)) then
         (jc {p with or:=(p.or.set (Int.toNat i) {a with Id:=(zy.mk c.2.1 a.Id.N a.Id.UJ a.Id.Pairs)}),rings:=(p.rings.set (Int.toNat b.UF) c.2.2.1),Un:=(p.Un++[(ze.mk 1 i 0 a.Uw 0 0 0 0 0 0 (zg.mk 0 0 0 0) (zk.mk 0 false 0 false 0 0) 0 0)]),UL:=c.2.2.2} i).bind λM=>
         some (.inr M)
        else
         some (.inr {p with or:=(p.or.set (Int.toNat i) {a with Id:=(zy.mk c.2.1 a.Id.N a.Id.UJ a.Id.Pairs)}),rings:=(p.rings.set (Int.toNat b.UF) c.2.2.1),Un:=(p.Un++[(ze.mk 1 i 0 a.Uw 0 0 0 0 0 0 (zg.mk 0 0 0 0) (zk.mk 0 false 0 false 0 0) 0 0)]),UL:=c.2.2.2})
     else
      (if (b.TY==4) then
       some (b.TY==4)
      else
       if (b.TY==5) then
        some (b.TY==5)
       else
        if (b.TY==6) then
         some (b.TY==6)
        else
         if (b.TY==7) then
          some (b.TY==7)
         else
          if (b.TY==8) then
           some (b.TY==8)
          else
           if (b.TY==9) then
            some (b.TY==9)
           else
            some (b.TY==10)).bind λO=>
      if O then
       (room (p.TZ.length+([(zx.mk i b 0)]).length) 144).bind λU=>
       some (.inl ({a with Ul:=1},p.Fn,(p.TZ++[(zx.mk i b 0)])))
      else
       (jc {p with or:=(p.or.set (Int.toNat i) {a with Id:=(zy.mk 2 a.Id.N a.Id.UJ a.Id.Pairs)}),Un:=(p.Un++[(ze.mk 1 i 0 a.Uw 0 0 0 0 0 0 (zg.mk 0 0 0 0) (zk.mk 0 false 0 false 0 0) 0 0)])} i).bind λP=>
       some (.inr P)):Option ((zd×(List zc)×(List zx))⊕za)).bind λQ=>match Q with
    |.inl d=>
     some {p with or:=(p.or.set (Int.toNat i) (zd.mk d.1.Uf d.1.Uw true d.1.Ul (zy.mk 0 d.1.Id.N d.1.Id.UJ d.1.Id.Pairs) d.1.parts d.1.Ud)),Fn:=d.2.1,TZ:=d.2.2,Un:=(p.Un++[(ze.mk 1 i 0 a.Uw 0 0 0 0 0 0 (zg.mk 0 0 0 0) (zk.mk 0 false 0 false 0 0) 0 0)])}
    |.inr r=>some r
def xw(p:zl):Option (Int×qa):=
 some (p.UE.hook,p.UE.UK)
def kY(p:zn)(e:List Int)(b:Nat)(d:Unit->Option (Unit⊕(Int×zn)))(c:Unit):Option (Unit⊕(Int×zn)):=
 (idx e (b:Int)).bind λa=>
 if (decide (a<0)||decide (a>=((p.Ub).length:Int))) then
  some (.inr (2,p))
 else
  d ()
def kZ(p:zn)(f:List Int)(a:Nat)(e:Unit->Option (Unit⊕(Int×zn)))(d:Unit):Option (Unit⊕(Int×zn)):=
 (idx f (a:Int)).bind λb=>
 (idx p.Ub b).bind λc=>
 if (c.Ua==2) then
  some (.inr (43,p))
 else
  e ()
def lf(p:Int)(f:List Int)(c:Nat)(e:zn->Option zn)(a:zn):Option zn:=
 (idx f (c:Int)).bind λb=>
 (idx a.Ub b).bind λd=>
 e (zn.mk (a.Ub.set (Int.toNat b) (qn.mk p d.Vo)) a.LT)
def fN(i:zn)(j:Int)(p:List Int):Option (Int×zn):=
 (jN (kY i p) (λ(e:Unit)=>(.inl ())) (p).length 0 ()).bind λa=>match a with
  |.inl f=>
   (jN (kZ i p) (λ(g:Unit)=>(.inl ())) (p).length 0 ()).bind λb=>match b with
    |.inl h=>
     (jN (lf j p) (λ(c:zn)=>c) (p).length 0 i).bind λd=>
     some (0,d)
    |.inr r=>some r
  |.inr r=>some r
def bf(p:zn)(b:List Int):Option (Int×zn):=
 (fN p 2 b).bind λa=>
 some (a.1,a.2)
def vj(p:zp)(g:zL):Option (qa×Bool×zp):=
 if (((p.waiting).length:Int)==0) then
  some ((qa.mk 0 (qr.mk 0 0)),false,p)
 else
  (idx p.waiting 0).bind λa=>
  (cut p.waiting 1 (p.waiting.length:Int)).bind λb=>
  some (a,true,(zp.mk p.room p.Vj b (xH.mk p.counts.US p.counts.Ve (w64 (p.counts.Vz+1)) p.counts.Vb p.counts.Vi)))
def vT(p:zl)(a:Int)(b:qa):Option (Int×zl):=
 if (decide (a<0)||decide (a>=4)) then
  some (2,p)
 else
  if (p.Ua !=0) then
   some (42,p)
  else
   some (0,{p with Ua:=1,UE:=(bI.mk a b 0 0 0 none)})
def jg(a:zC)(p:Int):Option Bool:=
 some (decide (p>=0)&&decide (p<((a.Uk).length:Int)))
def jh(p:zC)(b:Int):Option Bool:=
 (idx p.Uk b).bind λa=>
 some (decide (a.Ux>0))
def jn(p:zC)(e:Int):Option (Int×Int×Bool):=
 ((jg p e).bind λb=>
 if (!b) then
  some true
 else
  (jh p e).bind λc=>
  some (!c)).bind λd=>
 if d then
  some (0,0,false)
 else
  (idx p.Uk e).bind λa=>
  some (a.Ux,a.prog,true)
def fq(p:Int):Option Bool:=
 some (decide (p>=0)&&decide (p<4))
def vU(p:zU)(f:List Int)(a:Nat)(e:Unit->Option (Unit⊕(Int×zU)))(d:Unit):Option (Unit⊕(Int×zU)):=
 (idx f (a:Int)).bind λb=>
 (fq b).bind λc=>
 if (!c) then
  some (.inr (2,p))
 else
  e ()
def vV(p:List Int)(c:Nat)(e:zU->Option zU)(a:zU):Option zU:=
 (idx p (c:Int)).bind λd=>
 (ain 4 d).bind λb=>
 e (zU.mk (aset a.Uk b (zP.mk (a.Uk b).VW (vc ((a.Uk b).Vp+1)) (a.Uk b).VD (a.Uk b).Calls (a.Uk b).Sum)))
def vW(f:zU)(p:List Int):Option (Int×zU):=
 (jN (vU f p) (λ(d:Unit)=>(.inl ())) (p).length 0 ()).bind λa=>match a with
  |.inl e=>
   (jN (vV p) (λ(b:zU)=>b) (p).length 0 f).bind λc=>
   some (0,c)
  |.inr r=>some r
def bV(p:zl):Option zl:=
 some {p with Ua:=0,UE:=(bI.mk 0 (qa.mk 0 (qr.mk 0 0)) 0 0 0 none)}
def xO(p:zl):Option (Int×zl):=
 if (p.Ua !=1) then
  some (41,p)
 else
  (vW p.Vh ([p.UE.hook])).bind λa=>
  (bV {p with Vh:=a.2}).bind λb=>
  some (0,b)
def je(p:List Int):Option (List Int):=
 (room (([]:List Int).length+p.length) 8).bind λa=>
 some (([]:List Int)++p)
def zV(p:List zf):Option (List zf):=
 (room (([]:List zf).length+p.length) 40).bind λa=>
 some (([]:List zf)++p)
def qR(p:zb)(d:Int):Option (zE×Bool):=
 if (!(ja p.Uj d).isSome) then
  some ((zE.mk ([]:List Int) ([]:List zf)),false)
 else
  (ja p.Uj d).bind λa=>
  (je a.module.Maps).bind λb=>
  (zV a.module.Code).bind λc=>
  some ((zE.mk b c),true)
def vp(a:zG)(p:Int):Option Bool:=
 some (decide (p>=0)&&decide (p<((a.in_).length:Int)))
def vq(p:zG)(c:Int):Option (Int×Int×zG):=
 (vp p c).bind λa=>
 if (!a) then
  some (0,2,p)
 else
  (idx p.in_ c).bind λb=>
  if (b !=0) then
   some (0,42,p)
  else
   some (p.Vs,0,(zG.mk p.Vs (p.in_.set (Int.toNat c) p.Vs)))
def pD(p:List Int)(b:Nat)(g:Unit->Option (Unit⊕Bool))(f:Unit):Option (Unit⊕Bool):=
 (idx p (b:Int)).bind λa=>
 (if decide (a<0) then
  some true
 else
  if decide (a>=4) then
   some true
  else
   (cut p 0 (b:Int)).bind λc=>
   (zW c a).bind λd=>
   some d).bind λe=>
 if e then
  some (.inr false)
 else
  g ()
def lh(p:List Int):Option Bool:=
 (jN (pD p) (λ(b:Unit)=>(.inl ())) (p).length 0 ()).bind λa=>match a with
  |.inl c=>
   some (decide (((p).length:Int)<=4))
  |.inr r=>some r
def fg(p:Int):Option (jd×Bool):=
 if (decide (p<0)||decide (p>=23)) then
  some ((jd.mk ByteArray.empty ByteArray.empty),false)
 else
  (idx xM p).bind λa=>
  some (a,true)
def ep(p:Int):Option Bool:=
 some (decide (p>=0)&&decide (p<8))
def cP(p:Int)(a:Int)(b:Int):Option Bool:=
 some (decide (p>=a)&&decide (p<=b))
def iZ(p:zf)(c:jd×Bool)(d:Nat)(i:(Bool×zf)->Option (Bool×zf))(a:Bool×zf):Option (Bool×zf):=
 (wo c.1.UR (d:Int)).bind λb=>
 if (b==100) then
  if a.1 then
   (ep p.D).bind λe=>
   i (e,(zf.mk a.2.Op 0 a.2.A a.2.B a.2.UN))
  else
   i (false,(zf.mk a.2.Op 0 a.2.A a.2.B a.2.UN))
 else
  if (b==97) then
   if a.1 then
    (ep p.A).bind λf=>
    i (f,(zf.mk a.2.Op a.2.D 0 a.2.B a.2.UN))
   else
    i (false,(zf.mk a.2.Op a.2.D 0 a.2.B a.2.UN))
  else
   if (b==115) then
    if (p.B==8) then
     i (a.1,(zf.mk a.2.Op a.2.D a.2.A 0 0))
    else
     if a.1 then
      (ep p.B).bind λg=>
      i (g,(zf.mk a.2.Op a.2.D a.2.A 0 a.2.UN))
     else
      i (false,(zf.mk a.2.Op a.2.D a.2.A 0 a.2.UN))
   else
    if (b==102) then
     if a.1 then
      (cP p.UN 0 1).bind λh=>
      i (h,(zf.mk a.2.Op a.2.D a.2.A a.2.B 0))
     else
      i (false,(zf.mk a.2.Op a.2.D a.2.A a.2.B 0))
    else
     if (b==109) then
      if a.1 then
       (cP p.UN 0 3).bind λj=>
       i (j,(zf.mk a.2.Op a.2.D a.2.A a.2.B 0))
      else
       i (false,(zf.mk a.2.Op a.2.D a.2.A a.2.B 0))
     else
      if (b==104) then
       if a.1 then
        (cP p.UN 0 6).bind λl=>
        i (l,(zf.mk a.2.Op a.2.D a.2.A a.2.B 0))
       else
        i (false,(zf.mk a.2.Op a.2.D a.2.A a.2.B 0))
      else
       if (b==110) then
        if a.1 then
         (cP p.UN 1 255).bind λn=>
         i (n,(zf.mk a.2.Op a.2.D a.2.A a.2.B 0))
        else
         i (false,(zf.mk a.2.Op a.2.D a.2.A a.2.B 0))
       else
        if (b==106) then
         if a.1 then
          (cP p.D 0 63).bind λq=>
          i (q,(zf.mk a.2.Op 0 a.2.A a.2.B a.2.UN))
         else
          i (false,(zf.mk a.2.Op 0 a.2.A a.2.B a.2.UN))
        else
         if (b==98) then
          if a.1 then
           (cP p.D 1 63).bind λv=>
           i (v,(zf.mk a.2.Op 0 a.2.A a.2.B a.2.UN))
          else
           i (false,(zf.mk a.2.Op 0 a.2.A a.2.B a.2.UN))
         else
          i (a.1,a.2)
def vX(p:zf):Option Bool:=
 (fg p.Op).bind λb=>
 if (!b.2) then
  some false
 else
  ((room b.1.UR.size 1).bind λe=>
  jN (iZ p b) (λ(c:Bool×zf)=>(c.1,c.2)) b.1.UR.size 0 (b.2,{p with Op:=0})).bind λa=>
  (if a.1 then
   some ((a.2.Op==0)&&((a.2.D==0)&&((a.2.A==0)&&((a.2.B==0)&&((a.2.UN==0)&&true)))))
  else
   some false).bind λd=>
  some d
def tc(p:jd)(e:Int)(a:Nat)(d:Unit->Option (Unit⊕Bool))(c:Unit):Option (Unit⊕Bool):=
 (wo p.UR (a:Int)).bind λb=>
 if (b==e) then
  some (.inr true)
 else
  d ()
def jx(p:jd)(e:Int):Option Bool:=
 ((room p.UR.size 1).bind λb=>
 jN (tc p e) (λ(c:Unit)=>(.inl ())) p.UR.size 0 ()).bind λa=>match a with
  |.inl d=>
   some false
  |.inr r=>some r
def lW(p:zf):Option (Int×Bool×Bool):=
 (vX p).bind λb=>
 if (!b) then
  some (0,false,false)
 else
  (fg p.Op).bind λa=>
  (jx a.1 106).bind λc=>
  if c then
   some (w64 (p.D+1),true,(p.Op !=15))
  else
   (jx a.1 98).bind λd=>
   if d then
    some (w64 (0-p.D),true,true)
   else
    some (0,false,(p.Op !=22))
def mS(p:List zf)(a:Nat)(e:Unit->Option (Unit⊕Bool))(d:Unit):Option (Unit⊕Bool):=
 (idx p (a:Int)).bind λb=>
 (vX b).bind λc=>
 if (!c) then
  some (.inr false)
 else
  e ()
def fW(p:List zf):Option Bool:=
 (jN (mS p) (λ(b:Unit)=>(.inl ())) (p).length 0 ()).bind λa=>match a with
  |.inl c=>
   some true
  |.inr r=>some r
abbrev yC:=Unit⊕(Int×Int)
def oz(p:List zf)(a:Nat)(f:Unit->Option yC)(e:Unit):Option yC:=
 (idx p (a:Int)).bind λc=>
 (lW c).bind λb=>
 (fW ([c])).bind λd=>
 if (!d) then
  some (.inr ((a:Int),12))
 else
  if (b.2.1&&(decide ((w64 ((a:Int)+b.1))<0)||decide ((w64 ((a:Int)+b.1))>=((p).length:Int)))) then
   some (.inr ((a:Int),30))
  else
   if (b.2.2&&((a:Int)==(w64 (((p).length:Int)-1)))) then
    some (.inr ((a:Int),36))
   else
    f ()
def io(p:List zf):Option (Int×Int):=
 (jN (oz p) (λ(b:Unit)=>(.inl ())) (p).length 0 ()).bind λa=>match a with
  |.inl c=>
   some (0,0)
  |.inr r=>some r
def pE(p:List zf)(a:Nat)(e:(List qz)->Option (List qz))(c:(List qz)):Option (List qz):=
 (idx p (a:Int)).bind λb=>
 if (b.Op==20) then
  (room (c.length+([(qz.mk (w64 ((a:Int)-b.D)) (a:Int) b.UN)]).length) 24).bind λd=>
  e (c++[(qz.mk (w64 ((a:Int)-b.D)) (a:Int) b.UN)])
 else
  e c
def ft(p:List zf):Option (List qz):=
 (jN (pE p) (λ(a:(List qz))=>a) (p).length 0 ([]:List qz)).bind λb=>
 some b
def oR(p:qz)(a:Int):Option Bool:=
 some (decide (a>=p.Vm)&&decide (a<=p.At))
def kz(a:qz)(c:List qz)(d:Nat)(f:Unit->Option yC)(e:Unit):Option yC:=
 (idx c (d:Int)).bind λb=>
 if (decide (b.At>=a.Vm)&&decide (b.Vm<a.Vm)) then
  some (.inr (a.At,31))
 else
  f ()
def fP(a:(List qz))(b:Nat)(i:Unit->Option yC)(f:Unit):Option yC:=
 (idx a (b:Int)).bind λd=>
 (cut a 0 (b:Int)).bind λc=>
 (jN (kz d c) (λ(g:Unit)=>(.inl ())) (c).length 0 ()).bind λe=>match e with
  |.inl h=>
   i ()
  |.inr r=>some (.inr r)
def kA(d:(List qz))(a:Nat)(b:Int×Bool×Bool)(e:Nat)(i:Unit->Option yC)(j:Unit):Option yC:=
 (idx d (e:Int)).bind λc=>
 (if b.2.1 then
  if decide (b.1>0) then
   (oR c (a:Int)).bind λf=>
   if (!f) then
    (oR c (w64 ((a:Int)+b.1))).bind λg=>
    if g then
     some ((w64 ((a:Int)+b.1)) !=c.Vm)
    else
     some false
   else
    some false
  else
   some false
 else
  some false).bind λh=>
 if h then
  some (.inr ((a:Int),31))
 else
  i ()
def kB(p:List zf)(a:(List qz))(b:Nat)(i:Unit->Option yC)(f:Unit):Option yC:=
 (idx p (b:Int)).bind λc=>
 (lW c).bind λd=>
 (jN (kA a b d) (λ(g:Unit)=>(.inl ())) (a).length 0 ()).bind λe=>match e with
  |.inl h=>
   i ()
  |.inr r=>some (.inr r)
def ip(p:List zf):Option (Int×Int):=
 (ft p).bind λa=>
 (jN (fP a) (λ(d:Unit)=>(.inl ())) (a).length 0 ()).bind λb=>match b with
  |.inl e=>
   (jN (kB p a) (λ(f:Unit)=>(.inl ())) (p).length 0 ()).bind λc=>match c with
    |.inl g=>
     some (0,0)
    |.inr r=>some r
  |.inr r=>some r
def mU(c:(List qz))(d:Nat)(e:Nat)(g:Int->Option Int)(a:Int):Option Int:=
 (idx c (e:Int)).bind λb=>
 (oR b (d:Int)).bind λf=>
 if f then
  g (od (w64 (a*(w64 (b.VC+1)))) 257)
 else
  g a
def sQ(a:(List qz))(b:Nat)(f:Int->Option Int)(c:Int):Option Int:=
 (jN (mU a b) (λ(d:Int)=>d) (a).length 0 1).bind λe=>
 f (od (w64 (c+e)) 257)
def mV(p:List zf):Option Int:=
 (ft p).bind λa=>
 (jN (sQ a) (λ(b:Int)=>b) (p).length 0 0).bind λc=>
 some c
def fv(p:List zf):Option (Int×Int):=
 if (((p).length:Int)==0) then
  some (0,10)
 else
  if decide (((p).length:Int)>64) then
   some (0,11)
  else
   (io p).bind λa=>
   if (a.2 !=0) then
    some (a.1,a.2)
   else
    (ip p).bind λb=>
    if (b.2 !=0) then
     some (b.1,b.2)
    else
     (mV p).bind λc=>
     if decide (c>256) then
      some (0,32)
     else
      some (0,0)
def lj(p:List zf):Option ((List qz)×Int):=
 (fv p).bind λa=>
 if (a.2 !=0) then
  some (([]:List qz),a.2)
 else
  (ft p).bind λb=>
  some (b,0)
def cQ(p:zf):Option (Int×Bool):=
 (vX p).bind λa=>
 if (!a) then
  some (0,false)
 else
  (fg p.Op).bind λb=>
  (jx b.1 100).bind λc=>
  if c then
   some (p.D,true)
  else
   some (0,(p.Op==21))
def cx :Option zh:=
 some (zh.mk 0 18446744073709551615)
def vk(p:zh):Option zi:=
 some (zi.mk 1 p 0)
def dl(p:Int)(e:List zf)(f:Nat)(i:(List (Nat->zi))->Option (List (Nat->zi)))(a:(List (Nat->zi))):Option (List (Nat->zi)):=
 (idx e (f:Int)).bind λg=>
 (cQ g).bind λd=>
 if (!d.2) then
  i a
 else
  (idx a p).bind λb=>
  (ain 8 d.1).bind λc=>
  if ((b c).TY==1) then
   cx.bind λh=>
   (vk h).bind λj=>
   i (a.set (Int.toNat p) (aset b c j))
  else
   i (a.set (Int.toNat p) (aset b c (zi.mk 0 (zh.mk 0 0) 0)))
def dp(p:zj)(h:Int)(d:Nat)(g:(List (Nat->zi))->Option zj)(b:(List (Nat->zi))):Option zj:=
 (idx p.loops (d:Int)).bind λa=>
 if (a.Vm !=h) then
  g b
 else
  (cut p.Uq.Code a.Vm (w64 (a.At+1))).bind λc=>
  (jN (dl h c) (λ(e:(List (Nat->zi)))=>e) (c).length 0 b).bind λf=>
  g f
def xx(p:zj)(c:Int):Option zj:=
 (jN (dp p c) (λ(a:(List (Nat->zi)))=>{p with came:=a}) (p.loops).length 0 p.came).bind λb=>
 some b
def lu(p:zf):Option Bool:=
 (fg p.Op).bind λa=>
 ((vX p).bind λb=>
 if b then
  (jx a.1 115).bind λc=>
  some c
 else
  some false).bind λd=>
 some d
def lX(p:Int):Option zh:=
 some (zh.mk p p)
def et(p:zf)(d:Nat->zi):Option zi:=
 if (p.B==8) then
  (lX (vc p.UN)).bind λa=>
  (vk a).bind λb=>
  some b
 else
  (ain 8 p.B).bind λc=>
  some (d c)
def lY(p:List zi)(a:Nat)(d:Unit->Option (Unit⊕Int))(c:Unit):Option (Unit⊕Int):=
 (idx p (a:Int)).bind λb=>
 if (b.TY !=1) then
  some (.inr 33)
 else
  d ()
def vN(p:List zi):Option Int:=
 (jN (lY p) (λ(b:Unit)=>(.inl ())) (p).length 0 ()).bind λa=>match a with
  |.inl c=>
   some 0
  |.inr r=>some r
def vO(p:zh):Option Bool:=
 some (decide (p.Lo<=p.Hi))
def dW(p:zh)(c:zh):Option Bool:=
 ((vO p).bind λa=>
 if a then
  if decide (c.Lo<=p.Lo) then
   some (decide (p.Hi<=c.Hi))
  else
   some false
 else
  some false).bind λb=>
 some b
def gS(p:zi):Option Int:=
 (dW p.Uy (zh.mk 0 15)).bind λa=>
 if (!a) then
  some 35
 else
  some 0
def oA(p:List Int)(b:Nat)(d:Unit->Option (Unit⊕Int))(c:Unit):Option (Unit⊕Int):=
 (idx p (b:Int)).bind λa=>
 if (a !=0) then
  some (.inr a)
 else
  d ()
def fw(p:List Int):Option Int:=
 (jN (oA p) (λ(b:Unit)=>(.inl ())) (p).length 0 ()).bind λa=>match a with
  |.inl c=>
   some 0
  |.inr r=>some r
def lw(c:zi)(p:zi):Option Bool:=
 if (p.TY==1) then
  (if (c.TY==1) then
   (dW c.Uy p.Uy).bind λa=>
   some a
  else
   some false).bind λb=>
  some b
 else
  if (p.TY==2) then
   some ((c.TY==p.TY)&&(((c.Uy.Lo==p.Uy.Lo)&&((c.Uy.Hi==p.Uy.Hi)&&true))&&((c.UI==p.UI)&&true)))
  else
   some true
def dq(p:Int):Option (bT×Bool):=
 if (decide (p<0)||decide (p>=7)) then
  some ((bT.mk ByteArray.empty ByteArray.empty 0 0 false),false)
 else
  (idx aw p).bind λa=>
  some (a,true)
def ir(p:Int):Option zi:=
 some (zi.mk 1 (zh.mk 0 p) 0)
def B7(b:bT×Bool)(h:((List zi)×Nat)->Option (List zi))(a:(List zi)×Nat):Option (List zi):=
 if decide (a.2<b.1.VV.size) then
  if ((BT b.1.VV a.2)==104) then
   (room (a.1.length+([(zi.mk 2 (zh.mk 0 0) 0)]).length) 32).bind λe=>
   h ((a.1++[(zi.mk 2 (zh.mk 0 0) 0)]),(oJ b.1.VV a.2))
  else
   if ((BT b.1.VV a.2)==115) then
    (ir 15).bind λc=>
    (room (a.1.length+([c]).length) 32).bind λf=>
    h ((a.1++[c]),(oJ b.1.VV a.2))
   else
    (ir 18446744073709551615).bind λd=>
    (room (a.1.length+([d]).length) 32).bind λg=>
    h ((a.1++[d]),(oJ b.1.VV a.2))
 else
  some a.1
def xY(f:Nat)(p:Int):Option (List zi):=
 (dq p).bind λa=>
 (loop (B7 a) f (([]:List zi),0)).bind λb=>
 some b
def lZ(p:List zi)(d:(List zi))(b:Nat)(h:Unit->Option (Unit⊕Int))(g:Unit):Option (Unit⊕Int):=
 (idx d (b:Int)).bind λa=>
 (idx p (b:Int)).bind λc=>
 if (a.TY !=c.TY) then
  some (.inr 33)
 else
  (if (a.TY==1) then
   (dW c.Uy a.Uy).bind λe=>
   some (!e)
  else
   some false).bind λf=>
  if f then
   some (.inr 35)
  else
   h ()
def fy(g:Nat)(p:Int)(f:List zi):Option Int:=
 (dq p).bind λb=>
 if (!b.2) then
  some 34
 else
  (xY g p).bind λa=>
  if (((a).length:Int) !=((f).length:Int)) then
   some 2
  else
   (jN (lZ f a) (λ(d:Unit)=>(.inl ())) (a).length 0 ()).bind λc=>match c with
    |.inl e=>
     some 0
    |.inr r=>some r
def iu(p:Int):Option (zi×Bool):=
 (dq p).bind λa=>
 if (!a.2) then
  some ((zi.mk 0 (zh.mk 0 0) 0),false)
 else
  (ir a.1.most).bind λb=>
  some (b,true)
def gJ(f:Int)(e:Int)(p:Int):Option (Int×Bool):=
 if (f==1) then
  some (vc (e+p),true)
 else
  if (f==2) then
   some (vc (e-p),true)
  else
   if (f==3) then
    some (vc (e*p),true)
   else
    if (f==4) then
     if (p==0) then
      some (0,true)
     else
      (nz p).bind λa=>
      some (vc (e.tdiv p),true)
    else
     if (f==5) then
      if (p==0) then
       some (e,true)
      else
       (nz p).bind λb=>
       some (e.tmod p,true)
     else
      if (f==6) then
       some (Ag .u64 e p,true)
      else
       if (f==7) then
        some (bOr .u64 e p,true)
       else
        if (f==8) then
         some (ND .u64 e p,true)
        else
         if (f==9) then
          (nn p).bind λc=>
          some (Ah .u64 e p,true)
         else
          if (f==10) then
           (nn p).bind λd=>
           some (kr .u64 e p,true)
          else
           some (0,false)
def xW(p:zh):Option Bool:=
 some (p.Lo==p.Hi)
def ma(p:zh)(c:zh):Option zh:=
 (GN p.Hi c.Hi 0).bind λa=>
 if decide (a.2>0) then
  cx.bind λb=>
  some b
 else
  some (zh.mk (vc (p.Lo+c.Lo)) a.1)
def lx(p:Int)(a:Int):Option (Int×Int):=
 some (vc ((vc ((vc ((kr .u64 p 32)*(kr .u64 a 32)))+(kr .u64 (vc ((vc ((kr .u64 p 32)*(Ag .u64 a 4294967295)))+(kr .u64 (vc ((Ag .u64 p 4294967295)*(Ag .u64 a 4294967295))) 32))) 32)))+(kr .u64 (vc ((Ag .u64 (vc ((vc ((kr .u64 p 32)*(Ag .u64 a 4294967295)))+(kr .u64 (vc ((Ag .u64 p 4294967295)*(Ag .u64 a 4294967295))) 32))) 4294967295)+(vc ((Ag .u64 p 4294967295)*(kr .u64 a 32))))) 32)),vc (p*a))
def cy(p:zh)(c:zh):Option zh:=
 (lx p.Hi c.Hi).bind λa=>
 if decide (a.1>0) then
  cx.bind λb=>
  some b
 else
  some (zh.mk (vc (p.Lo*c.Lo)) a.2)
def cz(c:zh)(p:zh):Option zh:=
 if (p.Lo==0) then
  some (zh.mk 0 c.Hi)
 else
  (nz p.Hi).bind λa=>
  (nz p.Lo).bind λb=>
  some (zh.mk (vc (c.Lo.tdiv p.Hi)) (vc (c.Hi.tdiv p.Lo)))
def iv(p:zh)(a:zh):Option zh:=
 if (a.Lo==0) then
  some (zh.mk 0 p.Hi)
 else
  if decide (p.Hi<a.Lo) then
   some p
  else
   some (zh.mk 0 (od p.Hi (vc (a.Hi-1))))
def gT(p:Int):Option Int:=
 (if decide (p>=4294967296) then
  some (kr .u64 p 32,32)
 else
  some (p,0)).bind λa=>
 (if decide (a.1>=65536) then
  some (kr .u64 a.1 16,w64 (a.2+16))
 else
  some (a.1,a.2)).bind λb=>
 (if decide (b.1>=256) then
  some (kr .u64 b.1 8,w64 (b.2+8))
 else
  some (b.1,b.2)).bind λc=>
 (wo (⟨[0,1,2,2,3,3,3,3,4,4,4,4,4,4,4,4,5,5,5,5,5,5,5,5,5,5,5,5,5,5,5,5,6,6,6,6,6,6,6,6,6,6,6,6,6,6,6,6,6,6,6,6,6,6,6,6,6,6,6,6,6,6,6,6,7,7,7,7,7,7,7,7,7,7,7,7,7,7,7,7,7,7,7,7,7,7,7,7,7,7,7,7,7,7,7,7,7,7,7,7,7,7,7,7,7,7,7,7,7,7,7,7,7,7,7,7,7,7,7,7,7,7,7,7,7,7,7,7,8,8,8,8,8,8,8,8,8,8,8,8,8,8,8,8,8,8,8,8,8,8,8,8,8,8,8,8,8,8,8,8,8,8,8,8,8,8,8,8,8,8,8,8,8,8,8,8,8,8,8,8,8,8,8,8,8,8,8,8,8,8,8,8,8,8,8,8,8,8,8,8,8,8,8,8,8,8,8,8,8,8,8,8,8,8,8,8,8,8,8,8,8,8,8,8,8,8,8,8,8,8,8,8,8,8,8,8,8,8,8,8,8,8,8,8,8,8,8,8,8,8,8,8,8,8,8,8].toArray⟩) (IntKind.u8.wrap c.1)).bind λd=>
 some (w64 (c.2+(w64 d)))
def fX(p:Int):Option Int:=
 (gT p).bind λa=>
 (nn a).bind λb=>
 some (vc ((Ah .u64 1 a)-1))
def iw(h:zh)(p:zh):Option zh:=
 ((xW p).bind λa=>
 if (!a) then
  some true
 else
  (gT h.Hi).bind λb=>
  if decide (b>0) then
   if decide (p.Lo>64) then
    some true
   else
    (gT h.Hi).bind λc=>
    some (decide ((vc ((vc c)+p.Lo))>64))
  else
   some false).bind λd=>
 if d then
  cx.bind λe=>
  some e
 else
  (nn p.Lo).bind λf=>
  (nn p.Lo).bind λg=>
  some (zh.mk (Ah .u64 h.Lo p.Lo) (Ah .u64 h.Hi p.Lo))
def oS(k:Int)(i:zh)(p:zh):Option (zh×Bool):=
 (gJ k i.Lo p.Lo).bind λa=>
 (if (!a.2) then
  some true
 else
  (vO i).bind λb=>
  if (!b) then
   some true
  else
   (vO p).bind λc=>
   some (!c)).bind λd=>
 if d then
  some ((zh.mk 0 0),false)
 else
  ((xW i).bind λe=>
  if e then
   (xW p).bind λf=>
   some f
  else
   some false).bind λg=>
  if g then
   (lX a.1).bind λh=>
   some (h,true)
  else
   if (k==1) then
    (ma i p).bind λj=>
    some (j,true)
   else
    if (k==2) then
     if decide (i.Lo<p.Hi) then
      cx.bind λl=>
      some (l,true)
     else
      some ((zh.mk (vc (i.Lo-p.Hi)) (vc (i.Hi-p.Lo))),true)
    else
     if (k==3) then
      (cy i p).bind λn=>
      some (n,true)
     else
      if (k==4) then
       (cz i p).bind λq=>
       some (q,true)
      else
       if (k==5) then
        (iv i p).bind λv=>
        some (v,true)
       else
        if (k==6) then
         some ((zh.mk 0 (od i.Hi p.Hi)),true)
        else
         if (k==7) then
          (fX (bOr .u64 i.Hi p.Hi)).bind λz=>
          some ((zh.mk (sC i.Lo p.Lo) z),true)
         else
          if (k==8) then
           (fX (bOr .u64 i.Hi p.Hi)).bind λA=>
           some ((zh.mk 0 A),true)
          else
           if (k==9) then
            (iw i p).bind λB=>
            some (B,true)
           else
            (nn p.Hi).bind λC=>
            (nn p.Lo).bind λD=>
            some ((zh.mk (kr .u64 i.Lo p.Hi) (kr .u64 i.Hi p.Lo)),true)
def eK(p:zj)(h:Int)(a:zf×(Nat->zi))(c:Nat)(g:Unit->Option (Unit⊕((Nat->zi)×Int)))(f:Unit):Option (Unit⊕((Nat->zi)×Int)):=
 (ain 8 (c:Int)).bind λb=>
 (idx p.came (w64 (h-a.1.D))).bind λd=>
 (lw (a.2 b) (d b)).bind λe=>
 if (!e) then
  some (.inr (a.2,33))
 else
  g ()
def vy(k:Nat)(p:zj)(i:Int):Option ((Nat->zi)×Int):=
 ((idx p.Uq.Code i).bind λf=>
 (idx p.came i).bind λg=>
 some (f,g)).bind λa=>
 (lu a.1).bind λh=>
 (if h then
  (et a.1 a.2).bind λj=>
  some j
 else
  some (zi.mk 0 (zh.mk 0 0) 0)).bind λb=>
 (ain 8 a.1.A).bind λc=>
 if (a.1.Op==0) then
  if (b.TY==0) then
   some (a.2,33)
  else
   (ain 8 a.1.D).bind λl=>
   some ((aset a.2 l b),0)
 else
  if (a.1.Op==11) then
   cx.bind λn=>
   (vk n).bind λq=>
   (ain 8 a.1.D).bind λv=>
   (vN ([b])).bind λz=>
   (gS b).bind λB=>
   (fw ([z,B])).bind λC=>
   some ((aset a.2 v q),C)
  else
   if (a.1.Op==12) then
    (vN ([(a.2 c),b])).bind λE=>
    (gS b).bind λF=>
    (fw ([E,F])).bind λG=>
    some (a.2,G)
   else
    if (a.1.Op==13) then
     cx.bind λH=>
     (vk H).bind λI=>
     (ain 8 a.1.D).bind λJ=>
     some ((aset a.2 J I),0)
    else
     if (a.1.Op==14) then
      (ain 8 a.1.D).bind λd=>
      if decide (a.1.UN>=((p.Uq.Maps).length:Int)) then
       some ((aset a.2 d (zi.mk 2 (zh.mk 0 0) a.1.UN)),35)
      else
       some ((aset a.2 d (zi.mk 2 (zh.mk 0 0) a.1.UN)),0)
     else
      if (a.1.Op==15) then
       some (a.2,0)
      else
       (if (a.1.Op==16) then
        some (a.1.Op==16)
       else
        if (a.1.Op==17) then
         some (a.1.Op==17)
        else
         if (a.1.Op==18) then
          some (a.1.Op==18)
         else
          some (a.1.Op==19)).bind λK=>
       if K then
        (vN ([(a.2 c),b])).bind λL=>
        some (a.2,L)
       else
        if (a.1.Op==20) then
         (vN ([(a.2 c)])).bind λe=>
         if (e !=0) then
          some (a.2,e)
         else
          (jN (eK p i a) (λ(W:Unit)=>(.inl ())) 8 0 ()).bind λM=>match M with
           |.inl X=>
            some (a.2,0)
           |.inr r=>some r
        else
         if (a.1.Op==21) then
          (xY k a.1.UN).bind λN=>
          (cut (Iv 8 a.2) 1 (w64 (1+((N).length:Int)))).bind λO=>
          (fy k a.1.UN O).bind λP=>
          (iu a.1.UN).bind λQ=>
          some ((aset a.2 0 Q.1),P)
         else
          if (a.1.Op==22) then
           (vN ([(a.2 c)])).bind λR=>
           some (a.2,R)
          else
           (oS a.1.Op (a.2 c).Uy b.Uy).bind λS=>
           (vk S.1).bind λT=>
           (ain 8 a.1.D).bind λU=>
           (vN ([(a.2 c),b])).bind λV=>
           some ((aset a.2 U T),V)
def sR(p:List zh)(c:Nat)(e:zh->Option (zh⊕(zh×Bool)))(b:zh):Option (zh⊕(zh×Bool)):=
 (idx p (c:Int)).bind λa=>
 (vO a).bind λd=>
 if (!d) then
  some (.inr ((zh.mk 0 0),false))
 else
  e (zh.mk (od b.Lo a.Lo) (sC b.Hi a.Hi))
def mX(p:List zh):Option (zh×Bool):=
 (jN (sR p) (λ(a:zh)=>(.inl a)) (p).length 0 (zh.mk 18446744073709551615 0)).bind λb=>match b with
  |.inl c=>
   if (((p).length:Int)==0) then
    some ((zh.mk 0 0),false)
   else
    some (c,true)
  |.inr r=>some r
def fY(p:zi)(c:zi):Option zi:=
 if ((p.TY !=c.TY)||(p.UI !=c.UI)) then
  some (zi.mk 0 (zh.mk 0 0) 0)
 else
  if (p.TY==1) then
   (mX ([p.Uy,c.Uy])).bind λa=>
   (vk a.1).bind λb=>
   some b
  else
   some p
def dX(p:Int)(g:Nat->zi)(d:Nat)(f:zj->Option zj)(a:zj):Option zj:=
 (idx a.came p).bind λc=>
 (ain 8 (d:Int)).bind λb=>
 (fY (c b) (g b)).bind λe=>
 f {a with came:=(a.came.set (Int.toNat p) (aset c b e))}
def jf(p:zj)(e:Int)(f:Nat->zi):Option zj:=
 (idx p.any e).bind λa=>
 if (!a) then
  (idx p.came e).bind λd=>
  some {p with came:=(p.came.set (Int.toNat e) f),any:=(p.any.set (Int.toNat e) true)}
 else
  (jN (dX e f) (λ(b:zj)=>b) 8 0 p).bind λc=>
  some c
def bm(p:Int)(a:Int)(b:Int):Option (Bool×Bool):=
 if (p==16) then
  some ((a==b),true)
 else
  if (p==17) then
   some ((a !=b),true)
  else
   if (p==18) then
    some (decide (a<b),true)
   else
    if (p==19) then
     some (decide (a>=b),true)
    else
     some (false,false)
def mY(p:List zh)(c:Nat)(e:zh->Option (zh⊕(zh×Bool)))(b:zh):Option (zh⊕(zh×Bool)):=
 (idx p (c:Int)).bind λa=>
 (vO a).bind λd=>
 if (!d) then
  some (.inr ((zh.mk 0 0),false))
 else
  e (zh.mk (sC b.Lo a.Lo) (od b.Hi a.Hi))
def eL(p:List zh):Option (zh×Bool):=
 cx.bind λb=>
 (jN (mY p) (λ(c:zh)=>(.inl c)) (p).length 0 b).bind λd=>match d with
  |.inl a=>
   (if (((p).length:Int)==0) then
    some true
   else
    (vO a).bind λe=>
    some (!e)).bind λf=>
   if f then
    some ((zh.mk 0 0),false)
   else
    some (a,true)
  |.inr r=>some r
def dY(i:Int)(p:zh)(k:zh)(m:Bool):Option (zh×Bool):=
 (bm i 0 0).bind λd=>
 (if (!d.2) then
  some true
 else
  (vO p).bind λe=>
  if (!e) then
   some true
  else
   (vO k).bind λf=>
   some (!f)).bind λg=>
 if g then
  some ((zh.mk 0 0),false)
 else
  (xW k).bind λh=>
  if (!h) then
   some (p,true)
  else
   (if ((i==18)&&m) then
    some ((i==18)&&m)
   else
    if (i==19) then
     some (!m)
    else
     some false).bind λj=>
   if j then
    if (k.Lo==0) then
     some ((zh.mk 0 0),false)
    else
     (eL ([p,(zh.mk 0 (vc (k.Lo-1)))])).bind λa=>
     some (a.1,a.2)
   else
    (if (i==18) then
     some (i==18)
    else
     some (i==19)).bind λl=>
    if l then
     (eL ([p,(zh.mk k.Lo 18446744073709551615)])).bind λb=>
     some (b.1,b.2)
    else
     (if ((i==16)&&m) then
      some ((i==16)&&m)
     else
      if (i==17) then
       some (!m)
      else
       some false).bind λn=>
     if n then
      (eL ([p,k])).bind λc=>
      some (c.1,c.2)
     else
      if ((p.Lo==k.Lo)&&((p.Hi==k.Hi)&&true)) then
       some ((zh.mk 0 0),false)
      else
       if (p.Lo==k.Lo) then
        some ((zh.mk (vc (p.Lo+1)) p.Hi),true)
       else
        if (p.Hi==k.Lo) then
         some ((zh.mk p.Lo (vc (p.Hi-1))),true)
        else
         some (p,true)
def dZ(p:Int)(k:Nat->zi)(a:zf)(f:Int×Bool×Bool)(g:zi)(h:Nat)(i:zj->Option zj)(b:zj):Option zj:=
 (idx ([true,false]) (h:Int)).bind λc=>
 (if (!c) then
  some (w64 (p+1))
 else
  some (w64 (p+f.1))).bind λj=>
 ((ain 8 a.A).bind λl=>
 (dY a.Op (k l).Uy g.Uy c).bind λd=>
 some (d.1,d.2)).bind λe=>
 if e.2 then
  (vk e.1).bind λn=>
  (ain 8 a.A).bind λq=>
  (jf b j (aset k q n)).bind λv=>
  i v
 else
  i b
def xX(p:zj)(i:Int)(j:Nat->zi):Option zj:=
 (idx p.Uq.Code i).bind λb=>
 (lW b).bind λa=>
 if ((!a.2.1)||decide (a.1<0)) then
  (if a.2.2 then
   (jf p (w64 (i+1)) j).bind λc=>
   some c
  else
   some p).bind λd=>
  some d
 else
  if (!a.2.2) then
   (jf p (w64 (i+a.1)) j).bind λe=>
   some e
  else
   (et b j).bind λf=>
   (jN (dZ i j b a f) (λ(g:zj)=>g) 2 0 p).bind λh=>
   some h
def cB(h:Nat)(a:Nat)(g:zj->Option (zj⊕((Option zj)×Int×Int)))(b:zj):Option (zj⊕((Option zj)×Int×Int)):=
 (idx b.any (a:Int)).bind λe=>
 if (!e) then
  g b
 else
  (xx b (a:Int)).bind λd=>
  (vy h d (a:Int)).bind λc=>
  if (c.2 !=0) then
   some (.inr (none,(a:Int),c.2))
  else
   (xX d (a:Int) c.1).bind λf=>
   g f
def xb(i:Nat)(p:zE):Option ((Option zj)×Int×Int):=
 (lh p.Maps).bind λc=>
 if (!c) then
  some (none,0,2)
 else
  (fv p.Code).bind λa=>
  if (a.2 !=0) then
   some (none,a.1,a.2)
  else
   ((mkLen ((p.Code).length:Int) 256).bind λd=>
   (mkLen ((p.Code).length:Int) 1).bind λe=>
   some (zj.mk p (List.replicate d (λ_=>(zi.mk 0 (zh.mk 0 0) 0))) (List.replicate e false) ([]:List qz))).bind λb=>
   (lj p.Code).bind λf=>
   (idx b.any 0).bind λl=>
   (jN (cB i) (λ(g:zj)=>(.inl g)) (p.Code).length 0 {b with any:=(b.any.set (Int.toNat 0) true),loops:=f.1}).bind λh=>match h with
    |.inl j=>
     some ((some j),0,0)
    |.inr r=>some r
def vA(f:Nat)(p:zE):Option (Int×Int):=
 (xb f p).bind λa=>
 vK a.1
  (some (a.2.1,a.2.2))
  (λb=>
  some (a.2.1,a.2.2))
def bW(p:qP):Option qP:=
 some (qP.mk (λ_=>0))
def fA(f:Nat)(p:zE)(g:qr)(e:zm):Option ((Option zt)×Int×zm):=
 (vA f p).bind λa=>
 if (a.2 !=0) then
  some (none,a.2,e)
 else
  (bW e.UU).bind λb=>
  (je p.Maps).bind λc=>
  (zV p.Code).bind λd=>
  some ((some (zt.mk g (zE.mk c d) (λ_=>0) (λ_=>0) 0 0 0)),0,(zm.mk b e.Uz))
def jY(f:Nat)(p:zl)(c:Int)(d:Int)(e:zE):Option (Int×zl):=
 if (p.Ua !=1) then
  some (41,p)
 else
  (fA f e p.UE.UK.Uv p.UM).bind λa=>
  vK a.1
   (if (a.2.1 !=0) then
    some (a.2.1,{p with UM:=a.2.2})
   else
    some (0,(zl.mk a.2.2 p.Vh 2 (bI.mk p.UE.hook p.UE.UK c d p.UE.calls none))))
   (λb=>
   if (a.2.1 !=0) then
    some (a.2.1,{p with UM:=a.2.2})
   else
    some (0,(zl.mk a.2.2 p.Vh 2 (bI.mk p.UE.hook p.UE.UK c d p.UE.calls (some b)))))
def vY(p:zl):Option (Int×Int):=
 some (p.UE.Ux,p.UE.prog)
def mZ(p:Int):Option (Int×Bool):=
 (dq p).bind λa=>
 some (a.1.asks,a.1.VL)
def xc(p:jp)(b:Int):Option (Int×Int×jp):=
 if (decide (b<0)||decide (b>=16)) then
  some (0,35,p)
 else
  (ain 16 b).bind λa=>
  some (((aset p.counts a (vc ((p.counts a)+1))) a),0,(jp.mk (aset p.counts a (vc ((p.counts a)+1)))))
def jZ(i:Nat)(p:zt)(h:Int)(g:zm):Option (qT×zt×zm):=
 (mZ h).bind λc=>
 if c.2 then
  (idx p.module.Maps (p.regs 1)).bind λd=>
  (xY i h).bind λe=>
  (if decide (((e).length:Int)>2) then
   some (p.regs 3)
  else
   some 0).bind λf=>
  some ((qT.mk 2 p.Uw (zg.mk d c.1 (p.regs 2) f) 0),{p with state:=1},g)
 else
  (if (h==5) then
   (xc g.Uz (w64 (p.regs 1))).bind λb=>
   some ({p with regs:=(aset p.regs 0 b.1)},(zm.mk g.UU b.2.2),(qT.mk 1 p.Uw (zg.mk 0 0 0 0) b.1))
  else
   some ({p with regs:=(aset p.regs 0 0)},g,(qT.mk 3 p.Uw (zg.mk 0 0 0 0) (p.regs 1)))).bind λa=>
  some (a.2.2,(zt.mk a.1.Uv a.1.module a.1.regs a.1.LT (w64 (a.1.Uw+1)) a.1.steps a.1.state),a.2.1)
def jD(b:zt)(p:zf):Option Int:=
 if (p.B==8) then
  some (vc p.UN)
 else
  (ain 8 p.B).bind λa=>
  some (b.regs a)
def xP(b:qP)(p:Int):Option (Int×Int):=
 if (decide (p<0)||decide (p>=16)) then
  some (0,35)
 else
  (ain 16 p).bind λa=>
  some ((b.Uu a),0)
def xz(b:qP)(p:Int)(c:Int):Option (Int×qP):=
 if (decide (p<0)||decide (p>=16)) then
  some (35,b)
 else
  (ain 16 p).bind λa=>
  some (0,(qP.mk (aset b.Uu a c)))
def jy(p:zt)(i:zf)(k:zm):Option (Int×zt×zm):=
 if (i.Op==0) then
  (jD p i).bind λe=>
  (ain 8 i.D).bind λf=>
  some (1,{p with regs:=(aset p.regs f e)},k)
 else
  if (i.Op==11) then
   (jD p i).bind λg=>
   (xP k.UU (w64 g)).bind λh=>
   (ain 8 i.D).bind λj=>
   some (1,{p with regs:=(aset p.regs j h.1)},k)
  else
   if (i.Op==12) then
    (ain 8 i.A).bind λl=>
    (jD p i).bind λn=>
    (xz k.UU (w64 n) (p.regs l)).bind λq=>
    some (1,p,(zm.mk q.2 k.Uz))
   else
    if (i.Op==13) then
     (ain 8 i.D).bind λa=>
     if (i.UN==1) then
      some (1,{p with regs:=(aset (aset p.regs a p.Uv.A) a p.Uv.B)},k)
     else
      some (1,{p with regs:=(aset p.regs a p.Uv.A)},k)
    else
     if (i.Op==14) then
      (ain 8 i.D).bind λv=>
      some (1,{p with regs:=(aset p.regs v (vc i.UN))},k)
     else
      if (i.Op==15) then
       some (w64 (i.D+1),p,k)
      else
       if (i.Op==20) then
        ((ain 8 i.A).bind λz=>
        if ((p.regs z) !=0) then
         (ain 64 p.Uw).bind λC=>
         some (decide ((p.LT C)<i.UN))
        else
         some false).bind λE=>
        if E then
         (ain 64 p.Uw).bind λb=>
         some (w64 (0-i.D),{p with LT:=(aset p.LT b (w64 ((p.LT b)+1)))},k)
        else
         (ain 64 p.Uw).bind λF=>
         some (1,{p with LT:=(aset p.LT F 0)},k)
       else
        (ain 8 i.A).bind λc=>
        (jD p i).bind λG=>
        (gJ i.Op (p.regs c) G).bind λd=>
        if d.2 then
         (ain 8 i.D).bind λH=>
         some (1,{p with regs:=(aset p.regs H d.1)},k)
        else
         (jD p i).bind λI=>
         (bm i.Op (p.regs c) I).bind λJ=>
         if J.1 then
          some (w64 (i.D+1),p,k)
         else
          some (1,p,k)
def qM(h:Nat)(p:zt)(g:zm):Option (qT×zt×zm):=
 if (p.state==1) then
  some ((qT.mk 5 p.Uw (zg.mk 0 0 0 0) 0),p,g)
 else
  if (p.state==2) then
   (idx p.module.Code p.Uw).bind λd=>
   (ain 8 d.A).bind λe=>
   some ((qT.mk 6 p.Uw (zg.mk 0 0 0 0) (p.regs e)),p,g)
  else
   (idx p.module.Code p.Uw).bind λb=>
   if (b.Op==21) then
    (jZ h {p with steps:=(w64 (p.steps+1))} b.UN g).bind λc=>
    some (c.1,c.2.1,c.2.2)
   else
    if (b.Op==22) then
     (ain 8 b.A).bind λf=>
     some ((qT.mk 4 p.Uw (zg.mk 0 0 0 0) (p.regs f)),{p with steps:=(w64 (p.steps+1)),state:=2},g)
    else
     (jy {p with steps:=(w64 (p.steps+1))} b g).bind λa=>
     some ((qT.mk 1 p.Uw (zg.mk 0 0 0 0) 0),(zt.mk a.2.1.Uv a.2.1.module a.2.1.regs a.2.1.LT (w64 (p.Uw+a.1)) a.2.1.steps a.2.1.state),a.2.2)
def aB(p:zt):Option Int:=
 some p.steps
def B8(p:List zP)(c:Nat)(d:zP->Option zP)(a:zP):Option zP:=
 (idx p (c:Int)).bind λb=>
 d (zP.mk (vc (a.VW+b.VW)) (vc (a.Vp+b.Vp)) (vc (a.VD+b.VD)) (vc (a.Calls+b.Calls)) (vc (a.Sum+b.Sum)))
def na(p:List zP):Option zP:=
 (jN (B8 p) (λ(a:zP)=>a) (p).length 0 (zP.mk 0 0 0 0 0)).bind λb=>
 some b
def cC(p:zU)(d:Int)(e:Int)(f:Int)(g:Int):Option (Int×zU):=
 (fq d).bind λb=>
 if (!b) then
  some (2,p)
 else
  (ain 4 d).bind λa=>
  (na ([(p.Uk a),(zP.mk 1 0 e f g)])).bind λc=>
  some (0,(zU.mk (aset p.Uk a c)))
def qA(f:Nat)(p:zl):Option (qT×Bool×zl):=
 if (p.Ua !=2) then
  some ((qT.mk 0 0 (zg.mk 0 0 0 0) 0),false,p)
 else
  p.UE.VK.bind λb=>
  (qM f b p.UM).bind λa=>
  if (a.1.TY==2) then
   some (a.1,true,(zl.mk a.2.2 p.Vh 3 (bI.mk p.UE.hook p.UE.UK p.UE.Ux p.UE.prog (vc (p.UE.calls+1)) (some a.2.1))))
  else
   if (a.1.TY==4) then
    (aB a.2.1).bind λc=>
    (cC p.Vh p.UE.hook (vc c) p.UE.calls a.1.UQ).bind λd=>
    (bV (zl.mk a.2.2 d.2 p.Ua (bI.mk p.UE.hook p.UE.UK p.UE.Ux p.UE.prog p.UE.calls (some a.2.1)))).bind λe=>
    some (a.1,true,e)
   else
    some (a.1,true,{p with UM:=a.2.2,UE:=(bI.mk p.UE.hook p.UE.UK p.UE.Ux p.UE.prog p.UE.calls (some a.2.1))})
def gB(p:zG)(i:List Int)(c:Nat)(h:(Nat->Bool)->Option (Unit⊕(Int×zG)))(b:(Nat->Bool)):Option (Unit⊕(Int×zG)):=
 (idx i (c:Int)).bind λa=>
 ((vp p a).bind λd=>
 if (!d) then
  some true
 else
  (ain 4 a).bind λe=>
  some (b e)).bind λf=>
 if f then
  some (.inr (2,p))
 else
  (ain 4 a).bind λg=>
  h (aset b g true)
def gC(p:zG)(f:List Int)(a:Nat)(e:Unit->Option (Unit⊕(Int×zG)))(d:Unit):Option (Unit⊕(Int×zG)):=
 (idx f (a:Int)).bind λb=>
 (idx p.in_ b).bind λc=>
 if (c==0) then
  some (.inr (41,p))
 else
  e ()
def gD(p:List Int)(c:Nat)(e:zG->Option zG)(a:zG):Option zG:=
 (idx p (c:Int)).bind λb=>
 (idx a.in_ b).bind λd=>
 e (zG.mk a.Vs (a.in_.set (Int.toNat b) 0))
def vr(i:zG)(p:List Int):Option (Int×zG):=
 (jN (gB i p) (λ(e:(Nat->Bool))=>(.inl ())) (p).length 0 (λ_=>false)).bind λa=>match a with
  |.inl f=>
   (jN (gC i p) (λ(g:Unit)=>(.inl ())) (p).length 0 ()).bind λb=>match b with
    |.inl h=>
     (jN (gD p) (λ(c:zG)=>c) (p).length 0 i).bind λd=>
     some (0,d)
    |.inr r=>some r
  |.inr r=>some r
def gU(p:Int)(c:zk):Option Int:=
 (if (p==0) then
  some (p==0)
 else
  some (p==4)).bind λa=>
 if a then
  some c.UQ
 else
  (if (p==1) then
   some (p==1)
  else
   some (p==3)).bind λb=>
  if b then
   if c.Found then
    some 1
   else
    some 0
  else
   if (p==2) then
    if (c.E==0) then
     some 1
    else
     some 0
   else
    some 0
def jE(p:zt)(c:zk)(g:zm):Option (Int×zt):=
 if (p.state !=1) then
  some (2,p)
 else
  (idx p.module.Code p.Uw).bind λa=>
  (gU a.UN c).bind λb=>
  some (0,{p with regs:=(aset p.regs 0 b),Uw:=(w64 (p.Uw+1)),state:=0})
def xn(p:zl)(c:zk):Option (Int×zl):=
 if (p.Ua !=3) then
  some (41,p)
 else
  p.UE.VK.bind λb=>
  (jE b c p.UM).bind λa=>
  some (a.1,{p with Ua:=2,UE:=(bI.mk p.UE.hook p.UE.UK p.UE.Ux p.UE.prog p.UE.calls (some a.2))})
def cR(p:za)(e:zA->Option zA)(a:zA):Option zA:=
 (idx p.rings a.UH).bind λb=>
 (bB b).bind λc=>
 if (c.Vi==0) then
  (nz ((p.rings).length:Int)).bind λd=>
  e {a with UH:=((w64 (a.UH+1)).tmod ((p.rings).length:Int))}
 else
  some a
def dC(k:Nat)(p:za)(i:Int):Option za:=
 (zZ p).bind λd=>
 (idx p.LE (w64 (i-d))).bind λb=>
 (xw b.TX).bind λe=>
 (jQ b.TX).bind λj=>
 if (j==0) then
  if p.closed then
   (room (p.Un.length+([(ze.mk 15 i 0 0 0 0 0 0 0 0 (zg.mk 0 0 0 0) (zk.mk 0 false 0 false 0 0) 0 0)]).length) 176).bind λL=>
   (bf p.Um ([i])).bind λz=>
   some {p with Um:=z.2,LE:=(p.LE.set (Int.toNat (w64 (i-d))) {b with Ue:=true}),Un:=(p.Un++[(ze.mk 15 i 0 0 0 0 0 0 0 0 (zg.mk 0 0 0 0) (zk.mk 0 false 0 false 0 0) 0 0)])}
  else
   (loop (cR p) k b).bind λg=>
   (idx p.rings g.UH).bind λA=>
   (vj A p.UL).bind λl=>
   (nz ((p.rings).length:Int)).bind λM=>
   (vT g.TX g.UH l.1).bind λB=>
   (room (p.Un.length+([(ze.mk 5 i 0 0 0 l.1.N g.UH 0 0 0 (zg.mk 0 0 0 0) (zk.mk 0 false 0 false 0 0) 0 0)]).length) 176).bind λO=>
   some {p with LE:=(p.LE.set (Int.toNat (w64 (i-d))) {g with TX:=B.2,UH:=((w64 (g.UH+1)).tmod ((p.rings).length:Int))}),rings:=(p.rings.set (Int.toNat g.UH) l.2.2),Un:=(p.Un++[(ze.mk 5 i 0 0 0 l.1.N g.UH 0 0 0 (zg.mk 0 0 0 0) (zk.mk 0 false 0 false 0 0) 0 0)])}
 else
  if (j==1) then
   (jn p.Fd.Us e.1).bind λh=>
   if (!h.2.2) then
    (xO b.TX).bind λC=>
    (room (p.Un.length+([(ze.mk 9 i 0 0 0 e.2.N e.1 0 0 0 (zg.mk 0 0 0 0) (zk.mk 0 false 0 false 0 0) 0 0)]).length) 176).bind λP=>
    some {p with LE:=(p.LE.set (Int.toNat (w64 (i-d))) {b with TX:=C.2}),Un:=(p.Un++[(ze.mk 9 i 0 0 0 e.2.N e.1 0 0 0 (zg.mk 0 0 0 0) (zk.mk 0 false 0 false 0 0) 0 0)])}
   else
    (qR p.Fd h.2.1).bind λD=>
    (vq p.Fd.Uo (w64 (i-d))).bind λE=>
    (jY k b.TX h.1 h.2.1 D.1).bind λF=>
    (room (p.Un.length+([(ze.mk 6 i 0 0 0 e.2.N e.1 h.2.1 h.1 0 (zg.mk 0 0 0 0) (zk.mk 0 false 0 false 0 0) 0 0)]).length) 176).bind λQ=>
    some {p with Fd:=(zb.mk p.Fd.Us p.Fd.UY E.2.2 p.Fd.Uk p.Fd.maps p.Fd.given p.Fd.Uj p.Fd.waiting),LE:=(p.LE.set (Int.toNat (w64 (i-d))) {b with TX:=F.2}),Un:=(p.Un++[(ze.mk 6 i 0 0 0 e.2.N e.1 h.2.1 h.1 0 (zg.mk 0 0 0 0) (zk.mk 0 false 0 false 0 0) 0 0)])}
  else
   if (j==2) then
    (xw b.TX).bind λf=>
    (vY b.TX).bind λc=>
    (qA k b.TX).bind λa=>
    if (a.1.TY==3) then
     (room (p.Un.length+([(ze.mk 8 i 0 0 0 f.2.N 0 c.2 c.1 a.1.Pc (zg.mk 0 0 0 0) (zk.mk 0 false 0 false 0 0) a.1.UQ 0)]).length) 176).bind λR=>
     some {p with LE:=(p.LE.set (Int.toNat (w64 (i-d))) {b with TX:=a.2.2}),Un:=(p.Un++[(ze.mk 8 i 0 0 0 f.2.N 0 c.2 c.1 a.1.Pc (zg.mk 0 0 0 0) (zk.mk 0 false 0 false 0 0) a.1.UQ 0)])}
    else
     if (a.1.TY==2) then
      (aA a.1.Item.UV ((p.Fn).length:Int)).bind λv=>
      (idx p.Fn v).bind λG=>
      (jI G ([(zq.mk i 0 false a.1.Item)])).bind λH=>
      (room (p.Un.length+([(ze.mk 16 i 0 0 0 f.2.N 0 c.2 c.1 a.1.Pc a.1.Item (zk.mk 0 false 0 false 0 0) a.1.UQ 0)]).length) 176).bind λS=>
      some {p with LE:=(p.LE.set (Int.toNat (w64 (i-d))) {b with TX:=a.2.2,pc:=a.1.Pc}),Fn:=(p.Fn.set (Int.toNat v) H.2),Un:=(p.Un++[(ze.mk 16 i 0 0 0 f.2.N 0 c.2 c.1 a.1.Pc a.1.Item (zk.mk 0 false 0 false 0 0) a.1.UQ 0)])}
     else
      if (a.1.TY==4) then
       (zZ {p with LE:=(p.LE.set (Int.toNat (w64 (i-d))) {b with TX:=a.2.2})}).bind λI=>
       (vr p.Fd.Uo ([w64 (i-I)])).bind λJ=>
       (room (p.Un.length+([(ze.mk 9 i 0 0 0 f.2.N f.1 c.2 c.1 a.1.Pc (zg.mk 0 0 0 0) (zk.mk 0 false 0 false 0 0) a.1.UQ 0)]).length) 176).bind λT=>
       some {p with Fd:=(zb.mk p.Fd.Us p.Fd.UY J.2 p.Fd.Uk p.Fd.maps p.Fd.given p.Fd.Uj p.Fd.waiting),LE:=(p.LE.set (Int.toNat (w64 (i-d))) {b with TX:=a.2.2}),Un:=(p.Un++[(ze.mk 9 i 0 0 0 f.2.N f.1 c.2 c.1 a.1.Pc (zg.mk 0 0 0 0) (zk.mk 0 false 0 false 0 0) a.1.UQ 0)])}
      else
       (room (p.Un.length+([(ze.mk 7 i 0 0 0 f.2.N 0 c.2 c.1 a.1.Pc (zg.mk 0 0 0 0) (zk.mk 0 false 0 false 0 0) a.1.UQ 0)]).length) 176).bind λU=>
       some {p with LE:=(p.LE.set (Int.toNat (w64 (i-d))) {b with TX:=a.2.2}),Un:=(p.Un++[(ze.mk 7 i 0 0 0 f.2.N 0 c.2 c.1 a.1.Pc (zg.mk 0 0 0 0) (zk.mk 0 false 0 false 0 0) a.1.UQ 0)])}
   else
    if (j==3) then
     (vY b.TX).bind λn=>
     b.Va.bind λq=>
     (room (p.Un.length+([(ze.mk 17 i 0 0 0 e.2.N 0 n.2 n.1 b.pc (zg.mk 0 0 0 0) q 0 0)]).length) 176).bind λV=>
     (xn b.TX q).bind λK=>
     some {p with LE:=(p.LE.set (Int.toNat (w64 (i-d))) {b with TX:=K.2,Va:=none}),Un:=(p.Un++[(ze.mk 17 i 0 0 0 e.2.N 0 n.2 n.1 b.pc (zg.mk 0 0 0 0) q 0 0)])}
    else
     some p
def zB(p:List zr):Option (List zr):=
 (room (([]:List zr).length+p.length) 16).bind λa=>
 some (([]:List zr)++p)
def vB(p:qo):Option (List zr):=
 (zB p.Ug).bind λa=>
 some a
def jz(p:qm):Option (List zr):=
 match p with
 |.inl x=>(vB x).bind λq=>some q
 |.inr x=>(vB x.Vl).bind λq=>some q
def fB(c:zc)(p:Int):Option ((List zr)×Int):=
 if (decide (p<0)||decide (p>=((c.maps).length:Int))) then
  some (([]:List zr),2)
 else
  (idx c.maps p).bind λa=>
  (jz a).bind λb=>
  some (b,0)
def pF(p:za)(g:Int)(c:Nat)(f:(List zr)->Option (List zr))(a:(List zr)):Option (List zr):=
 (idx p.Fn (c:Int)).bind λd=>
 (fB d g).bind λb=>
 (room (a.length+b.1.length) 16).bind λe=>
 f (a++b.1)
def iy(p:za)(c:Int):Option ((List zr)×Int):=
 if (decide (c<0)||decide (c>=((p.Ur.Maps).length:Int))) then
  some (([]:List zr),2)
 else
  (jN (pF p c) (λ(a:(List zr))=>a) (p.Fn).length 0 ([]:List zr)).bind λb=>
  some (b,0)
def vP(p:zr)(a:Int):Option Int:=
 if decide (p.UV<a) then
  some (-1)
 else
  if decide (p.UV>a) then
   some 1
  else
   some 0
def qI(p:List zr)(e:Int)(d:(Int×Int)->Option Int)(a:Int×Int):Option Int:=
 if decide (a.1<a.2) then
  (idx p (w64 (kr .u64 (vc (w64 (a.1+a.2))) 1))).bind λb=>
  (vP b e).bind λc=>
  if decide (c<0) then
   d (w64 ((w64 (kr .u64 (vc (w64 (a.1+a.2))) 1))+1),a.2)
  else
   d (a.1,w64 (kr .u64 (vc (w64 (a.1+a.2))) 1))
 else
  some a.1
def zO(f:Nat)(p:List zr)(e:Int):Option (Int×Bool):=
 (loop (qI p e) f (0,((p).length:Int))).bind λa=>
 (if decide (a<((p).length:Int)) then
  (idx p a).bind λb=>
  (vP b e).bind λc=>
  some (c==0)
 else
  some false).bind λd=>
 some (a,d)
def fQ(f:Nat)(p:qo)(b:Int):Option (Int×Bool):=
 (zO f p.Ug b).bind λa=>
 some (a.1,a.2)
def qj(p:List zr)(a b:Int):Option (List zr):=Nl p a b
def qk(p:List zr)(a:Int)(b:List zr):Option ((List zr)×(List zr)):=P6 16 p a b
def jR(m:Nat)(p:qo)(i:Int)(l:Int)(k:Int):Option (zk×qo):=
 if (decide (i<0)||decide (i>=5)) then
  some ((zk.mk 2 false 0 false 0 0),p)
 else
  (fQ m p l).bind λa=>
  (if (a.2&&(i !=1)) then
   (idx p.Ug a.1).bind λe=>
   some (zk.mk 0 a.2 e.UQ false 0 0)
  else
   some (zk.mk 0 a.2 0 false 0 0)).bind λb=>
  if (i==3) then
   if a.2 then
    (qj p.Ug a.1 (w64 (a.1+1))).bind λf=>
    some (b,(qo.mk p.cap f))
   else
    some (b,p)
  else
   (if (i==2) then
    some (i==2)
   else
    some (i==4)).bind λg=>
   if g then
    if ((!a.2)&&(((p.Ug).length:Int)==p.cap)) then
     some ((zk.mk 40 false 0 false 0 0),p)
    else
     (if (!a.2) then
      (qk p.Ug a.1 ([(zr.mk l 0)])).bind λh=>
      some (qo.mk p.cap h.1)
     else
      some p).bind λc=>
     (if (i==4) then
      some (vc (b.UQ+k),{b with UQ:=(vc (b.UQ+k))})
     else
      some (k,b)).bind λd=>
     (idx c.Ug a.1).bind λj=>
     some (d.2,(qo.mk c.cap (c.Ug.set (Int.toNat a.1) (zr.mk j.UV d.1))))
   else
    some (b,p)
def xZ(p:List Int)(f:Int)(a:Nat)(e:Unit->Option (Unit⊕Int))(d:Unit):Option (Unit⊕Int):=
 (idx p (a:Int)).bind λb=>
 (bJ b f).bind λc=>
 if c then
  some (.inr (a:Int))
 else
  e ()
def qU(p:List Int)(d:Int):Option Int:=
 (jN (xZ p d) (λ(b:Unit)=>(.inl ())) (p).length 0 ()).bind λa=>match a with
  |.inl c=>
   some (-1)
  |.inr r=>some r
abbrev yD:=(List Int)×Int
def xQ(p:Int)(e:((List Int)×Int×Int)->Option yD)(a:(List Int)×Int×Int):Option yD:=
 if decide (a.2.2<((a.1).length:Int)) then
  (idx a.1 a.2.2).bind λb=>
  (bJ b p).bind λc=>
  if (!c) then
   (idx a.1 a.2.1).bind λd=>
   e ((a.1.set (Int.toNat a.2.1) b),w64 (a.2.1+1),w64 (a.2.2+1))
  else
   e (a.1,a.2.1,w64 (a.2.2+1))
 else
  some (a.1,a.2.1)
def qN(f:Nat)(p:List Int)(e:Int):Option (List Int):=
 (qU p e).bind λb=>
 if (b==(-1)) then
  some p
 else
  (loop (xQ e) f (p,b,w64 (b+1))).bind λa=>
  (cut a.1 a.2 (a.1.length:Int)).bind λc=>
  (cut (a.1.take (Int.toNat a.2)++List.replicate c.length 0) 0 a.2).bind λd=>
  some d
def xL(f:Nat)(p:qB)(b:Int):Option qB:=
 (qN f p.Vr b).bind λa=>
 some (qB.mk p.Vl a)
def cT(f:Nat)(p:qB)(d:zk):Option (qB×zk):=
 (idx p.Vr (w64 (((p.Vr).length:Int)-1))).bind λa=>
 (jR f p.Vl 3 a 0).bind λb=>
 (xL f (qB.mk b.2 p.Vr) a).bind λc=>
 some (c,(zk.mk d.E d.Found d.UQ true a b.1.UQ))
def jF(p:List Int)(a:Int)(b:List Int):Option ((List Int)×(List Int)):=P6 8 p a b
def vd(f:Nat)(c:qB)(p:Int):Option qB:=
 (xL f c p).bind λa=>
 (jF a.Vr 0 ([p])).bind λb=>
 some (qB.mk a.Vl b.1)
def ez(h:Nat)(j:qB)(p:Int)(i:Int)(k:Int):Option (zk×qB):=
 (jR h j.Vl p i k).bind λc=>
 (if (c.1.E==40) then
  (cT h (qB.mk c.2 j.Vr) (zk.mk 0 false 0 false 0 0)).bind λb=>
  (jR h b.1.Vl p i k).bind λd=>
  some ((qB.mk d.2 b.1.Vr),(zk.mk d.1.E d.1.Found d.1.UQ b.2.Wt b.2.Vx b.2.Vy))
 else
  some ((qB.mk c.2 j.Vr),c.1)).bind λa=>
 if (a.2.E !=0) then
  some (a.2,a.1)
 else
  (if (p==2) then
   some (p==2)
  else
   if (p==4) then
    some (p==4)
   else
    if (p==0) then
     some a.2.Found
    else
     some false).bind λe=>
  if e then
   (vd h a.1 i).bind λf=>
   some (a.2,f)
  else
   if (p==3) then
    (xL h a.1 i).bind λg=>
    some (a.2,g)
   else
    some (a.2,a.1)
def jG(f:Nat)(c:qm)(p:Int)(a:Int)(b:Int):Option (zk×qm):=
 match c with
 |.inl x=>(jR f x p a b).bind λq=>some (q.1,(.inl q.2))
 |.inr x=>(ez f x p a b).bind λq=>some (q.1,(.inr q.2))
def jJ(g:Nat)(p:zc):Option (vw×Bool×zc):=
 if (((p.TZ).length:Int)==0) then
  some ((vw.mk 0 0 false (zg.mk 0 0 0 0) (zk.mk 0 false 0 false 0 0) ([]:List zr)),false,p)
 else
  (idx p.TZ 0).bind λa=>
  (cut p.TZ 1 (p.TZ.length:Int)).bind λb=>
  if a.Vw then
   (idx p.maps a.Item.UI).bind λd=>
   (jz d).bind λe=>
   some ({a with To:=a.Vf,UJ:=(zk.mk 0 false 0 false 0 0),Pairs:=e},true,{p with TZ:=b})
  else
   (idx p.maps a.Item.UI).bind λf=>
   (jG g f a.Item.Op a.Item.UV a.Item.UQ).bind λc=>
   some ({a with To:=a.Vf,UJ:=c.1,Pairs:=([]:List zr)},true,{p with maps:=(p.maps.set (Int.toNat a.Item.UI) c.2),TZ:=b})
def cD(p:zc):Option (Int×zc):=
 if decide (((p.TZ).length:Int)>0) then
  some (42,p)
 else
  some (0,{p with Ue:=true})
def cF(k:Nat)(p:za)(i:Int):Option za:=
 (qF p).bind λc=>
 (idx p.Fn (w64 (i-c))).bind λg=>
 (jJ k g).bind λa=>
 if (!a.2.1) then
  (cD a.2.2).bind λh=>
  (room (p.Un.length+([(ze.mk 15 i 0 0 0 0 0 0 0 0 (zg.mk 0 0 0 0) (zk.mk 0 false 0 false 0 0) 0 0)]).length) 176).bind λn=>
  (bf p.Um ([i])).bind λj=>
  some {p with Um:=j.2,Fn:=(p.Fn.set (Int.toNat (w64 (i-c))) h.2),Un:=(p.Un++[(ze.mk 15 i 0 0 0 0 0 0 0 0 (zg.mk 0 0 0 0) (zk.mk 0 false 0 false 0 0) 0 0)])}
 else
  (zZ {p with Fn:=(p.Fn.set (Int.toNat (w64 (i-c))) a.2.2)}).bind λl=>
  if decide (a.1.To>=l) then
   (zZ {p with Fn:=(p.Fn.set (Int.toNat (w64 (i-c))) a.2.2)}).bind λd=>
   (idx p.LE (w64 (a.1.To-d))).bind λe=>
   (xw e.TX).bind λf=>
   (room (p.Un.length+([(ze.mk 3 i a.1.To 0 a.1.VN f.2.N 0 0 0 0 a.1.Item a.1.UJ 0 0)]).length) 176).bind λq=>
   some {p with LE:=(p.LE.set (Int.toNat (w64 (a.1.To-d))) {e with Va:=(some a.1.UJ)}),Fn:=(p.Fn.set (Int.toNat (w64 (i-c))) a.2.2),Un:=(p.Un++[(ze.mk 3 i a.1.To 0 a.1.VN f.2.N 0 0 0 0 a.1.Item a.1.UJ 0 0)])}
  else
   (idx p.or a.1.To).bind λb=>
   if a.1.Vw then
    (idx b.parts a.1.VN).bind λv=>
    some {p with or:=(p.or.set (Int.toNat a.1.To) {b with Ul:=(w64 (b.Ul-1)),parts:=(b.parts.set (Int.toNat a.1.VN) a.1.Pairs)}),Fn:=(p.Fn.set (Int.toNat (w64 (i-c))) a.2.2)}
   else
    (idx b.Id.UJ a.1.VN).bind λz=>
    (room (p.Un.length+([(ze.mk 3 i a.1.To b.Uw a.1.VN 0 0 0 0 0 a.1.Item a.1.UJ 0 0)]).length) 176).bind λA=>
    some {p with or:=(p.or.set (Int.toNat a.1.To) {b with Ul:=(w64 (b.Ul-1)),Id:=(zy.mk b.Id.E b.Id.N (b.Id.UJ.set (Int.toNat a.1.VN) a.1.UJ) b.Id.Pairs)}),Fn:=(p.Fn.set (Int.toNat (w64 (i-c))) a.2.2),Un:=(p.Un++[(ze.mk 3 i a.1.To b.Uw a.1.VN 0 0 0 0 0 a.1.Item a.1.UJ 0 0)])}
def qe(p:List zx)(a b:Int):Option (List zx):=Nl p a b
abbrev yF:=Unit⊕(Int×zR)
def fC(g:zR)(p:List Int)(a:Nat)(f:Unit->Option yF)(e:Unit):Option yF:=
 (idx p (a:Int)).bind λb=>
 (cut p 0 (a:Int)).bind λc=>
 (zW c b).bind λd=>
 if d then
  some (.inr (2,g))
 else
  f ()
def fD(p:zR)(e:List Int)(a:Nat)(d:Unit->Option yF)(c:Unit):Option yF:=
 (idx e (a:Int)).bind λb=>
 if (!(ja p.held b).isSome) then
  some (.inr (41,p))
 else
  d ()
def fE(p:List Int)(b:Nat)(d:zR->Option zR)(a:zR):Option zR:=
 (idx p (b:Int)).bind λc=>
 d (zR.mk a.maps (mdel a.held c))
def bL(i:zR)(p:List Int):Option (Int×zR):=
 (jN (fC i p) (λ(e:Unit)=>(.inl ())) (p).length 0 ()).bind λa=>match a with
  |.inl f=>
   (jN (fD i p) (λ(g:Unit)=>(.inl ())) (p).length 0 ()).bind λb=>match b with
    |.inl h=>
     (jN (fE p) (λ(c:zR)=>c) (p).length 0 i).bind λd=>
     some (0,d)
    |.inr r=>some r
  |.inr r=>some r
def aM(p:List Int)(f:List Int)(a:Nat)(e:Unit->Option (Unit⊕Int))(d:Unit):Option (Unit⊕Int):=
 (idx p (a:Int)).bind λb=>
 (jj b f).bind λc=>
 if c then
  some (.inr (a:Int))
 else
  e ()
def jA(p:List Int)(d:List Int):Option Int:=
 (jN (aM p d) (λ(b:Unit)=>(.inl ())) (p).length 0 ()).bind λa=>match a with
  |.inl c=>
   some (-1)
  |.inr r=>some r
def xq(p:List Int)(e:((List Int)×Int×Int)->Option yD)(a:(List Int)×Int×Int):Option yD:=
 if decide (a.2.2<((a.1).length:Int)) then
  (idx a.1 a.2.2).bind λb=>
  (jj b p).bind λc=>
  if (!c) then
   (idx a.1 a.2.1).bind λd=>
   e ((a.1.set (Int.toNat a.2.1) b),w64 (a.2.1+1),w64 (a.2.2+1))
  else
   e (a.1,a.2.1,w64 (a.2.2+1))
 else
  some (a.1,a.2.1)
def jq(f:Nat)(p:List Int)(e:List Int):Option (List Int):=
 (jA p e).bind λb=>
 if (b==(-1)) then
  some p
 else
  (loop (xq e) f (p,b,w64 (b+1))).bind λa=>
  (cut a.1 a.2 (a.1.length:Int)).bind λc=>
  (cut (a.1.take (Int.toNat a.2)++List.replicate c.length 0) 0 a.2).bind λd=>
  some d
def vC(p:zb)(i:Int)(c:Nat)(h:(List Int)->Option (List Int))(a:(List Int)):Option (List Int):=
 (idx p.waiting (c:Int)).bind λb=>
 (if decide (((a).length:Int)<i) then
  (ja p.Uj b).bind λd=>
  (vM p.Uo d.UD).bind λe=>
  some e
 else
  some false).bind λf=>
 if f then
  (room (a.length+([b]).length) 8).bind λg=>
  h (a++[b])
 else
  h a
def vD(c:(List Int))(d:Nat)(f:zb->Option zb)(a:zb):Option zb:=
 (idx c (d:Int)).bind λb=>
 (bL a.UY ([b])).bind λe=>
 f {a with UY:=e.2,Uj:=(mdel a.Uj b)}
def xd(f:Nat)(p:zb)(g:Int):Option ((List Int)×zb):=
 (jN (vC p g) (λ(c:(List Int))=>c) (p.waiting).length 0 ([]:List Int)).bind λa=>
 (jN (vD a) (λ(d:zb)=>d) (a).length 0 p).bind λb=>
 (jq f b.waiting a).bind λe=>
 some (a,{b with waiting:=e})
def jV(p:za)(b:Int)(c:Int)(d:Int):Option za:=
 (idx p.or b).bind λa=>
 some {p with or:=(p.or.set (Int.toNat b) {a with Ul:=0,Id:=(zy.mk d c a.Id.UJ a.Id.Pairs)})}
def qD(p:zz)(a:Int):Option zz:=
 if (p.e==0) then
  some {p with e:=a}
 else
  some p
def gE(i:zz->Option zz)(a:zz):Option zz:=
 if (decide (a.Uw<3)&&(a.e==0)) then
  (if decide (a.Uw>=((a.b).length:Int)) then
   (qD {a with field:=a.Uw} 10).bind λd=>
   some d
  else
   (idx a.b a.Uw).bind λf=>
   (wo (⟨[84,80,1].toArray⟩) a.Uw).bind λg=>
   if (f !=g) then
    (qD {a with field:=a.Uw} 12).bind λh=>
    some h
   else
    some {a with field:=a.Uw}).bind λc=>
  i {c with Uw:=(w64 (c.Uw+1))}
 else
  some a
def aN(f:Nat)(p:zz):Option zz:=
 (loop gE f p).bind λa=>
 some a
def wO(p:List Int)(a:Nat)(e:Int->Option (Unit⊕(Int×Int×Int)))(c:Int):Option (Unit⊕(Int×Int×Int)):=
 (idx p (a:Int)).bind λb=>
 if ((((a:Int)==9)&&decide (b>1))||(decide ((a:Int)>0)&&(b==0))) then
  some (.inr (0,0,12))
 else
  (nn (w64 (7*(a:Int)))).bind λd=>
  if decide (b<128) then
   some (.inr (bOr .u64 c (Ah .u64 (vc (Ag .u8 b 127)) (w64 (7*(a:Int)))),w64 ((a:Int)+1),0))
  else
   e (bOr .u64 c (Ah .u64 (vc (Ag .u8 b 127)) (w64 (7*(a:Int)))))
def rR(p:List Int):Option (Int×Int×Int):=
 (jN (wO p) (λ(b:Int)=>(.inl ())) (p).length 0 0).bind λa=>match a with
  |.inl c=>
   some (0,0,10)
  |.inr r=>some r
def qZ(p:zz)(g:Int)(h:Int):Option (Int×zz):=
 if (p.e !=0) then
  some (0,p)
 else
  (cut p.b p.Uw (p.b.length:Int)).bind λc=>
  (rR c).bind λa=>
  if (a.2.2 !=0) then
   (qD (zz.mk p.b (w64 (p.Uw+a.2.1)) p.Uw p.e) a.2.2).bind λd=>
   some (0,d)
  else
   if decide (a.1>g) then
    (qD (zz.mk p.b (w64 (p.Uw+a.2.1)) p.Uw p.e) h).bind λf=>
    some (0,f)
   else
    some (w64 a.1,(zz.mk p.b (w64 (p.Uw+a.2.1)) p.Uw p.e))
def lz(p:List Int):Option (Int×Int×Int):=
 (rR p).bind λa=>
 some (ND .i64 (w64 (kr .u64 a.1 1)) (w64 (0-(w64 (Ag .u64 a.1 1)))),a.2.1,a.2.2)
def bC(p:zz):Option (zf×zz):=
 (qZ p 22 12).bind λd=>
 (qZ d.2 63 12).bind λf=>
 (qZ f.2 63 12).bind λg=>
 (qZ g.2 63 12).bind λa=>
 if (a.2.e !=0) then
  some ((zf.mk d.1 f.1 g.1 a.1 0),a.2)
 else
  (cut a.2.b a.2.Uw (a.2.b.length:Int)).bind λh=>
  (lz h).bind λc=>
  if (c.2.2 !=0) then
   (qD (zz.mk a.2.b (w64 (a.2.Uw+c.2.1)) a.2.Uw a.2.e) c.2.2).bind λj=>
   some ((zf.mk d.1 f.1 g.1 a.1 c.1),j)
  else
   (fW ([(zf.mk d.1 f.1 g.1 a.1 c.1)])).bind λl=>
   if (!l) then
    (qD (zz.mk a.2.b (w64 (a.2.Uw+c.2.1)) p.Uw a.2.e) 12).bind λn=>
    some ((zf.mk d.1 f.1 g.1 a.1 c.1),n)
   else
    some ((zf.mk d.1 f.1 g.1 a.1 c.1),(zz.mk a.2.b (w64 (a.2.Uw+c.2.1)) a.2.Uw a.2.e))
def oB(d:Int×zz)(i:(zz×(List Int)×Int)->Option (zz×(List Int)))(a:zz×(List Int)×Int):Option (zz×(List Int)):=
 if decide (a.2.2<d.1) then
  (qZ a.1 3 12).bind λb=>
  (zW a.2.1 b.1).bind λf=>
  (if f then
   (qD b.2 12).bind λg=>
   some g
  else
   some b.2).bind λc=>
  if (c.e !=0) then
   some (c,a.2.1)
  else
   (room (a.2.1.length+([b.1]).length) 8).bind λh=>
   i (c,(a.2.1++[b.1]),w64 (a.2.2+1))
 else
  some (a.1,a.2.1)
def oC(c:Int×zz)(f:(zz×(List zf)×Int)->Option (zz×(List zf)))(a:zz×(List zf)×Int):Option (zz×(List zf)):=
 if (decide (a.2.2<c.1)&&(a.1.e==0)) then
  (bC a.1).bind λb=>
  (room (a.2.1.length+([b.1]).length) 40).bind λd=>
  f (b.2,(a.2.1++[b.1]),w64 (a.2.2+1))
 else
  some (a.1,a.2.1)
def xa(i:Nat)(p:List Int):Option (zE×Int×Int):=
 (aN i (zz.mk p 0 0 0)).bind λh=>
 (qZ h 4 11).bind λf=>
 (loop (oB f) i (f.2,([]:List Int),0)).bind λg=>
 (qZ g.1 64 11).bind λc=>
 (if (c.1==0) then
  (qD c.2 12).bind λj=>
  some j
 else
  some c.2).bind λl=>
 (loop (oC c) i (l,([]:List zf),0)).bind λa=>
 (if ((a.1.e==0)&&decide (a.1.Uw<((p).length:Int))) then
  (qD (zz.mk a.1.b a.1.Uw a.1.Uw a.1.e) 13).bind λn=>
  some n
 else
  some a.1).bind λd=>
 if (d.e !=0) then
  some ((zE.mk ([]:List Int) ([]:List zf)),d.field,d.e)
 else
  some ((zE.mk g.2 a.2),0,0)
def fF(p:zR)(h:List Int)(b:Nat)(g:Unit->Option yF)(f:Unit):Option yF:=
 (idx h (b:Int)).bind λa=>
 (if decide (a<0) then
  some true
 else
  if decide (a>=p.maps) then
   some true
  else
   (cut h 0 (b:Int)).bind λc=>
   (zW c a).bind λd=>
   some d).bind λe=>
 if e then
  some (.inr (2,p))
 else
  g ()
def dD(p:zR)(f:Int)(e:List Int):Option (Int×zR):=
 (jN (fF p e) (λ(c:Unit)=>(.inl ())) (e).length 0 ()).bind λa=>match a with
  |.inl d=>
   if (ja p.held f).isSome then
    some (42,p)
   else
    (je e).bind λb=>
    some (0,(zR.mk p.maps (mput p.held f b)))
  |.inr r=>some r
abbrev yH:=Int×Int×zb
def aj(p:zb)(a:zE×Int×Int)(b:Nat)(e:Unit->Option (Unit⊕yH))(d:Unit):Option (Unit⊕yH):=
 (idx a.1.Maps (b:Int)).bind λc=>
 if decide (c>=p.maps) then
  some (.inr (0,41,p))
 else
  e ()
def ju(g:Nat)(p:zb)(h:List Int):Option yH:=
 (xa g h).bind λa=>
 if (a.2.2 !=0) then
  some (0,a.2.2,p)
 else
  (vA g a.1).bind λb=>
  if (b.2 !=0) then
   some (0,b.2,p)
  else
   (jN (aj p a) (λ(e:Unit)=>(.inl ())) (a.1.Maps).length 0 ()).bind λc=>match c with
    |.inl f=>
     if decide ((p.Uj.length:Int)>=16) then
      some (0,40,p)
     else
      (dD p.UY (w64 (p.given+1)) a.1.Maps).bind λd=>
      some (w64 (p.given+1),0,{p with UY:=d.2,given:=(w64 (p.given+1)),Uj:=(mput p.Uj (w64 (p.given+1)) (zS.mk a.1 0))})
    |.inr r=>some r
def aC(p:xI):Option (Int×xI):=
 some (w64 (p.last+1),(xI.mk (w64 (p.last+1))))
def bp(p:xI):Option Int:=
 some p.last
def xA(p:zC)(d:Int)(e:Int):Option (Int×Int×zC):=
 (aC p.UB).bind λa=>
 (idx p.Uk d).bind λc=>
 (bp a.2).bind λb=>
 some (b,0,(zC.mk a.2 (p.Uk.set (Int.toNat d) (xk.mk a.1 e))))
def vZ(p:zC)(d:Int)(e:Int):Option (Int×Int×zC):=
 (jg p d).bind λb=>
 if (!b) then
  some (0,2,p)
 else
  (jh p d).bind λc=>
  if c then
   some (0,42,p)
  else
   (xA p d e).bind λa=>
   some (a.1,a.2.1,a.2.2)
def jB(p:zb)(c:Int)(d:Int):Option yH:=
 if decide (c<0) then
  some (0,2,p)
 else
  if decide (c>=p.Uk) then
   some (0,2,p)
  else
   if (ja p.Uj d).isSome then
    (ja p.Uj d).bind λb=>
    if (!(b.UD==0)) then
     some (0,41,p)
    else
     (vZ p.Us c d).bind λa=>
     some (a.1,a.2.1,{p with Us:=a.2.2})
   else
    some (0,41,p)
def xB(p:za)(e:zx)(g:Int)(f:Int)(h:Int):Option za:=
 (if (h==0) then
  (qH p).bind λa=>
  (room (p.Un.length+([(ze.mk 11 a 0 0 0 0 e.cmd.UF g f 0 (zg.mk 0 0 0 0) (zk.mk 0 false 0 false 0 0) 0 0)]).length) 176).bind λd=>
  some {p with Un:=(p.Un++[(ze.mk 11 a 0 0 0 0 e.cmd.UF g f 0 (zg.mk 0 0 0 0) (zk.mk 0 false 0 false 0 0) 0 0)])}
 else
  some p).bind λb=>
 (jV b e.Ut f h).bind λc=>
 some c
def bD(p:zC)(d:Int)(e:Int):Option (Int×Int×zC):=
 (jg p d).bind λb=>
 if (!b) then
  some (0,2,p)
 else
  (jh p d).bind λc=>
  if (!c) then
   some (0,41,p)
  else
   (xA p d e).bind λa=>
   some (a.1,a.2.1,a.2.2)
def jT(p:zb)(c:Int)(d:Int):Option yH:=
 if decide (c<0) then
  some (0,2,p)
 else
  if decide (c>=p.Uk) then
   some (0,2,p)
  else
   if (ja p.Uj d).isSome then
    (ja p.Uj d).bind λb=>
    if (!(b.UD==0)) then
     some (0,41,p)
    else
     (bD p.Us c d).bind λa=>
     some (a.1,a.2.1,{p with Us:=a.2.2})
   else
    some (0,41,p)
def fZ(p:zC)(i:List Int)(a:Nat)(h:Unit->Option (Unit⊕(Int×zC)))(g:Unit):Option (Unit⊕(Int×zC)):=
 (idx i (a:Int)).bind λb=>
 ((jg p b).bind λc=>
 if (!c) then
  some true
 else
  (cut i 0 (a:Int)).bind λd=>
  (zW d b).bind λe=>
  some e).bind λf=>
 if f then
  some (.inr (2,p))
 else
  h ()
def ga(p:zC)(f:List Int)(a:Nat)(e:Unit->Option (Unit⊕(Int×zC)))(d:Unit):Option (Unit⊕(Int×zC)):=
 (idx f (a:Int)).bind λb=>
 (jh p b).bind λc=>
 if (!c) then
  some (.inr (41,p))
 else
  e ()
def gf(p:List Int)(c:Nat)(e:zC->Option zC)(a:zC):Option zC:=
 (idx p (c:Int)).bind λb=>
 (idx a.Uk b).bind λd=>
 e (zC.mk a.UB (a.Uk.set (Int.toNat b) (xk.mk 0 0)))
def xR(i:zC)(p:List Int):Option (Int×zC):=
 (jN (fZ i p) (λ(e:Unit)=>(.inl ())) (p).length 0 ()).bind λa=>match a with
  |.inl f=>
   (jN (ga i p) (λ(g:Unit)=>(.inl ())) (p).length 0 ()).bind λb=>match b with
    |.inl h=>
     (jN (gf p) (λ(c:zC)=>c) (p).length 0 i).bind λd=>
     some (0,d)
    |.inr r=>some r
  |.inr r=>some r
def gF(p:zC)(h:List Int)(a:Nat)(g:(List Int)->Option (List Int))(b:(List Int)):Option (List Int):=
 (idx p.Uk (a:Int)).bind λc=>
 (if decide (c.Ux>0) then
  (zW h c.prog).bind λd=>
  some d
 else
  some false).bind λe=>
 if e then
  (room (b.length+([(a:Int)]).length) 8).bind λf=>
  g (b++[(a:Int)])
 else
  g b
def aO(p:zC)(c:List Int):Option (List Int):=
 (jN (gF p c) (λ(a:(List Int))=>a) (p.Uk).length 0 ([]:List Int)).bind λb=>
 some b
def vE(p:zG):Option (Int×zG):=
 some (w64 (p.Vs+1),(zG.mk (w64 (p.Vs+1)) p.in_))
def qS(p:zb)(e:Int):Option yH:=
 if (!(ja p.Uj e).isSome) then
  some (0,41,p)
 else
  (ja p.Uj e).bind λb=>
  if decide (b.UD>0) then
   some (0,42,p)
  else
   (aO p.Us ([e])).bind λc=>
   if decide (((c).length:Int)>0) then
    some (0,42,p)
   else
    (vE p.Uo).bind λa=>
    (room (p.waiting.length+([e]).length) 8).bind λd=>
    some (a.1,0,{p with Uo:=a.2,Uj:=(wn p.Uj e (zS.mk b.module a.1)),waiting:=(p.waiting++[e])})
def qt(p:List qa):Option (List qa):=
 (room (([]:List qa).length+p.length) 24).bind λa=>
 some (([]:List qa)++p)
def dE(p:zp)(g:zL):Option ((List qa)×zp):=
 (qt p.waiting).bind λa=>
 some (a,(zp.mk p.room true ([]:List qa) (xH.mk p.counts.US p.counts.Ve p.counts.Vz (w64 (p.counts.Vb+((p.waiting).length:Int))) p.counts.Vi)))
def dr(p:za)(j:zx)(a:Nat)(f:(List zp)×(List ze))(c:(List qa)×zp)(g:Nat)(i:(List ze)->Option (List ze))(b:(List ze)):Option (List ze):=
 (idx c.1 (g:Int)).bind λd=>
 (qH {p with rings:=(f.1.set (Int.toNat (a:Int)) c.2),Uh:=j.Ut,closed:=true,Un:=b}).bind λe=>
 (room (b.length+([(ze.mk 10 e 0 0 0 d.N (a:Int) 0 0 0 (zg.mk 0 0 0 0) (zk.mk 0 false 0 false 0 0) 0 0)]).length) 176).bind λh=>
 i (b++[(ze.mk 10 e 0 0 0 d.N (a:Int) 0 0 0 (zg.mk 0 0 0 0) (zk.mk 0 false 0 false 0 0) 0 0)])
def dt(p:za)(h:zx)(b:Nat)(g:((List zp)×(List ze))->Option za)(a:(List zp)×(List ze)):Option za:=
 (idx a.1 (b:Int)).bind λd=>
 (dE d p.UL).bind λc=>
 (jN (dr p h b a c) (λ(e:(List ze))=>e) (c.1).length 0 a.2).bind λf=>
 g ((a.1.set (Int.toNat (b:Int)) c.2),f)
def cU(k:Nat)(p:za)(i:zx):Option za:=
 if (i.cmd.TY==4) then
  (ju k p.Fd i.cmd.Uq).bind λa=>
  (if (a.2.1==0) then
   (qH {p with Fd:=a.2.2}).bind λf=>
   (room (p.Un.length+([(ze.mk 12 f 0 0 0 0 0 a.1 0 0 (zg.mk 0 0 0 0) (zk.mk 0 false 0 false 0 0) 0 0)]).length) 176).bind λB=>
   some {p with Fd:=a.2.2,Un:=(p.Un++[(ze.mk 12 f 0 0 0 0 0 a.1 0 0 (zg.mk 0 0 0 0) (zk.mk 0 false 0 false 0 0) 0 0)])}
  else
   some {p with Fd:=a.2.2}).bind λl=>
  (jV l i.Ut a.1 a.2.1).bind λn=>
  some n
 else
  if (i.cmd.TY==5) then
   (jB p.Fd i.cmd.UF i.cmd.UA).bind λd=>
   (xB {p with Fd:=d.2.2} i i.cmd.UA d.1 d.2.1).bind λq=>
   some q
  else
   if (i.cmd.TY==6) then
    (jT p.Fd i.cmd.UF i.cmd.UA).bind λe=>
    (xB {p with Fd:=e.2.2} i i.cmd.UA e.1 e.2.1).bind λv=>
    some v
   else
    if (i.cmd.TY==7) then
     (xR p.Fd.Us ([i.cmd.UF])).bind λg=>
     (xB {p with Fd:=(zb.mk g.2 p.Fd.UY p.Fd.Uo p.Fd.Uk p.Fd.maps p.Fd.given p.Fd.Uj p.Fd.waiting)} i 0 0 g.1).bind λz=>
     some z
    else
     if (i.cmd.TY==8) then
      (qS p.Fd i.cmd.UA).bind λb=>
      if (b.2.1 !=0) then
       (jV {p with Fd:=b.2.2} i.Ut 0 b.2.1).bind λA=>
       some A
      else
       (room (p.held.length+([{i with Vt:=b.1}]).length) 144).bind λC=>
       some {p with Fd:=b.2.2,held:=(p.held++[{i with Vt:=b.1}])}
     else
      if (i.cmd.TY==9) then
       (room (p.held.length+([i]).length) 144).bind λD=>
       some {p with held:=(p.held++[i])}
      else
       if (i.cmd.TY==10) then
        (jN (dt p i) (λ(h:(List zp)×(List ze))=>{p with rings:=h.1,Uh:=i.Ut,closed:=true,Un:=h.2}) (p.rings).length 0 (p.rings,p.Un)).bind λc=>
        (qH c).bind λj=>
        (room (c.Un.length+([(ze.mk 14 j 0 0 0 0 0 0 0 0 (zg.mk 0 0 0 0) (zk.mk 0 false 0 false 0 0) 0 0)]).length) 176).bind λE=>
        some {c with Un:=(c.Un++[(ze.mk 14 j 0 0 0 0 0 0 0 0 (zg.mk 0 0 0 0) (zk.mk 0 false 0 false 0 0) 0 0)])}
       else
        some p
def dF(i:Nat)(p:za):Option za:=
 (xm p).bind λb=>
 if decide (b>=0) then
  (idx p.held b).bind λc=>
  (qe p.held b (w64 (b+1))).bind λd=>
  (if (c.cmd.TY==8) then
   (xd i p.Fd 1).bind λf=>
   (qH {p with Fd:=f.2,held:=d}).bind λg=>
   (room (p.Un.length+([(ze.mk 13 g 0 0 0 0 0 c.cmd.UA 0 0 (zg.mk 0 0 0 0) (zk.mk 0 false 0 false 0 0) 0 0)]).length) 176).bind λA=>
   some {p with Fd:=f.2,held:=d,Un:=(p.Un++[(ze.mk 13 g 0 0 0 0 0 c.cmd.UA 0 0 (zg.mk 0 0 0 0) (zk.mk 0 false 0 false 0 0) 0 0)])}
  else
   some {p with held:=d}).bind λl=>
  (jV l c.Ut 0 0).bind λn=>
  some n
 else
  if (((p.TZ).length:Int)==0) then
   (jV {p with over:=true} p.Uh 0 0).bind λa=>
   (qH a).bind λe=>
   (room (a.Un.length+([(ze.mk 15 e 0 0 0 0 0 0 0 0 (zg.mk 0 0 0 0) (zk.mk 0 false 0 false 0 0) 0 0)]).length) 176).bind λB=>
   (bf a.Um ([e])).bind λq=>
   some {a with Um:=q.2,Un:=(a.Un++[(ze.mk 15 e 0 0 0 0 0 0 0 0 (zg.mk 0 0 0 0) (zk.mk 0 false 0 false 0 0) 0 0)])}
  else
   (idx p.TZ 0).bind λh=>
   (cut p.TZ 1 (p.TZ.length:Int)).bind λj=>
   if p.closed then
    (jV {p with TZ:=j} h.Ut 0 43).bind λv=>
    some v
   else
    (cU i {p with TZ:=j} h).bind λz=>
    some z
def ak(j:Nat)(h:za)(p:Int)(i:Bool):Option (Int×Bool×za):=
 if (!i) then
  some (p,i,h)
 else
  (zZ h).bind λa=>
  if decide (p<a) then
   (xV h p).bind λb=>
   some (p,i,b)
  else
   (qF h).bind λc=>
   if decide (p<c) then
    (dC j h p).bind λd=>
    some (p,i,d)
   else
    (qH h).bind λe=>
    if decide (p<e) then
     (cF j h p).bind λf=>
     some (p,i,f)
    else
     (dF j h).bind λg=>
     some (p,i,g)
def dG(f:Nat)(p:za)(d:Int):Option (Int×Bool×za):=
 (vo p).bind λc=>
 (dB c.Um d).bind λa=>
 (ak f {c with Um:=a.2.2} a.1 a.2.1).bind λb=>
 some (b.1,b.2.1,b.2.2)
def fG(p:zn)(c:(List Int))(d:Nat)(h:(Int×Bool)->Option (Int×Bool))(a:Int×Bool):Option (Int×Bool):=
 (idx c (d:Int)).bind λb=>
 (if (!a.2) then
  some true
 else
  (idx p.Ub b).bind λe=>
  (idx p.Ub a.1).bind λf=>
  some (decide (e.Vo<f.Vo))).bind λg=>
 if g then
  h (b,true)
 else
  h (a.1,a.2)
def dH(p:zn):Option (Int×Bool×zn):=
 (aK p).bind λb=>
 (jN (fG p b) (λ(c:Int×Bool)=>(c.1,c.2)) (b).length 0 (0,false)).bind λd=>
 if (!d.2) then
  some (0,false,p)
 else
  (ag p d.1).bind λa=>
  some (a.1,a.2.1,a.2.2)
def dI(f:Nat)(p:za):Option (Int×Bool×za):=
 (vo p).bind λc=>
 (dH c.Um).bind λa=>
 (ak f {c with Um:=a.2.2} a.1 a.2.1).bind λb=>
 some (b.1,b.2.1,b.2.2)
def dO(f:Nat)(p:List Int)(a:Nat)(e:za->Option za)(b:za):Option za:=
 (idx p (a:Int)).bind λc=>
 (dG f b c).bind λd=>
 e d.2.2
def vQ(f:Nat)(c:(za×Bool)->Option za)(a:za×Bool):Option za:=
 if a.2 then
  (dI f a.1).bind λb=>
  c (b.2.2,b.2.1)
 else
  some a.1
def cV(f:Nat)(p:za)(g:List Int):Option (Int×za):=
 (cm p.Um).bind λb=>
 (jN (dO f g) (λ(c:za)=>c) (g).length 0 p).bind λd=>
 (loop (vQ f) f (d,true)).bind λa=>
 (cm a.Um).bind λe=>
 some (w64 (e-b),a)
def zM(p:List zk):Option (List zk):=
 (room (([]:List zk).length+p.length) 48).bind λa=>
 some (([]:List zk)++p)
def xe(b:za)(p:Int):Option (List zy):=
 if decide (p<0)||decide (p>=(b.or.length:Int)) then some [] else
 (idx b.or p).bind λc=>(room (0+c.Ud.length) 64).bind λ_=>(c.Ud.foldlM (λ(_:Unit)a=>(zM a.UJ).bind λ_=>(zB a.Pairs).bind λ_=>some ()) ()).bind λ_=>some c.Ud
def iz(p:zn):Option (List Int):=
 (ek p 2).bind λa=>
 some a
def iA(p:za):Option (List Int):=
 (iz p.Um).bind λa=>
 some a
def qy(p:List ze):Option (List ze):=
 (room (([]:List ze).length+p.length) 176).bind λa=>
 some (([]:List ze)++p)
def eM(p:za):Option (List ze):=
 (qy p.Un).bind λa=>
 some a
def iB :Option zH:=
 some (zH.mk 1 1 1 1 ([(jM.mk 0 2)]))
def wA(c:zU)(a:Nat)(g:(List zP)->Option (List zP))(b:(List zP)):Option (List zP):=
 (ain 4 (a:Int)).bind λd=>
 (idx b (a:Int)).bind λe=>
 (na ([e,(c.Uk d)])).bind λf=>
 g (b.set (Int.toNat (a:Int)) f)
def wB(p:List zU)(a:Nat)(f:(List zP)->Option (List zP))(b:(List zP)):Option (List zP):=
 (idx p (a:Int)).bind λc=>
 (jN (wA c) (λ(d:(List zP))=>d) 4 0 b).bind λe=>
 f e
def mc(p:List zU):Option (List zP):=
 (mkLen 4 40).bind λa=>
 (jN (wB p) (λ(b:(List zP))=>b) (p).length 0 (List.replicate a (zP.mk 0 0 0 0 0))).bind λc=>
 some c
def aP(p:za):Option (List zP):=
 (room p.LE.length 8).bind λc=>
 (mc (p.LE.map λ(x:zA)=>x.TX.Vh)).bind λa=>
 (cut a 0 (p.rings.length:Int)).bind λb=>
 some b
def eN(i:Nat) :Option Bool:=
 iB.bind λh=>
 (eI i h ([[(zF.mk 4 (zg.mk 0 0 0 0) ([]:List zg) 0 0 0 (qr.mk 0 0) ([84,80,1,0,2,0,0,0,8,10,22,0,0,0,0]:List Int)),(zF.mk 5 (zg.mk 0 0 0 0) ([]:List zg) 0 0 1 (qr.mk 0 0) ([]:List Int)),(zF.mk 3 (zg.mk 0 0 0 0) ([]:List zg) 0 0 0 (qr.mk 0 0) ([]:List Int)),(zF.mk 9 (zg.mk 0 0 0 0) ([]:List zg) 0 0 0 (qr.mk 0 0) ([]:List Int)),(zF.mk 0 (zg.mk 0 2 1 2) ([]:List zg) 0 0 0 (qr.mk 0 0) ([]:List Int)),(zF.mk 10 (zg.mk 0 0 0 0) ([]:List zg) 0 0 0 (qr.mk 0 0) ([]:List Int))]])).bind λc=>
 vK c.1
  (some false)
  (λd=>
  (if (c.2 !=0) then
   some (d,true)
  else
   (cV i d ([]:List Int)).bind λe=>
   some (e.2,(e.1==0))).bind λa=>
  if a.2 then
   some false
  else
   (xe a.1 0).bind λb=>
   (aP a.1).bind λf=>
   (iy a.1 0).bind λj=>
   (if (((b).length:Int)==6) then
    (idx b 0).bind λl=>
    if (l.N==1) then
     (idx b 2).bind λn=>
     if (n.N==1) then
      (idx b 5).bind λq=>
      if (q.E==0) then
       if (((f).length:Int)==1) then
        (idx f 0).bind λg=>
        if (g.VW==1) then
         if (g.Sum==5) then
          if (((j.1).length:Int)==1) then
           (iA a.1).bind λv=>
           some (((v).length:Int)==3)
          else
           some false
         else
          some false
        else
         some false
       else
        some false
      else
       some false
     else
      some false
    else
     some false
   else
    some false).bind λz=>
   some z)
def bM(f:Nat)(p:qw):Option ((Option za)×Bool):=
 (eI f p.C p.UG).bind λa=>
 vK a.1
  (some (none,(true==(a.2 !=0))))
  (λb=>
  some ((some b),(false==(a.2 !=0))))
def gK(f:Nat)(p:qw):Option ((Option za)×Bool):=
 (bM f p).bind λa=>
 vK a.1
  (some (none,a.2))
  (λb=>
  (cV f b p.Vg).bind λc=>
  some ((some c.2),a.2))
def gv(p:List Int)(e:Int)(a:Nat)(d:Unit->Option (Unit⊕Bool))(c:Unit):Option (Unit⊕Bool):=
 (idx p (a:Int)).bind λb=>
 if (b==e) then
  some (.inr true)
 else
  d ()
def bu(p:List Int)(d:Int):Option Bool:=
 (jN (gv p d) (λ(b:Unit)=>(.inl ())) (p).length 0 ()).bind λa=>match a with
  |.inl c=>
   some false
  |.inr r=>some r
def jP(g:zR)(p:Int)(e:Int×(List Int))(a:(List Int)):Option ((List Int)⊕(List Int)):=
 let b:=e.1
 let c:=e.2
 (zW c p).bind λd=>
 if d then
  (room (a.length+([b]).length) 8).bind λf=>
  some (.inl (a++[b]))
 else
  some (.inl a)
def jr(p:zR)(c:Int)(a:(List Int)):Option (List Int):=
 (xu a).bind λb=>
 some b
def vt(p:zR)(a:Int):Option (List Int):=
 oH (jP p a) (jr p a) p.held ([]:List Int)
def cG(b:zR)(p:Int):Option (Int×Int):=
 if (decide (p<0)||decide (p>=b.maps)) then
  some (0,2)
 else
  (vt b p).bind λa=>
  some (((a).length:Int),0)
def fH(p:za)(c:Nat)(e:(List Int)->Option (List Int))(a:(List Int)):Option (List Int):=
 (cG p.Fd.UY (c:Int)).bind λb=>
 (room (a.length+([b.1]).length) 8).bind λd=>
 e (a++[b.1])
def dJ(p:za):Option (List Int):=
 ((room (p.Ur.Maps).length 1).bind λc=>
 jN (fH p) (λ(a:(List Int))=>a) (p.Ur.Maps).length 0 ([]:List Int)).bind λb=>
 some b
def bP(d:(List ze))(e:Nat)(g:yD->Option (yD⊕Bool))(a:(List Int)×Int):Option (yD⊕Bool):=
 (idx d (e:Int)).bind λb=>
 (if (b.UW==13) then
  (room (a.1.length+([b.UA]).length) 8).bind λf=>
  some (a.1++[b.UA])
 else
  some a.1).bind λc=>
 if (b.UW==12) then
  if (b.UA !=(w64 (a.2+1))) then
   some (.inr false)
  else
   g (c,w64 (a.2+1))
 else
  g (c,a.2)
def jU(d:(List Int)×Int)(e:Nat)(f:List zy)(g:Int×(List Int)×Int)(c:zE×Int×Int)(i:yD->Option ((List Int)⊕Bool))(a:(List Int)×Int):Option ((List Int)⊕Bool):=
 (if decide (a.2<((c.1.Maps).length:Int)) then
  (idx f g.2.2).bind λh=>
  (bu d.1 h.N).bind λj=>
  some (!j)
 else
  some false).bind λl=>
 if l then
  (idx c.1.Maps a.2).bind λb=>
  if decide (b>=(e:Int)) then
   some (.inr false)
  else
   (idx a.1 b).bind λn=>
   i ((a.1.set (Int.toNat b) (w64 (n+1))),w64 (a.2+1))
 else
  some (.inl a.1)
def vH(k:Nat)(p:qw)(f:(List Int)×Int)(g:Nat)(d:Nat)(b:List zy)(i:(Int×(List Int)×Int)->Option (yE⊕Bool))(a:Int×(List Int)×Int):Option (yE⊕Bool):=
 (if decide (a.2.2<((b).length:Int)) then
  (idx p.UG (d:Int)).bind λh=>
  some (decide (a.2.2<((h).length:Int)))
 else
  some false).bind λj=>
 if j then
  (idx p.UG (d:Int)).bind λl=>
  (idx l a.2.2).bind λc=>
  (if (c.TY !=4) then
   some true
  else
   (idx b a.2.2).bind λn=>
   some (n.E !=0)).bind λq=>
  if q then
   i (a.1,a.2.1,w64 (a.2.2+1))
  else
   (room (([]:List Int).length+c.Uq.length) 1).bind λA=>
   (xa k (([]:List Int)++c.Uq)).bind λe=>
   if (e.2.2 !=0) then
    some (.inr false)
   else
    (loop (jU f g b a e) k (a.2.1,0)).bind λv=>match v with
     |.inl z=>
      i (w64 (a.1-1),z,w64 (a.2.2+1))
     |.inr r=>some (.inr r)
 else
  some (.inl (a.1,a.2.1))
def bQ(j:Nat)(p:qw)(d:za)(e:(List Int)×Int)(f:Nat)(a:Nat)(i:yE->Option (yE⊕Bool))(b:Int×(List Int)):Option (yE⊕Bool):=
 (xe d (a:Int)).bind λg=>
 (loop (vH j p e f a g) j (b.1,b.2,0)).bind λh=>match h with
  |.inl c=>
   i (c.1,c.2)
  |.inr r=>some (.inr r)
def bR(b:Int×(List Int))(c:(List Int))(a:Nat)(g:Unit->Option (Unit⊕Bool))(f:Unit):Option (Unit⊕Bool):=
 (idx c (a:Int)).bind λd=>
 (idx b.2 (a:Int)).bind λe=>
 if (d !=e) then
  some (.inr false)
 else
  g ()
def xC(i:Nat)(p:qw):Option Bool:=
 (eN i).bind λl=>
 if (!l) then
  some false
 else
  (gK i p).bind λb=>
  vK b.1
   (some b.2)
   (λc=>
   if (!b.2) then
    some b.2
   else
    (eM c).bind λd=>
    (jN (bP d) (λ(e:(List Int)×Int)=>(.inl (e.1,e.2))) (d).length 0 (([]:List Int),0)).bind λn=>match n with
     |.inl f=>
      (mkLen ((p.C.Maps).length:Int) 8).bind λa=>
      (jN (bQ i p c f a) (λ(g:Int×(List Int))=>(.inl (g.1,g.2))) (p.UG).length 0 (f.2,(List.replicate a 0))).bind λq=>match q with
       |.inl h=>
        (dJ c).bind λj=>
        if ((h.1 !=0)||(((j).length:Int) !=(a:Int))) then
         some false
        else
         ((room a 1).bind λz=>
         jN (bR h j) (λ(A:Unit)=>(.inl ())) a 0 ()).bind λv=>match v with
          |.inl B=>
           some true
          |.inr r=>some r
       |.inr r=>some r
     |.inr r=>some r)
end Go.Proofs.YtplmgfkghomelaaGreatDoor
