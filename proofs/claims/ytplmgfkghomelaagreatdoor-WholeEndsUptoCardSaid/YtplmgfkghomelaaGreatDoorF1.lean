/- Lemmas. -/
import Derived.Test.YtplmgfkghomelaaGreatDoorIns
set_option linter.all false
namespace Go.Proofs.YtplmgfkghomelaaGreatDoor
open Go.Sx
structure zF where
 Uq:Int
 in_:List Int
def DF:Rp (List Int):=nL 3 (zC .i64) 1 (λ_=>rfl) (by decide)
def oX:Rp zF:=qK (λ(x:zF)v=>[.int .i64 x.Uq,v.getD 0 undef]) 2 (λ_ _=>rfl) (λx=>x.in_) (DF)
def eX:Rp zF:=vI 231 oX
structure qr where
 A:Int
 B:Int
def oY(x:qr):List Value:=[.int .u64 x.A,.int .u64 x.B]
structure zY where
 N:Int
 Tq:qr
def xB(x:zY):List Value:=[.int .i64 x.N,.int .u64 x.Tq.A,.int .u64 x.Tq.B]
structure xC where
 TO:Int
 TY:Int
 Uw:Int
 TW:Int
 Uc:Int
structure zp where
 room:Int
 Uf:Bool
 waiting:List zY
 counts:xC
def PJ:Rp (List zY):=nL 193 (xB) 3 (λ_=>rfl) (by decide)
def rY(f:Value):Rp zp:=qK (λ(x:zp)v=>[f,.int .i64 x.room,.bool x.Uf,v.getD 0 undef,.int .i64 x.counts.TO,.int .i64 x.counts.TY,.int .i64 x.counts.Uw,.int .i64 x.counts.TW,.int .i64 x.counts.Uc]) 9 (λ_ _=>rfl) (λx=>x.waiting) (PJ)
def dd(f:Value):Rp zp:=vI 178 (rY f)
structure xD where
 last:Int
structure xf where
 Ts:Int
 prog:Int
def gT(x:xf):List Value:=[.int .i64 x.Ts,.int .i64 x.prog]
structure zz where
 Ty:xD
 Te:List xf
structure zZ where
 maps:Int
 held:List (Int×(List Int))
structure zf where
 Op:Int
 D:Int
 A:Int
 B:Int
 TJ:Int
def qc(x:zf):List Value:=[.int .i64 x.Op,.int .i64 x.D,.int .i64 x.A,.int .i64 x.B,.int .i64 x.TJ]
structure zE where
 Maps:List Int
 Code:List zf
structure zU where
 module:zE
 TH:Int
structure zb where
 Tk:zz
 Ue:zZ
 Th:zF
 Te:Int
 maps:Int
 given:Int
 Tl:List (Int×zU)
 waiting:List Int
structure ql where
 SY:Int
 Uk:Int
def oZ(x:ql):List Value:=[.int .i64 x.SY,.int .i64 x.Uk]
structure zn where
 SU:List ql
 LT:Int
structure jJ where
 SV:Int
 Vg:Int
def xE(x:jJ):List Value:=[.int .i64 x.SV,.int .i64 x.Vg]
structure zG where
 SS:Int
 SR:Int
 Ti:Int
 TM:Int
 Maps:List jJ
structure zg where
 TB:Int
 Op:Int
 TQ:Int
 TL:Int
def qh(x:zg):List Value:=[.int .i64 x.TB,.int .i64 x.Op,.int .u64 x.TQ,.int .u64 x.TL]
structure zJ where
 SV:Int
 Item:zg
 Tw:List zg
 TB:Int
 TC:Int
 TS:Int
 Tq:qr
 Tu:List Int
structure zk where
 E:Int
 Found:Bool
 TL:Int
 Vl:Bool
 Ur:Int
 Us:Int
def qb(x:zk):List Value:=[.int .i64 x.E,.bool x.Found,.int .u64 x.TL,.bool x.Vl,.int .u64 x.Ur,.int .u64 x.Us]
structure zt where
 TQ:Int
 TL:Int
def zN(x:zt):List Value:=[.int .u64 x.TQ,.int .u64 x.TL]
structure zA where
 E:Int
 N:Int
 TD:List zk
 Pairs:List zt
structure zd where
 Tj:List zJ
 Tt:Int
 waits:Bool
 Tf:Int
 Id:zA
 parts:List (List zt)
 Tc:List zA
structure qP where
 Tp:Nat->Int
structure jo where
 counts:Nat->Int
structure zm where
 TP:qP
 Tx:jo
def xo(x:zm):List Value:=[.int .u64 (x.TP.Tp 0),.int .u64 (x.TP.Tp 1),.int .u64 (x.TP.Tp 2),.int .u64 (x.TP.Tp 3),.int .u64 (x.TP.Tp 4),.int .u64 (x.TP.Tp 5),.int .u64 (x.TP.Tp 6),.int .u64 (x.TP.Tp 7),.int .u64 (x.TP.Tp 8),.int .u64 (x.TP.Tp 9),.int .u64 (x.TP.Tp 10),.int .u64 (x.TP.Tp 11),.int .u64 (x.TP.Tp 12),.int .u64 (x.TP.Tp 13),.int .u64 (x.TP.Tp 14),.int .u64 (x.TP.Tp 15),.int .u64 (x.Tx.counts 0),.int .u64 (x.Tx.counts 1),.int .u64 (x.Tx.counts 2),.int .u64 (x.Tx.counts 3),.int .u64 (x.Tx.counts 4),.int .u64 (x.Tx.counts 5),.int .u64 (x.Tx.counts 6),.int .u64 (x.Tx.counts 7),.int .u64 (x.Tx.counts 8),.int .u64 (x.Tx.counts 9),.int .u64 (x.Tx.counts 10),.int .u64 (x.Tx.counts 11),.int .u64 (x.Tx.counts 12),.int .u64 (x.Tx.counts 13),.int .u64 (x.Tx.counts 14),.int .u64 (x.Tx.counts 15)]
structure zP where
 US:Int
 Ul:Int
 UA:Int
 Calls:Int
 Sum:Int
def qY(x:zP):List Value:=[.int .u64 x.US,.int .u64 x.Ul,.int .u64 x.UA,.int .u64 x.Calls,.int .u64 x.Sum]
structure zS where
 Te:Nat->zP
def eA(x:zS):List Value:=[.int .u64 (x.Te 0).US,.int .u64 (x.Te 0).Ul,.int .u64 (x.Te 0).UA,.int .u64 (x.Te 0).Calls,.int .u64 (x.Te 0).Sum,.int .u64 (x.Te 1).US,.int .u64 (x.Te 1).Ul,.int .u64 (x.Te 1).UA,.int .u64 (x.Te 1).Calls,.int .u64 (x.Te 1).Sum,.int .u64 (x.Te 2).US,.int .u64 (x.Te 2).Ul,.int .u64 (x.Te 2).UA,.int .u64 (x.Te 2).Calls,.int .u64 (x.Te 2).Sum,.int .u64 (x.Te 3).US,.int .u64 (x.Te 3).Ul,.int .u64 (x.Te 3).UA,.int .u64 (x.Te 3).Calls,.int .u64 (x.Te 3).Sum]
structure zr where
 Tq:qr
 module:zE
 regs:Nat->Int
 LT:Nat->Int
 Tt:Int
 steps:Int
 state:Int
structure bD where
 hook:Int
 TE:zY
 Ts:Int
 prog:Int
 calls:Int
 UF:Option zr
structure zl where
 TG:zm
 Ua:zS
 SY:Int
 Tz:bD
structure zB where
 SQ:zl
 TA:Int
 pc:Int
 TV:Option zk
 SZ:Bool
structure qp where
 cap:Int
 Ta:List zt
structure qA where
 Uh:qp
 Un:List Int
abbrev qn:Type:=qp⊕qA
structure zq where
 Ud:Int
 UI:Int
 Up:Bool
 Item:zg
def qL(x:zq):List Value:=[.int .i64 x.Ud,.int .i64 x.UI,.bool x.Up,.int .i64 x.Item.TB,.int .i64 x.Item.Op,.int .u64 x.Item.TQ,.int .u64 x.Item.TL]
structure zc where
 Uo:Int
 TR:Int
 maps:List qn
 SX:List zq
 SZ:Bool
structure zx where
 Tn:Int
 cmd:zJ
 Uy:Int
structure ze where
 Uv:Int
 Vq:Int
 Ud:Int
 VF:Int
 UI:Int
 Tq:Int
 TC:Int
 TS:Int
 Vr:Int
 Pc:Int
 Item:zg
 TD:zk
 TL:Int
 E:Int
def zH(x:ze):List Value:=[.int .i64 x.Uv,.int .i64 x.Vq,.int .i64 x.Ud,.int .i64 x.VF,.int .i64 x.UI,.int .i64 x.Tq,.int .i64 x.TC,.int .i64 x.TS,.int .i64 x.Vr,.int .i64 x.Pc,.int .i64 x.Item.TB,.int .i64 x.Item.Op,.int .u64 x.Item.TQ,.int .u64 x.Item.TL,.int .i64 x.TD.E,.bool x.TD.Found,.int .u64 x.TD.TL,.bool x.TD.Vl,.int .u64 x.TD.Ur,.int .u64 x.TD.Us,.int .u64 x.TL,.int .i64 x.E]
structure zM where
 last:Int
def dI(x:zM):List Value:=[.int .i64 x.last]
structure za where
 Fn:zb
 Td:zn
 Tm:zG
 or:List zd
 LE:List zB
 Fd:List zc
 rings:List zp
 SX:List zx
 held:List zx
 Tb:Int
 closed:Bool
 over:Bool
 Tr:List ze
 TF:zM
def PK:Rp (List xf):=nL 294 (gT) 2 (λ_=>rfl) (by decide)
def rZ:Rp zz:=qK (λ(x:zz)v=>[.int .i64 x.Ty.last,v.getD 0 undef]) 2 (λ_ _=>rfl) (λx=>x.Te) (PK)
def aE:Rp zz:=vI 229 rZ
def PL:Rp (List (Int×(List Int))):=JQ DF
def nX:Rp zZ:=qK (λ(x:zZ)v=>[.int .i64 x.maps,v.getD 0 undef]) 2 (λ_ _=>rfl) (λx=>x.held) (PL)
def kF:Rp zZ:=vI 223 nX
def PM:Rp (List zf):=nL 160 (qc) 5 (λ_=>rfl) (by decide)
def mz:Rp zU:=qK (λ(x:zU)v=>[v.getD 0 undef,v.getD 1 undef,.int .i64 x.TH]) 3 (λ_ _=>rfl) (λx=>(x.module.Maps,x.module.Code)) (jn DF PM)
def mA:Rp zU:=vI 299 mz
def PN:Rp (List (Int×zU)):=JQ mA
def vu:Rp zb:=qK (λ(x:zb)v=>[v.getD 0 undef,v.getD 1 undef,v.getD 2 undef,.int .i64 x.Te,.int .i64 x.maps,.int .i64 x.given,v.getD 3 undef,v.getD 4 undef]) 8 (λ_ _=>rfl) (λx=>(x.Tk,(x.Ue,(x.Th,(x.Tl,x.waiting))))) (jn aE (jn kF (jn eX (jn PN DF))))
def bX:Rp zb:=vI 169 vu
def PO:Rp (List ql):=nL 210 (oZ) 2 (λ_=>rfl) (by decide)
def fL:Rp zn:=qK (λ(x:zn)v=>[v.getD 0 undef,.int .i64 x.LT]) 2 (λ_ _=>rfl) (λx=>x.SU) (PO)
def xz:Rp zn:=vI 203 fL
def PP:Rp (List zg):=nL 46 (qh) 4 (λ_=>rfl) (by decide)
def PQ:Rp (List Int):=wo 5 (zC .u8) 1 (λ_=>rfl) (by decide)
def ow:Rp zJ:=qK (λ(x:zJ)v=>[.int .i64 x.SV,.int .i64 x.Item.TB,.int .i64 x.Item.Op,.int .u64 x.Item.TQ,.int .u64 x.Item.TL,v.getD 0 undef,.int .i64 x.TB,.int .i64 x.TC,.int .i64 x.TS,.int .u64 x.Tq.A,.int .u64 x.Tq.B,v.getD 1 undef]) 12 (λ_ _=>rfl) (λx=>(x.Tw,x.Tu)) (jn PP PQ)
def BV:Rp (List zJ):=lx 71 ow (by decide)
def Nw:Rp (List zk):=nL 48 (qb) 6 (λ_=>rfl) (by decide)
def tV:Rp (List zt):=nL 86 (zN) 2 (λ_=>rfl) (by decide)
def MF:Rp (List (List zt)):=lx 76 tV (by decide)
def mB:Rp zA:=qK (λ(x:zA)v=>[.int .i64 x.E,.int .i64 x.N,v.getD 0 undef,v.getD 1 undef]) 4 (λ_ _=>rfl) (λx=>(x.TD,x.Pairs)) (jn Nw tV)
def PR:Rp (List zA):=lx 96 mB (by decide)
def aT(w:World)(S:List Nat):Rp zd:=qK (λ(x:zd)v=>[v.getD 0 undef,.int .i64 x.Tt,.bool x.waits,.int .i64 x.Tf,.int .i64 x.Id.E,.int .i64 x.Id.N,v.getD 1 undef,v.getD 2 undef,v.getD 3 undef,v.getD 4 undef]) 10 (λ_ _=>rfl) (λx=>(x.Tj,(x.Id.TD,(x.Id.Pairs,(x.parts,x.Tc))))) (jn (rdP (BV) w S) (jn Nw (jn tV (jn MF PR))))
def mC(w:World)(S:List Nat):Rp zd:=vI 135 (aT w S)
def MG(w:World)(S:List Nat):Rp (List zd):=lx 131 (mC w S) (t5 rfl)
def PS:Rp zm:=tc (xo) 32 (λ_=>rfl)
def iH:Rp zm:=vI 244 PS
def PT:Rp zS:=tc (eA) 20 (λ_=>rfl)
def gU:Rp zS:=vI 247 PT
def vH(f:Value):Rp zr:=qK (λ(x:zr)v=>[.int .u64 x.Tq.A,.int .u64 x.Tq.B,v.getD 0 undef,v.getD 1 undef,f,.int .u64 (x.regs 0),.int .u64 (x.regs 1),.int .u64 (x.regs 2),.int .u64 (x.regs 3),.int .u64 (x.regs 4),.int .u64 (x.regs 5),.int .u64 (x.regs 6),.int .u64 (x.regs 7),.int .i64 (x.LT 0),.int .i64 (x.LT 1),.int .i64 (x.LT 2),.int .i64 (x.LT 3),.int .i64 (x.LT 4),.int .i64 (x.LT 5),.int .i64 (x.LT 6),.int .i64 (x.LT 7),.int .i64 (x.LT 8),.int .i64 (x.LT 9),.int .i64 (x.LT 10),.int .i64 (x.LT 11),.int .i64 (x.LT 12),.int .i64 (x.LT 13),.int .i64 (x.LT 14),.int .i64 (x.LT 15),.int .i64 (x.LT 16),.int .i64 (x.LT 17),.int .i64 (x.LT 18),.int .i64 (x.LT 19),.int .i64 (x.LT 20),.int .i64 (x.LT 21),.int .i64 (x.LT 22),.int .i64 (x.LT 23),.int .i64 (x.LT 24),.int .i64 (x.LT 25),.int .i64 (x.LT 26),.int .i64 (x.LT 27),.int .i64 (x.LT 28),.int .i64 (x.LT 29),.int .i64 (x.LT 30),.int .i64 (x.LT 31),.int .i64 (x.LT 32),.int .i64 (x.LT 33),.int .i64 (x.LT 34),.int .i64 (x.LT 35),.int .i64 (x.LT 36),.int .i64 (x.LT 37),.int .i64 (x.LT 38),.int .i64 (x.LT 39),.int .i64 (x.LT 40),.int .i64 (x.LT 41),.int .i64 (x.LT 42),.int .i64 (x.LT 43),.int .i64 (x.LT 44),.int .i64 (x.LT 45),.int .i64 (x.LT 46),.int .i64 (x.LT 47),.int .i64 (x.LT 48),.int .i64 (x.LT 49),.int .i64 (x.LT 50),.int .i64 (x.LT 51),.int .i64 (x.LT 52),.int .i64 (x.LT 53),.int .i64 (x.LT 54),.int .i64 (x.LT 55),.int .i64 (x.LT 56),.int .i64 (x.LT 57),.int .i64 (x.LT 58),.int .i64 (x.LT 59),.int .i64 (x.LT 60),.int .i64 (x.LT 61),.int .i64 (x.LT 62),.int .i64 (x.LT 63),.int .i64 x.Tt,.int .i64 x.steps,.int .i64 x.state]) 80 (λ_ _=>rfl) (λx=>(x.module.Maps,x.module.Code)) (jn DF PM)
def eY:Rp zl:=qK (λ(x:zl)v=>[v.getD 0 undef,v.getD 1 undef,.int .i64 x.SY,.int .i64 x.Tz.hook,.int .i64 x.Tz.TE.N,.int .u64 x.Tz.TE.Tq.A,.int .u64 x.Tz.TE.Tq.B,.int .i64 x.Tz.Ts,.int .i64 x.Tz.prog,.int .u64 x.Tz.calls,v.getD 2 undef]) 11 (λ_ _=>rfl) (λx=>(x.TG,x.Ua,x.Tz.UF)) (QR iH gU (λf=>(BC 330 (vH f))) 1 (λ_=>rfl))
def fM:Rp zl:=vI 198 eY
def eB:Rp zB:=qK (λ(x:zB)v=>[v.getD 0 undef,.int .i64 x.TA,.int .i64 x.pc,v.getD 1 undef,.bool x.SZ]) 5 (λ_ _=>rfl) (λx=>(x.SQ,x.TV)) (jn fM (KO 268 qb))
def iI:Rp zB:=vI 130 eB
def MH:Rp (List zB):=lx 125 iI (by decide)
def nY:Rp qp:=qK (λ(x:qp)v=>[.int .i64 x.cap,v.getD 0 undef]) 2 (λ_ _=>rfl) (λx=>x.Ta) (tV)
def aF:Rp qp:=vI 280 nY
def PU:Rp (List Int):=nL 44 (zC .u64) 1 (λ_=>rfl) (by decide)
def pe:Rp qA:=qK (λ(x:qA)v=>[v.getD 0 undef,v.getD 1 undef]) 2 (λ_ _=>rfl) (λx=>(x.Uh,x.Un)) (jn aF PU)
def dv:Rp qA:=vI 283 pe
def fN:Rp qn:=NF (HC 232 aF) (HC 235 dv) rfl rfl
def PV:Rp (List qn):=lx 184 fN (by decide)
def PW:Rp (List zq):=nL 286 (qL) 7 (λ_=>rfl) (by decide)
def eZ:Rp zc:=qK (λ(x:zc)v=>[.int .i64 x.Uo,.int .i64 x.TR,v.getD 0 undef,v.getD 1 undef,.bool x.SZ]) 5 (λ_ _=>rfl) (λx=>(x.maps,x.SX)) (jn PV PW)
def xA:Rp zc:=vI 182 eZ
def MI:Rp (List zc):=lx 122 xA (by decide)
def MJ(f:Value):Rp (List zp):=lx 119 (dd f) (t5 rfl)
def gV(w:World)(S:List Nat):Rp zx:=qK (λ(x:zx)v=>[.int .i64 x.Tn,.int .i64 x.cmd.SV,.int .i64 x.cmd.Item.TB,.int .i64 x.cmd.Item.Op,.int .u64 x.cmd.Item.TQ,.int .u64 x.cmd.Item.TL,v.getD 0 undef,.int .i64 x.cmd.TB,.int .i64 x.cmd.TC,.int .i64 x.cmd.TS,.int .u64 x.cmd.Tq.A,.int .u64 x.cmd.Tq.B,v.getD 1 undef,.int .i64 x.Uy]) 14 (λ_ _=>rfl) (λx=>(x.cmd.Tw,x.cmd.Tu)) (jn (H3 w S (qh) 4) (H3 w S (zC .u8) 1))
def Ib(w:World)(S:List Nat):Rp (List zx):=lx 272 (gV w S) (t5 rfl)
def PX:Rp (List ze):=nL 50 (zH) 22 (λ_=>rfl) (by decide)
def PY:Rp zM:=tc (dI) 1 (λ_=>rfl)
def eC:Rp zM:=vI 118 PY
def qD(w:World)(S:List Nat):Rp za:=qK (λ(x:za)v=>[v.getD 0 undef,v.getD 1 undef,.int .i64 x.Tm.SS,.int .i64 x.Tm.SR,.int .i64 x.Tm.Ti,.int .i64 x.Tm.TM,v.getD 2 undef,v.getD 3 undef,v.getD 4 undef,v.getD 5 undef,v.getD 6 undef,v.getD 7 undef,v.getD 8 undef,.int .i64 x.Tb,.bool x.closed,.bool x.over,v.getD 9 undef]) 17 (λ_ _=>rfl) (λx=>(x.TF,(x.Fn,(x.Td,(x.Tm.Maps,(x.or,(x.LE,(x.Fd,(x.rings,(x.SX,(x.held,x.Tr))))))))))) (NE eC (λf=>jn bX (jn xz (jn (MK jJ) (jn (MG w S) (jn MH (jn MI (jn (MJ f) (jn (Ib w S) (jn (Ib w S) PX))))))))) 10 (λ_=>rfl))
def jK(w:World)(S:List Nat):Rp za:=vI 115 (qD w S)
def Rn:Rp zk:=tc (qb) 6 (λ_=>rfl)
def Aj:Rp zd:=qK (λ(x:zd)v=>[v.getD 0 undef,.int .i64 x.Tt,.bool x.waits,.int .i64 x.Tf,.int .i64 x.Id.E,.int .i64 x.Id.N,v.getD 1 undef,v.getD 2 undef,v.getD 3 undef,v.getD 4 undef]) 10 (λ_ _=>rfl) (λx=>(x.Tj,(x.Id.TD,(x.Id.Pairs,(x.parts,x.Tc))))) (jn BV (jn Nw (jn tV (jn MF PR))))
def iY:Rp zd:=vI 135 Aj
def Ak:Rp zx:=qK (λ(x:zx)v=>[.int .i64 x.Tn,.int .i64 x.cmd.SV,.int .i64 x.cmd.Item.TB,.int .i64 x.cmd.Item.Op,.int .u64 x.cmd.Item.TQ,.int .u64 x.cmd.Item.TL,v.getD 0 undef,.int .i64 x.cmd.TB,.int .i64 x.cmd.TC,.int .i64 x.cmd.TS,.int .u64 x.cmd.Tq.A,.int .u64 x.cmd.Tq.B,v.getD 1 undef,.int .i64 x.Uy]) 14 (λ_ _=>rfl) (λx=>(x.cmd.Tw,x.cmd.Tu)) (jn PP PQ)
def Ic:Rp (List zd):=lx 131 iY (by decide)
def DH:Rp (List zx):=lx 272 Ak (by decide)
def DI:Rp za:=qK (λ(x:za)v=>[v.getD 0 undef,v.getD 1 undef,.int .i64 x.Tm.SS,.int .i64 x.Tm.SR,.int .i64 x.Tm.Ti,.int .i64 x.Tm.TM,v.getD 2 undef,v.getD 3 undef,v.getD 4 undef,v.getD 5 undef,v.getD 6 undef,v.getD 7 undef,v.getD 8 undef,.int .i64 x.Tb,.bool x.closed,.bool x.over,v.getD 9 undef]) 17 (λ_ _=>rfl) (λx=>(x.TF,(x.Fn,(x.Td,(x.Tm.Maps,(x.or,(x.LE,(x.Fd,(x.rings,(x.SX,(x.held,x.Tr))))))))))) (NE eC (λf=>jn bX (jn xz (jn (MK jJ) (jn Ic (jn MH (jn MI (jn (MJ f) (jn DH (jn DH PX))))))))) 10 (λ_=>rfl))
def PZ:Rp za:=vI 115 DI
structure jc where
 name:ByteArray
 TN:ByteArray
def zX(x:jc):List Value:=[.string x.name,.string x.TN]
def xV:List jc:=[(jc.mk (⟨[115,101,116].toArray⟩) (⟨[100,115].toArray⟩)),
 (jc.mk (⟨[97,100,100].toArray⟩) (⟨[100,97,115].toArray⟩)),
 (jc.mk (⟨[115,117,98].toArray⟩) (⟨[100,97,115].toArray⟩)),
 (jc.mk (⟨[109,117,108].toArray⟩) (⟨[100,97,115].toArray⟩)),
 (jc.mk (⟨[100,105,118].toArray⟩) (⟨[100,97,115].toArray⟩)),
 (jc.mk (⟨[114,101,109].toArray⟩) (⟨[100,97,115].toArray⟩)),
 (jc.mk (⟨[97,110,100].toArray⟩) (⟨[100,97,115].toArray⟩)),
 (jc.mk (⟨[111,114].toArray⟩) (⟨[100,97,115].toArray⟩)),
 (jc.mk (⟨[120,111,114].toArray⟩) (⟨[100,97,115].toArray⟩)),
 (jc.mk (⟨[115,104,108].toArray⟩) (⟨[100,97,115].toArray⟩)),
 (jc.mk (⟨[115,104,114].toArray⟩) (⟨[100,97,115].toArray⟩)),
 (jc.mk (⟨[108,111,97,100].toArray⟩) (⟨[100,115].toArray⟩)),
 (jc.mk (⟨[115,116,111,114,101].toArray⟩) (⟨[97,115].toArray⟩)),
 (jc.mk (⟨[102,105,101,108,100].toArray⟩) (⟨[100,102].toArray⟩)),
 (jc.mk (⟨[109,97,112].toArray⟩) (⟨[100,109].toArray⟩)),
 (jc.mk (⟨[106,117,109,112].toArray⟩) (⟨[106].toArray⟩)),
 (jc.mk (⟨[106,101,113].toArray⟩) (⟨[106,97,115].toArray⟩)),
 (jc.mk (⟨[106,110,101].toArray⟩) (⟨[106,97,115].toArray⟩)),
 (jc.mk (⟨[106,108,116].toArray⟩) (⟨[106,97,115].toArray⟩)),
 (jc.mk (⟨[106,103,101].toArray⟩) (⟨[106,97,115].toArray⟩)),
 (jc.mk (⟨[108,111,111,112].toArray⟩) (⟨[98,97,110].toArray⟩)),
 (jc.mk (⟨[99,97,108,108].toArray⟩) (⟨[104].toArray⟩)),
 (jc.mk (⟨[101,120,105,116].toArray⟩) (⟨[97].toArray⟩))]
structure qy where
 Ui:Int
 At:Int
 Uz:Int
def ve(x:qy):List Value:=[.int .i64 x.Ui,.int .i64 x.At,.int .i64 x.Uz]
structure zh where
 Lo:Int
 Hi:Int
def dY(x:zh):List Value:=[.int .u64 x.Lo,.int .u64 x.Hi]
structure zi where
 SV:Int
 Tv:zh
 TB:Int
def zu(x:zi):List Value:=[.int .i64 x.SV,.int .u64 x.Tv.Lo,.int .u64 x.Tv.Hi,.int .i64 x.TB]
structure zj where
 Tu:zE
 came:List (Nat->zi)
 any:List Bool
 loops:List qy
def P0:Rp (List (Nat->zi)):=nL 379 (eW (zu) 8) 32 (λ_=>rfl) (by decide)
def P3:Rp (List Bool):=nL 4 (ku) 1 (λ_=>rfl) (by decide)
def P4:Rp (List qy):=nL 400 (ve) 3 (λ_=>rfl) (by decide)
def dZ(w:World)(S:List Nat):Rp zj:=qK (λ(x:zj)v=>[v.getD 0 undef,v.getD 1 undef,v.getD 2 undef,v.getD 3 undef,v.getD 4 undef]) 5 (λ_ _=>rfl) (λx=>(x.Tu.Maps,(x.Tu.Code,(x.came,(x.any,x.loops))))) (jn (H3 w S (zC .i64) 1) (jn (H3 w S (qc) 5) (jn P0 (jn P3 P4))))
def dw(w:World)(S:List Nat):Rp zj:=vI 370 (dZ w S)
structure bR where
 name:ByteArray
 UQ:ByteArray
 most:Int
 asks:Int
 UG:Bool
def qo(x:bR):List Value:=[.string x.name,.string x.UQ,.int .u64 x.most,.int .i64 x.asks,.bool x.UG]
def aG:List bR:=[(bR.mk (⟨[103,101,116].toArray⟩) (⟨[104,110].toArray⟩) 18446744073709551615 0 true),
 (bR.mk (⟨[104,97,115].toArray⟩) (⟨[104,110].toArray⟩) 1 1 true),
 (bR.mk (⟨[112,117,116].toArray⟩) (⟨[104,110,110].toArray⟩) 1 2 true),
 (bR.mk (⟨[100,101,108].toArray⟩) (⟨[104,110].toArray⟩) 1 3 true),
 (bR.mk (⟨[97,100,100].toArray⟩) (⟨[104,110,110].toArray⟩) 18446744073709551615 4 true),
 (bR.mk (⟨[109,97,114,107].toArray⟩) (⟨[115].toArray⟩) 18446744073709551615 0 false),
 (bR.mk (⟨[110,111,116,101].toArray⟩) (⟨[110].toArray⟩) 0 0 false)]
def lZ(f:Value):Rp zr:=vI 330 (vH f)
structure qT where
 SV:Int
 Pc:Int
 Item:zg
 TL:Int
def pf:Rp zk:=vI 48 Rn
structure aH where
 To:Int
 UI:Int
 Up:Bool
 Item:zg
 TD:zk
 Pairs:List zt
structure zw where
 b:List Int
 Tt:Int
 field:Int
 e:Int
def bS(w:World)(S:List Nat):Rp zw:=qK (λ(x:zw)v=>[v.getD 0 undef,.int .i64 x.Tt,.int .i64 x.field,.int .i64 x.e]) 4 (λ_ _=>rfl) (λx=>x.b) ((H3 w S (zC .u8) 1))
def fa(w:World)(S:List Nat):Rp zw:=vI 155 (bS w S)
structure qt where
 C:zG
 Tg:List (List zJ)
 TZ:List Int
theorem Nx:Cv Aj (λw S=>aT w S):=Cv.struct (x7 (Cv.bor _) (x7 (Cv.refl _) (x7 (Cv.refl _) (x7 (Cv.refl _) (Cv.refl _)))))
theorem Ny:Cv iY (λw S=>mC w S):=Cv.ptr Nx
theorem Nz:Cv Ic (λw S=>MG w S):=Cv.rowN Ny
theorem NA:Cv Ak (λw S=>gV w S):=Cv.struct (x7 Cv.row (Cv.rowF))
theorem Ie:Cv DH (λw S=>Ib w S):=Cv.rowN NA
theorem NB:Cv DI (λw S=>qD w S):=Cv.struct (Cv.gho (λ_=>x7 (Cv.refl _) (x7 (Cv.refl _) (x7 (Cv.refl _) (x7 Nz (x7 (Cv.refl _) (x7 (Cv.refl _) (x7 (Cv.refl _) (x7 Ie (x7 Ie (Cv.refl _)))))))))))
theorem P5:Cv PZ (λw S=>jK w S):=Cv.ptr NB
def bE(p:Int)(a:Int):Option Bool:=
 some (p==a)
def aX(p:List Int)(e:Int)(a:Nat)(d:Unit->Option (Unit⊕Int))(c:Unit):Option (Unit⊕Int):=
 (idx p (a:Int)).bind λb=>
 if (e==b) then
  some (.inr (a:Int))
 else
  d ()
def xg(p:List Int)(d:Int):Option Int:=
 (jM (aX p d) (λ(b:Unit)=>(.inl ())) (p).length 0 ()).bind λa=>match a with
  |.inl c=>
   some (-1)
  |.inr r=>some r
def qa(p:List Int)(b:Int):Option Bool:=
 (xg p b).bind λa=>
 some (decide (a>=0))
def jh(p:Int)(b:List Int):Option Bool:=
 (qa b p).bind λa=>
 some a
def gW(p:zF)(e:Int)(b:Nat)(d:Unit->Option (Unit⊕Bool))(c:Unit):Option (Unit⊕Bool):=
 (idx p.in_ (b:Int)).bind λa=>
 if ((a !=0)&&decide (a<e)) then
  some (.inr false)
 else
  d ()
def vJ(p:zF)(e:Int):Option Bool:=
 ((room (p.in_).length 1).bind λb=>
 jM (gW p e) (λ(c:Unit)=>(.inl ())) (p.in_).length 0 ()).bind λa=>match a with
  |.inl d=>
   some true
  |.inr r=>some r
def bu(p:zp):Option xC:=
 some (xC.mk p.counts.TO p.counts.TY p.counts.Uw p.counts.TW ((p.waiting).length:Int))
def de(p:za)(a:Nat)(e:Unit->Option (Unit⊕Bool))(d:Unit):Option (Unit⊕Bool):=
 (idx p.rings (a:Int)).bind λb=>
 (bu b).bind λc=>
 if decide (c.Uc>0) then
  some (.inr true)
 else
  e ()
def vi(p:za):Option Bool:=
 ((room (p.rings).length 1).bind λb=>
 jM (de p) (λ(c:Unit)=>(.inl ())) (p.rings).length 0 ()).bind λa=>match a with
  |.inl d=>
   some false
  |.inr r=>some r
def jN(p:zl):Option Int:=
 some p.SY
def df(p:za)(a:Nat)(e:Unit->Option (Unit⊕Bool))(d:Unit):Option (Unit⊕Bool):=
 (idx p.LE (a:Int)).bind λb=>
 (jN b.SQ).bind λc=>
 if (c !=0) then
  some (.inr false)
 else
  e ()
def vj(p:za):Option Bool:=
 ((room (p.LE).length 1).bind λb=>
 jM (df p) (λ(c:Unit)=>(.inl ())) (p.LE).length 0 ()).bind λa=>match a with
  |.inl d=>
   some true
  |.inr r=>some r
def xm(e:zx)(p:za):Option Bool:=
 if (e.cmd.SV==8) then
  (vJ p.Fn.Th e.Uy).bind λa=>
  some a
 else
  ((vi p).bind λb=>
  if (!b) then
   (vj p).bind λc=>
   some c
  else
   some false).bind λd=>
  some d
def cM(p:zg)(b:za):Option Bool:=
 (if decide (p.TB<0) then
  some true
 else
  if decide (p.TB>=((b.Tm.Maps).length:Int)) then
   some true
  else
   if decide (p.Op<0) then
    some true
   else
    some (decide (p.Op>=5))).bind λa=>
 some a
def kG(p:Int):Option ((Option zz)×Int):=
 if (decide (p<1)||decide (p>4)) then
  some (none,2)
 else
  (mkLen p 16).bind λa=>
  some ((some (zz.mk (xD.mk 0) (List.replicate a (xf.mk 0 0)))),0)
def lC(p:Int):Option ((Option zZ)×Int):=
 if (decide (p<0)||decide (p>4)) then
  some (none,2)
 else
  some ((some (zZ.mk p ([]:List (Int×(List Int))))),0)
def eD(p:Int):Option ((Option zF)×Int):=
 if (decide (p<1)||decide (p>4)) then
  some (none,2)
 else
  (mkLen p 8).bind λa=>
  some ((some (zF.mk 1 (List.replicate a 0))),0)
def bY(k:Int)(i:Int)(p:Int):Option ((Option zb)×Int):=
 (kG k).bind λa=>
 vW a.1
  ((lC i).bind λb=>
  vW b.1
   ((eD p).bind λd=>
   vW d.1
    (if (((a.2 !=0)||(b.2 !=0))||(d.2 !=0)) then
     some (none,2)
    else
     none)
    (λn=>
    if (((a.2 !=0)||(b.2 !=0))||(d.2 !=0)) then
     some (none,2)
    else
     none))
   (λq=>
   (eD p).bind λe=>
   vW e.1
    (if (((a.2 !=0)||(b.2 !=0))||(e.2 !=0)) then
     some (none,2)
    else
     none)
    (λv=>
    if (((a.2 !=0)||(b.2 !=0))||(e.2 !=0)) then
     some (none,2)
    else
     none)))
  (λh=>
  (lC i).bind λc=>
  vW c.1
   ((eD p).bind λf=>
   vW f.1
    (if (((a.2 !=0)||(c.2 !=0))||(f.2 !=0)) then
     some (none,2)
    else
     none)
    (λz=>
    if (((a.2 !=0)||(c.2 !=0))||(f.2 !=0)) then
     some (none,2)
    else
     none))
   (λj=>
   (eD p).bind λg=>
   vW g.1
    (if (((a.2 !=0)||(c.2 !=0))||(g.2 !=0)) then
     some (none,2)
    else
     none)
    (λl=>
    if (((a.2 !=0)||(c.2 !=0))||(g.2 !=0)) then
     some (none,2)
    else
     some ((some (zb.mk h j l k i 0 ([]:List (Int×zU)) ([]:List Int))),0))))
def lD(p:Int)(a:zM):Option ((Option zp)×Int):=
 if ((decide (p<1)||decide (p>16))||false) then
  some (none,2)
 else
  some ((some (zp.mk p false ([]:List zY) (xC.mk 0 0 0 0 0))),0)
def iJ(p:Int):Option ((Option qp)×Int):=
 if (decide (p<1)||decide (p>16)) then
  some (none,2)
 else
  some ((some (qp.mk p ([]:List zt))),0)
def rx(p:Int):Option ((Option qA)×Int):=
 (iJ p).bind λa=>
 vW a.1
  (if (a.2 !=0) then
   some (none,a.2)
  else
   none)
  (λb=>
  if (a.2 !=0) then
   some (none,a.2)
  else
   some ((some (qA.mk b ([]:List Int))),0))
def eE(p:jJ):Option ((Option qn)×Int):=
 if (p.SV==0) then
  (iJ p.Vg).bind λa=>
  vW a.1
   (if (a.2==0) then
    none
   else
    some (none,2))
   (λc=>
   if (a.2==0) then
    some ((some (.inl c)),a.2)
   else
    some (none,2))
 else
  if (p.SV==1) then
   (rx p.Vg).bind λb=>
   vW b.1
    (if (b.2==0) then
     none
    else
     some (none,2))
    (λd=>
    if (b.2==0) then
     some ((some (.inr d)),b.2)
    else
     some (none,2))
  else
   some (none,2)
def iK(p:List jJ)(d:Nat)(g:zc->Option (zc⊕((Option zc)×Int)))(b:zc):Option (zc⊕((Option zc)×Int)):=
 (idx p (d:Int)).bind λe=>
 (eE e).bind λa=>
 vW a.1
  (if (a.2 !=0) then
   some (.inr (none,a.2))
  else
   none)
  (λc=>
  if (a.2 !=0) then
   some (.inr (none,a.2))
  else
   (room (b.maps.length+([c]).length) 16).bind λf=>
   g {b with maps:=(b.maps++[c])})
def bZ(d:Int)(p:Int)(e:List jJ):Option ((Option zc)×Int):=
 if ((((decide (p<1)||decide (p>4))||decide (d<0))||decide (d>=p))||decide (((e).length:Int)>4)) then
  some (none,2)
 else
  (jM (iK e) (λ(a:zc)=>(.inl a)) (e).length 0 (zc.mk d p ([]:List qn) ([]:List zq) false)).bind λb=>match b with
   |.inl c=>
    some ((some c),0)
   |.inr r=>some r
def ox :Option zm:=
 some (zm.mk (qP.mk (λ_=>0)) (jo.mk (λ_=>0)))
def tW :Option zS:=
 some (zS.mk (λ_=>(zP.mk 0 0 0 0 0)))
def fe :Option zl:=
 ox.bind λa=>
 tW.bind λb=>
 some (zl.mk a b 0 (bD.mk 0 (zY.mk 0 (qr.mk 0 0)) 0 0 0 none))
def zI(p:List zg):Option (List zg):=
 (room (([]:List zg).length+p.length) 32).bind λa=>
 some (([]:List zg)++p)
def qQ(p:List Int):Option (List Int):=
 (room (([]:List Int).length+p.length) 1).bind λa=>
 some (([]:List Int)++p)
def cd(p:List zJ):Option (List zJ):=
 (room (0+p.length) 128).bind λ_=>(p.foldlM (λ(_:Unit)c=>(zI c.Tw).bind λ_=>(qQ c.Tu).bind λ_=>some ()) ()).bind λ_=>some p
def nA(p:Int):Option ((Option zn)×Int):=
 if (decide (p<1)||decide (p>64)) then
  some (none,2)
 else
  (mkLen p 16).bind λa=>
  some ((some (zn.mk (List.replicate a (ql.mk 0 0)) 0)),0)
abbrev yA:=(Option za)×Int
def oy(p:zG)(e:((List zp)×Int)->Option ((List zp)⊕yA))(a:(List zp)×Int):Option ((List zp)⊕yA):=
 if decide (a.2<p.Ti) then
  (lD p.TM (zM.mk 0)).bind λb=>
  vW b.1
   (if (b.2 !=0) then
    some (.inr (none,b.2))
   else
    none)
   (λc=>
   if (b.2 !=0) then
    some (.inr (none,b.2))
   else
    (room (a.1.length+([c]).length) 8).bind λd=>
    e ((a.1++[c]),w64 (a.2+1)))
 else
  some (.inl a.1)
def oz(p:zG)(e:((List zc)×Int)->Option ((List zc)⊕yA))(a:(List zc)×Int):Option ((List zc)⊕yA):=
 if decide (a.2<p.SR) then
  (bZ a.2 p.SR p.Maps).bind λb=>
  vW b.1
   (if (b.2 !=0) then
    some (.inr (none,b.2))
   else
    none)
   (λc=>
   if (b.2 !=0) then
    some (.inr (none,b.2))
   else
    (room (a.1.length+([c]).length) 8).bind λd=>
    e ((a.1++[c]),w64 (a.2+1)))
 else
  some (.inl a.1)
def lF(p:zG)(d:((List zB)×Int)->Option (List zB))(a:(List zB)×Int):Option (List zB):=
 if decide (a.2<p.SS) then
  fe.bind λb=>
  (room (a.1.length+([(zB.mk b 0 0 none false)]).length) 8).bind λc=>
  d ((a.1++[(zB.mk b 0 0 none false)]),w64 (a.2+1))
 else
  some a.1
def oA(p:List (List zJ))(d:Nat)(f:(List zd)->Option ((List zd)⊕yA))(a:(List zd)):Option ((List zd)⊕yA):=
 (idx p (d:Int)).bind λb=>
 if decide (((b).length:Int)>64) then
  some (.inr (none,11))
 else
  (cd b).bind λc=>
  (room (a.length+([(zd.mk c 0 false 0 (zA.mk 0 0 ([]:List zk) ([]:List zt)) ([]:List (List zt)) ([]:List zA))]).length) 8).bind λe=>
  f (a++[(zd.mk c 0 false 0 (zA.mk 0 0 ([]:List zk) ([]:List zt)) ([]:List (List zt)) ([]:List zA))])
def DJ(p:zG)(e:((List zp)×Int)->Option ((List zp)⊕yA))(a:(List zp)×Int):Option ((List zp)⊕yA):=
 if decide (a.2<p.Ti) then
  (lD p.TM (zM.mk 0)).bind λb=>
  vW b.1
   (if (b.2 !=0) then
    some (.inr (none,b.2))
   else
    none)
   (λc=>
   if (b.2 !=0) then
    some (.inr (none,b.2))
   else
    (room (a.1.length+([c]).length) 8).bind λd=>
    e ((a.1++[c]),w64 (a.2+1)))
 else
  some (.inl a.1)
def DK(p:zG)(e:((List zc)×Int)->Option ((List zc)⊕yA))(a:(List zc)×Int):Option ((List zc)⊕yA):=
 if decide (a.2<p.SR) then
  (bZ a.2 p.SR p.Maps).bind λb=>
  vW b.1
   (if (b.2 !=0) then
    some (.inr (none,b.2))
   else
    none)
   (λc=>
   if (b.2 !=0) then
    some (.inr (none,b.2))
   else
    (room (a.1.length+([c]).length) 8).bind λd=>
    e ((a.1++[c]),w64 (a.2+1)))
 else
  some (.inl a.1)
def DL(p:zG)(d:((List zB)×Int)->Option (List zB))(a:(List zB)×Int):Option (List zB):=
 if decide (a.2<p.SS) then
  fe.bind λb=>
  (room (a.1.length+([(zB.mk b 0 0 none false)]).length) 8).bind λc=>
  d ((a.1++[(zB.mk b 0 0 none false)]),w64 (a.2+1))
 else
  some a.1
def DM(p:List (List zJ))(d:Nat)(f:(List zd)->Option ((List zd)⊕yA))(a:(List zd)):Option ((List zd)⊕yA):=
 (idx p (d:Int)).bind λb=>
 if decide (((b).length:Int)>64) then
  some (.inr (none,11))
 else
  (cd b).bind λc=>
  (room (a.length+([(zd.mk c 0 false 0 (zA.mk 0 0 ([]:List zk) ([]:List zt)) ([]:List (List zt)) ([]:List zA))]).length) 8).bind λe=>
  f (a++[(zd.mk c 0 false 0 (zA.mk 0 0 ([]:List zk) ([]:List zt)) ([]:List (List zt)) ([]:List zA))])
def eF(k:Nat)(p:zG)(i:List (List zJ)):Option yA:=
 (bY p.Ti ((p.Maps).length:Int) p.SS).bind λa=>
 vW a.1
  (if (((((a.2 !=0)||decide (p.SR<1))||decide (p.SR>4))||decide (((i).length:Int)<1))||decide (((i).length:Int)>4)) then
   some (none,2)
  else
   (loop (DJ p) k (([]:List zp),0)).bind λb=>match b with
    |.inl D=>
     (loop (DK p) k (([]:List zc),0)).bind λc=>match c with
      |.inl E=>
       (loop (DL p) k (([]:List zB),0)).bind λF=>
       (jM (DM i) (λ(d:(List zd))=>(.inl d)) (i).length 0 ([]:List zd)).bind λe=>match e with
        |.inl G=>
         (nA (w64 ((w64 ((w64 (((i).length:Int)+p.SS))+p.SR))+1))).bind λf=>
         vW f.1
          (none)
          (λH=>
          none)
        |.inr r=>some r
      |.inr r=>some r
    |.inr r=>some r)
  (λg=>
  if (((((a.2 !=0)||decide (p.SR<1))||decide (p.SR>4))||decide (((i).length:Int)<1))||decide (((i).length:Int)>4)) then
   some (none,2)
  else
   (loop (oy p) k (([]:List zp),0)).bind λh=>match h with
    |.inl j=>
     (loop (oz p) k (([]:List zc),0)).bind λl=>match l with
      |.inl n=>
       (loop (lF p) k (([]:List zB),0)).bind λq=>
       (jM (oA i) (λ(v:(List zd))=>(.inl v)) (i).length 0 ([]:List zd)).bind λz=>match z with
        |.inl A=>
         (nA (w64 ((w64 ((w64 (((i).length:Int)+p.SS))+p.SR))+1))).bind λB=>
         vW B.1
          (none)
          (λC=>
          some ((some (za.mk g C p A q n j ([]:List zx) ([]:List zx) 0 false false ([]:List ze) (zM.mk 0))),0))
        |.inr r=>some r
      |.inr r=>some r
    |.inr r=>some r)
def cg(p:zn):Option Int:=
 some p.LT
def qG(p:za):Option Int:=
 some (w64 ((w64 (((p.or).length:Int)+((p.LE).length:Int)))+((p.Fd).length:Int)))
def zW(p:za):Option Int:=
 some ((p.or).length:Int)
def qE(p:za):Option Int:=
 some (w64 (((p.or).length:Int)+((p.LE).length:Int)))
def qq(p:List zq):Option (List zq):=
 (room (([]:List zq).length+p.length) 56).bind λa=>
 some (([]:List zq)++p)
def vv(p:zc):Option (List zq):=
 (qq p.SX).bind λa=>
 some a
def vk(p:zc):Option Bool:=
 some p.SZ
def cj(p:za)(a:Nat)(d:Unit->Option (Unit⊕Bool))(c:Unit):Option (Unit⊕Bool):=
 (idx p.LE (a:Int)).bind λb=>
 if (!b.SZ) then
  some (.inr false)
 else
  d ()
def cm(p:za)(g:Bool)(a:Nat)(f:Unit->Option (Unit⊕Bool))(e:Unit):Option (Unit⊕Bool):=
 (idx p.Fd (a:Int)).bind λb=>
 (if g then
  (vk b).bind λc=>
  some (!c)
 else
  some false).bind λd=>
 if d then
  some (.inr false)
 else
  f ()
def xK(p:za)(i:Bool):Option Bool:=
 ((room (p.LE).length 1).bind λc=>
 jM (cj p) (λ(d:Unit)=>(.inl ())) (p.LE).length 0 ()).bind λa=>match a with
  |.inl e=>
   ((room (p.Fd).length 1).bind λf=>
   jM (cm p i) (λ(g:Unit)=>(.inl ())) (p.Fd).length 0 ()).bind λb=>match b with
    |.inl h=>
     some true
    |.inr r=>some r
  |.inr r=>some r
def qw(p:List zx)(f:za)(a:Nat)(e:Unit->Option (Unit⊕Int))(d:Unit):Option (Unit⊕Int):=
 (idx p (a:Int)).bind λb=>
 (xm b f).bind λc=>
 if c then
  some (.inr (a:Int))
 else
  e ()
def qg(p:List zx)(d:za):Option Int:=
 (jM (qw p d) (λ(b:Unit)=>(.inl ())) (p).length 0 ()).bind λa=>match a with
  |.inl c=>
   some (-1)
  |.inr r=>some r
def xh(p:za):Option Int:=
 (qg p.held p).bind λa=>
 some a
def aI(p:za):Option Bool:=
 (if p.closed then
  (xK p true).bind λa=>
  if a then
   some (((p.held).length:Int)==0)
  else
   some false
 else
  some false).bind λb=>
 some b
def qX(p:za)(i:Int):Option Bool:=
 (zW p).bind λe=>
 if decide (i<e) then
  (idx p.or i).bind λa=>
  if a.waits then
   some (a.Tf==0)
  else
   some (decide (a.Tt<((a.Tj).length:Int)))
 else
  (qE p).bind λf=>
  if decide (i<f) then
   (zW p).bind λg=>
   (idx p.LE (w64 (i-g))).bind λb=>
   (jN b.SQ).bind λc=>
   if (c==0) then
    (if (!b.SZ) then
     if p.closed then
      some true
     else
      (vi p).bind λh=>
      some h
    else
     some false).bind λj=>
    some j
   else
    if (c==3) then
     some b.TV.isSome
    else
     some true
  else
   (qG p).bind λl=>
   if decide (i<l) then
    (qE p).bind λn=>
    (idx p.Fd (w64 (i-n))).bind λd=>
    ((vv d).bind λq=>
    if decide (((q).length:Int)>0) then
     some true
    else
     if p.closed then
      (xK p false).bind λv=>
      if v then
       (vk d).bind λz=>
       some (!z)
      else
       some false
     else
      some false).bind λA=>
    some A
   else
    (if (!p.over) then
     if decide (((p.SX).length:Int)>0) then
      some true
     else
      (xh p).bind λB=>
      if decide (B>=0) then
       some true
      else
       (aI p).bind λC=>
       some C
    else
     some false).bind λD=>
    some D
def gh(p:List Bool)(b:Nat)(e:zn->Option zn)(a:zn):Option zn:=
 (idx p (b:Int)).bind λd=>
 (idx a.SU (b:Int)).bind λc=>
 if (c.SY==2) then
  e a
 else
  if d then
   e (zn.mk (a.SU.set (Int.toNat (b:Int)) (ql.mk 1 c.Uk)) a.LT)
  else
   e (zn.mk (a.SU.set (Int.toNat (b:Int)) (ql.mk 0 c.Uk)) a.LT)
def eG(p:zn)(c:List Bool):Option (Int×zn):=
 if (((c).length:Int) !=((p.SU).length:Int)) then
  some (2,p)
 else
  (jM (gh c) (λ(a:zn)=>a) (c).length 0 p).bind λb=>
  some (0,b)
def dh(p:za)(a:Nat)(e:(List Bool)->Option (List Bool))(b:(List Bool)):Option (List Bool):=
 (qX p (a:Int)).bind λc=>
 (idx b (a:Int)).bind λd=>
 e (b.set (Int.toNat (a:Int)) c)
def xp(p:za):Option za:=
 (qG p).bind λb=>
 (mkLen (w64 (b+1)) 1).bind λa=>
 ((room a 1).bind λf=>
 jM (dh p) (λ(c:(List Bool))=>c) a 0 (List.replicate a false)).bind λd=>
 (eG p.Td d).bind λe=>
 some {p with Td:=e.2}
def gX(p:zn)(f:Int)(a:Nat)(e:(List Int)->Option (List Int))(b:(List Int)):Option (List Int):=
 (idx p.SU (a:Int)).bind λc=>
 if (c.SY==f) then
  (room (b.length+([(a:Int)]).length) 8).bind λd=>
  e (b++[(a:Int)])
 else
  e b
def ef(p:zn)(c:Int):Option (List Int):=
 (jM (gX p c) (λ(a:(List Int))=>a) (p.SU).length 0 ([]:List Int)).bind λb=>
 some b
def xG(p:zn):Option (List Int):=
 (ef p 1).bind λa=>
 some a
def aa(p:zn)(b:Int):Option (Int×Bool×zn):=
 (idx p.SU b).bind λa=>
 some (b,true,(zn.mk (p.SU.set (Int.toNat b) (ql.mk a.SY (w64 (p.LT+1)))) (w64 (p.LT+1))))
def dx(p:zn)(f:Int):Option (Int×Bool×zn):=
 (xG p).bind λa=>
 if (((a).length:Int)==0) then
  some (0,false,p)
 else
  (nz ((a).length:Int)).bind λe=>
  (if decide ((f.tmod ((a).length:Int))<0) then
   some (w64 ((f.tmod ((a).length:Int))+((a).length:Int)))
  else
   some (f.tmod ((a).length:Int))).bind λc=>
  (idx a c).bind λd=>
  (aa p d).bind λb=>
  some (b.1,b.2.1,b.2.2)
def fg(c:zd)(d:Nat)(f:(List zt)->Option zd)(a:(List zt)):Option zd:=
 (idx c.parts (d:Int)).bind λb=>
 (room (a.length+b.length) 16).bind λe=>
 f (a++b)
def ja(p:za)(f:Int):Option za:=
 (idx p.or f).bind λb=>
 (jM (fg b) (λ(c:(List zt))=>{b with Id:=(zA.mk b.Id.E b.Id.N b.Id.TD c)}) (b.parts).length 0 b.Id.Pairs).bind λa=>
 (room (p.Tr.length+([(ze.mk 2 f 0 a.Tt 0 0 0 0 0 0 (zg.mk 0 0 0 0) (zk.mk 0 false 0 false 0 0) (xZ a.Id.N) a.Id.E)]).length) 176).bind λd=>
 (room (a.Tc.length+([a.Id]).length) 64).bind λe=>
 some {p with or:=(p.or.set (Int.toNat f) (zd.mk a.Tj (w64 (a.Tt+1)) false a.Tf (zA.mk 0 0 ([]:List zk) ([]:List zt)) ([]:List (List zt)) (a.Tc++[a.Id]))),Tr:=(p.Tr++[(ze.mk 2 f 0 a.Tt 0 0 0 0 0 0 (zg.mk 0 0 0 0) (zk.mk 0 false 0 false 0 0) (xZ a.Id.N) a.Id.E)])}
def qB(p:List zg)(f:za)(a:Nat)(e:Unit->Option (Unit⊕Int))(d:Unit):Option (Unit⊕Int):=
 (idx p (a:Int)).bind λb=>
 (cM b f).bind λc=>
 if c then
  some (.inr (a:Int))
 else
  e ()
def qm(p:List zg)(d:za):Option Int:=
 (jM (qB p d) (λ(b:Unit)=>(.inl ())) (p).length 0 ()).bind λa=>match a with
  |.inl c=>
   some (-1)
  |.inr r=>some r
def qf(p:List zg)(b:za):Option Bool:=
 (qm p b).bind λa=>
 some (decide (a>=0))
def xH(p:za)(b:List zg):Option Bool:=
 (qf b p).bind λa=>
 some a
def ay(b:Int)(p:Int):Option Int:=
 if decide (p<1) then
  some 0
 else
  (nz (xZ p)).bind λa=>
  some (w64 ((iU .u64 (xZ (b*11400714819323198485)) 32).tmod (xZ p)))
def xR(c:zc)(p:zq):Option Bool:=
 if (decide (p.Item.TB<0)||decide (p.Item.TB>=((c.maps).length:Int))) then
  some false
 else
  (if p.Up then
   some true
  else
   if decide (p.Item.Op>=0) then
    if decide (p.Item.Op<5) then
     (ay p.Item.TQ c.TR).bind λa=>
     some (a==c.Uo)
    else
     some false
   else
    some false).bind λb=>
  some b
def gY(p:zc)(f:List zq)(a:Nat)(e:Unit->Option (Unit⊕(Int×zc)))(d:Unit):Option (Unit⊕(Int×zc)):=
 (idx f (a:Int)).bind λb=>
 (xR p b).bind λc=>
 if (!c) then
  some (.inr (2,p))
 else
  e ()
def jH(p:zc)(e:List zq):Option (Int×zc):=
 if p.SZ then
  some (43,p)
 else
  (jM (gY p e) (λ(b:Unit)=>(.inl ())) (e).length 0 ()).bind λa=>match a with
   |.inl c=>
    (room (p.SX.length+e.length) 56).bind λd=>
    some (0,{p with SX:=(p.SX++e)})
   |.inr r=>some r
def aJ(p:zM):Option (Int×zM):=
 some (w64 (p.last+1),(zM.mk (w64 (p.last+1))))
def xj(p:zp)(c:qr)(g:zM):Option (Int×Int×zp×zM):=
 if p.Uf then
  some (0,43,p,g)
 else
  if (((p.waiting).length:Int)==p.room) then
   some (0,40,{p with counts:=(xC.mk p.counts.TO (w64 (p.counts.TY+1)) p.counts.Uw p.counts.TW p.counts.Uc)},g)
  else
   (aJ g).bind λa=>
   (room (p.waiting.length+([(zY.mk a.1 c)]).length) 24).bind λb=>
   some (a.1,0,(zp.mk p.room p.Uf (p.waiting++[(zY.mk a.1 c)]) (xC.mk (w64 (p.counts.TO+1)) p.counts.TY p.counts.Uw p.counts.TW p.counts.Uc)),a.2)
def dP(p:Int)(e:zJ)(b:Nat)(h:(List zc)->Option (List zc))(a:(List zc)):Option (List zc):=
 (idx ([e.Item]) (b:Int)).bind λc=>
 (ay c.TQ ((a).length:Int)).bind λd=>
 (idx a d).bind λf=>
 (jH f ([(zq.mk p (b:Int) false c)])).bind λg=>
 h (a.set (Int.toNat d) g.2)
def gZ(p:Int)(e:zJ)(b:Nat)(h:(List zc)->Option (List zc))(a:(List zc)):Option (List zc):=
 (idx e.Tw (b:Int)).bind λc=>
 (ay c.TQ ((a).length:Int)).bind λd=>
 (idx a d).bind λf=>
 (jH f ([(zq.mk p (b:Int) false c)])).bind λg=>
 h (a.set (Int.toNat d) g.2)
def dQ(p:Int)(c:zJ)(a:Nat)(f:(List zc)->Option (List zc))(b:(List zc)):Option (List zc):=
 (idx b (a:Int)).bind λd=>
 (jH d ([(zq.mk p (a:Int) true (zg.mk c.TB 0 0 0))])).bind λe=>
 f (b.set (Int.toNat (a:Int)) e.2)
def xS(p:za)(i:Int):Option za:=
 (idx p.or i).bind λa=>
 if a.waits then
  (ja p i).bind λe=>
  some e
 else
  (room (p.Tr.length+([(ze.mk 1 i 0 a.Tt 0 0 0 0 0 0 (zg.mk 0 0 0 0) (zk.mk 0 false 0 false 0 0) 0 0)]).length) 176).bind λR=>
  (idx a.Tj a.Tt).bind λb=>
  if p.closed then
   (ja {p with or:=(p.or.set (Int.toNat i) {a with Id:=(zA.mk 43 a.Id.N a.Id.TD a.Id.Pairs)}),Tr:=(p.Tr++[(ze.mk 1 i 0 a.Tt 0 0 0 0 0 0 (zg.mk 0 0 0 0) (zk.mk 0 false 0 false 0 0) 0 0)])} i).bind λf=>
   some f
  else
   (((if (b.SV==0) then
    some (b.SV==0)
   else
    some (b.SV==1)).bind λg=>
   if g then
    if (b.SV==0) then
     (xH {p with Tr:=(p.Tr++[(ze.mk 1 i 0 a.Tt 0 0 0 0 0 0 (zg.mk 0 0 0 0) (zk.mk 0 false 0 false 0 0) 0 0)])} ([b.Item])).bind λh=>
     if h then
      (ja {p with or:=(p.or.set (Int.toNat i) {a with Id:=(zA.mk 2 a.Id.N a.Id.TD a.Id.Pairs)}),Tr:=(p.Tr++[(ze.mk 1 i 0 a.Tt 0 0 0 0 0 0 (zg.mk 0 0 0 0) (zk.mk 0 false 0 false 0 0) 0 0)])} i).bind λj=>
      some (.inr j)
     else
      (mkLen 1 48).bind λl=>
      (jM (dP i b) (λ(n:(List zc))=>n) 1 0 p.Fd).bind λq=>
      some (.inl ({a with Tf:=1,Id:=(zA.mk a.Id.E a.Id.N (List.replicate l (zk.mk 0 false 0 false 0 0)) a.Id.Pairs)},q,p.SX))
    else
     (if decide (((b.Tw).length:Int)<1) then
      some true
     else
      if decide (((b.Tw).length:Int)>16) then
       some true
      else
       (xH {p with Tr:=(p.Tr++[(ze.mk 1 i 0 a.Tt 0 0 0 0 0 0 (zg.mk 0 0 0 0) (zk.mk 0 false 0 false 0 0) 0 0)])} b.Tw).bind λv=>
       some v).bind λz=>
     if z then
      (ja {p with or:=(p.or.set (Int.toNat i) {a with Id:=(zA.mk 2 a.Id.N a.Id.TD a.Id.Pairs)}),Tr:=(p.Tr++[(ze.mk 1 i 0 a.Tt 0 0 0 0 0 0 (zg.mk 0 0 0 0) (zk.mk 0 false 0 false 0 0) 0 0)])} i).bind λA=>
      some (.inr A)
     else
      (mkLen ((b.Tw).length:Int) 48).bind λB=>
      ((room (b.Tw).length 1).bind λS=>
      jM (gZ i b) (λ(C:(List zc))=>C) (b.Tw).length 0 p.Fd).bind λD=>
      some (.inl ({a with Tf:=((b.Tw).length:Int),Id:=(zA.mk a.Id.E a.Id.N (List.replicate B (zk.mk 0 false 0 false 0 0)) a.Id.Pairs)},D,p.SX))
   else
    if (b.SV==2) then
     if (decide (b.TB<0)||decide (b.TB>=((p.Tm.Maps).length:Int))) then
      (ja {p with or:=(p.or.set (Int.toNat i) {a with Id:=(zA.mk 2 a.Id.N a.Id.TD a.Id.Pairs)}),Tr:=(p.Tr++[(ze.mk 1 i 0 a.Tt 0 0 0 0 0 0 (zg.mk 0 0 0 0) (zk.mk 0 false 0 false 0 0) 0 0)])} i).bind λF=>
      some (.inr F)
     else
      (mkLen ((p.Fd).length:Int) 24).bind λG=>
      (jM (dQ i b) (λ(H:(List zc))=>H) (p.Fd).length 0 p.Fd).bind λI=>
      some (.inl ({a with Tf:=((p.Fd).length:Int),parts:=(List.replicate G [])},I,p.SX))
    else
     if (b.SV==3) then
      if (decide (b.TC<0)||decide (b.TC>=((p.rings).length:Int))) then
       (ja {p with or:=(p.or.set (Int.toNat i) {a with Id:=(zA.mk 2 a.Id.N a.Id.TD a.Id.Pairs)}),Tr:=(p.Tr++[(ze.mk 1 i 0 a.Tt 0 0 0 0 0 0 (zg.mk 0 0 0 0) (zk.mk 0 false 0 false 0 0) 0 0)])} i).bind λJ=>
       some (.inr J)
      else
       (idx p.rings b.TC).bind λK=>
       (xj K b.Tq p.TF).bind λc=>
       if (c.2.1==0) then
        (room ((p.Tr++[(ze.mk 1 i 0 a.Tt 0 0 0 0 0 0 (zg.mk 0 0 0 0) (zk.mk 0 false 0 false 0 0) 0 0)]).length+([(ze.mk 4 i 0 a.Tt 0 c.1 b.TC 0 0 0 (zg.mk 0 0 0 0) (zk.mk 0 false 0 false 0 0) 0 0)]).length) 176).bind λT=>
        if ((c.2.1 !=0)||(!a.waits)) then
         (ja {p with or:=(p.or.set (Int.toNat i) {a with Id:=(zA.mk c.2.1 c.1 a.Id.TD a.Id.Pairs)}),rings:=(p.rings.set (Int.toNat b.TC) c.2.2.1),Tr:=((p.Tr++[(ze.mk 1 i 0 a.Tt 0 0 0 0 0 0 (zg.mk 0 0 0 0) (zk.mk 0 false 0 false 0 0) 0 0)])++[(ze.mk 4 i 0 a.Tt 0 c.1 b.TC 0 0 0 (zg.mk 0 0 0 0) (zk.mk 0 false 0 false 0 0) 0 0)]),TF:=c.2.2.2} i).bind λL=>
         some (.inr L)
        else
         some (.inr {p with or:=(p.or.set (Int.toNat i) {a with Id:=(zA.mk c.2.1 c.1 a.Id.TD a.Id.Pairs)}),rings:=(p.rings.set (Int.toNat b.TC) c.2.2.1),Tr:=((p.Tr++[(ze.mk 1 i 0 a.Tt 0 0 0 0 0 0 (zg.mk 0 0 0 0) (zk.mk 0 false 0 false 0 0) 0 0)])++[(ze.mk 4 i 0 a.Tt 0 c.1 b.TC 0 0 0 (zg.mk 0 0 0 0) (zk.mk 0 false 0 false 0 0) 0 0)]),TF:=c.2.2.2})
       else
        if ((c.2.1 !=0)||(!a.waits)) then
         (ja {p with or:=(p.or.set (Int.toNat i) {a with Id:=(zA.mk c.2.1 a.Id.N a.Id.TD a.Id.Pairs)}),rings:=(p.rings.set (Int.toNat b.TC) c.2.2.1),Tr:=(p.Tr++[(ze.mk 1 i 0 a.Tt 0 0 0 0 0 0 (zg.mk 0 0 0 0) (zk.mk 0 false 0 false 0 0) 0 0)]),TF:=c.2.2.2} i).bind λM=>
         some (.inr M)
        else
         some (.inr {p with or:=(p.or.set (Int.toNat i) {a with Id:=(zA.mk c.2.1 a.Id.N a.Id.TD a.Id.Pairs)}),rings:=(p.rings.set (Int.toNat b.TC) c.2.2.1),Tr:=(p.Tr++[(ze.mk 1 i 0 a.Tt 0 0 0 0 0 0 (zg.mk 0 0 0 0) (zk.mk 0 false 0 false 0 0) 0 0)]),TF:=c.2.2.2})
     else
      (if (b.SV==4) then
       some (b.SV==4)
      else
       if (b.SV==5) then
        some (b.SV==5)
       else
        if (b.SV==6) then
         some (b.SV==6)
        else
         if (b.SV==7) then
          some (b.SV==7)
         else
          if (b.SV==8) then
           some (b.SV==8)
          else
           if (b.SV==9) then
            some (b.SV==9)
           else
            some (b.SV==10)).bind λO=>
      if O then
       (room (p.SX.length+([(zx.mk i b 0)]).length) 144).bind λU=>
       some (.inl ({a with Tf:=1},p.Fd,(p.SX++[(zx.mk i b 0)])))
      else
       (ja {p with or:=(p.or.set (Int.toNat i) {a with Id:=(zA.mk 2 a.Id.N a.Id.TD a.Id.Pairs)}),Tr:=(p.Tr++[(ze.mk 1 i 0 a.Tt 0 0 0 0 0 0 (zg.mk 0 0 0 0) (zk.mk 0 false 0 false 0 0) 0 0)])} i).bind λP=>
       some (.inr P)):Option ((zd×(List zc)×(List zx))⊕za)).bind λQ=>match Q with
    |.inl d=>
     some {p with or:=(p.or.set (Int.toNat i) (zd.mk d.1.Tj d.1.Tt true d.1.Tf (zA.mk 0 d.1.Id.N d.1.Id.TD d.1.Id.Pairs) d.1.parts d.1.Tc)),Fd:=d.2.1,SX:=d.2.2,Tr:=(p.Tr++[(ze.mk 1 i 0 a.Tt 0 0 0 0 0 0 (zg.mk 0 0 0 0) (zk.mk 0 false 0 false 0 0) 0 0)])}
    |.inr r=>some r
def xq(p:zl):Option (Int×zY):=
 some (p.Tz.hook,p.Tz.TE)
def kH(p:zn)(e:List Int)(b:Nat)(d:Unit->Option (Unit⊕(Int×zn)))(c:Unit):Option (Unit⊕(Int×zn)):=
 (idx e (b:Int)).bind λa=>
 if (decide (a<0)||decide (a>=((p.SU).length:Int))) then
  some (.inr (2,p))
 else
  d ()
def kJ(p:zn)(f:List Int)(a:Nat)(e:Unit->Option (Unit⊕(Int×zn)))(d:Unit):Option (Unit⊕(Int×zn)):=
 (idx f (a:Int)).bind λb=>
 (idx p.SU b).bind λc=>
 if (c.SY==2) then
  some (.inr (43,p))
 else
  e ()
def kK(p:Int)(f:List Int)(c:Nat)(e:zn->Option zn)(a:zn):Option zn:=
 (idx f (c:Int)).bind λb=>
 (idx a.SU b).bind λd=>
 e (zn.mk (a.SU.set (Int.toNat b) (ql.mk p d.Uk)) a.LT)
def fF(i:zn)(j:Int)(p:List Int):Option (Int×zn):=
 (jM (kH i p) (λ(e:Unit)=>(.inl ())) (p).length 0 ()).bind λa=>match a with
  |.inl f=>
   (jM (kJ i p) (λ(g:Unit)=>(.inl ())) (p).length 0 ()).bind λb=>match b with
    |.inl h=>
     (jM (kK j p) (λ(c:zn)=>c) (p).length 0 i).bind λd=>
     some (0,d)
    |.inr r=>some r
  |.inr r=>some r
def aY(p:zn)(b:List Int):Option (Int×zn):=
 (fF p 2 b).bind λa=>
 some (a.1,a.2)
def vf(p:zp)(g:zM):Option (zY×Bool×zp):=
 if (((p.waiting).length:Int)==0) then
  some ((zY.mk 0 (qr.mk 0 0)),false,p)
 else
  (idx p.waiting 0).bind λa=>
  (cut p.waiting 1 (p.waiting.length:Int)).bind λb=>
  some (a,true,(zp.mk p.room p.Uf b (xC.mk p.counts.TO p.counts.TY (w64 (p.counts.Uw+1)) p.counts.TW p.counts.Uc)))
def vP(p:zl)(a:Int)(b:zY):Option (Int×zl):=
 if (decide (a<0)||decide (a>=4)) then
  some (2,p)
 else
  if (p.SY !=0) then
   some (42,p)
  else
   some (0,{p with SY:=1,Tz:=(bD.mk a b 0 0 0 none)})
def jf(a:zz)(p:Int):Option Bool:=
 some (decide (p>=0)&&decide (p<((a.Te).length:Int)))
def jg(p:zz)(b:Int):Option Bool:=
 (idx p.Te b).bind λa=>
 some (decide (a.Ts>0))
def jl(p:zz)(e:Int):Option (Int×Int×Bool):=
 ((jf p e).bind λb=>
 if (!b) then
  some true
 else
  (jg p e).bind λc=>
  some (!c)).bind λd=>
 if d then
  some (0,0,false)
 else
  (idx p.Te e).bind λa=>
  some (a.Ts,a.prog,true)
def fh(p:Int):Option Bool:=
 some (decide (p>=0)&&decide (p<4))
def vQ(p:zS)(f:List Int)(a:Nat)(e:Unit->Option (Unit⊕(Int×zS)))(d:Unit):Option (Unit⊕(Int×zS)):=
 (idx f (a:Int)).bind λb=>
 (fh b).bind λc=>
 if (!c) then
  some (.inr (2,p))
 else
  e ()
def vR(p:List Int)(c:Nat)(e:zS->Option zS)(a:zS):Option zS:=
 (idx p (c:Int)).bind λd=>
 (ain 4 d).bind λb=>
 e (zS.mk (aset a.Te b (zP.mk (a.Te b).US (xZ ((a.Te b).Ul+1)) (a.Te b).UA (a.Te b).Calls (a.Te b).Sum)))
def vS(f:zS)(p:List Int):Option (Int×zS):=
 (jM (vQ f p) (λ(d:Unit)=>(.inl ())) (p).length 0 ()).bind λa=>match a with
  |.inl e=>
   (jM (vR p) (λ(b:zS)=>b) (p).length 0 f).bind λc=>
   some (0,c)
  |.inr r=>some r
def bT(p:zl):Option zl:=
 some {p with SY:=0,Tz:=(bD.mk 0 (zY.mk 0 (qr.mk 0 0)) 0 0 0 none)}
def xL(p:zl):Option (Int×zl):=
 if (p.SY !=1) then
  some (41,p)
 else
  (vS p.Ua ([p.Tz.hook])).bind λa=>
  (bT {p with Ua:=a.2}).bind λb=>
  some (0,b)
def jd(p:List Int):Option (List Int):=
 (room (([]:List Int).length+p.length) 8).bind λa=>
 some (([]:List Int)++p)
def zT(p:List zf):Option (List zf):=
 (room (([]:List zf).length+p.length) 40).bind λa=>
 some (([]:List zf)++p)
def qR(p:zb)(d:Int):Option (zE×Bool):=
 if (!(jz p.Tl d).isSome) then
  some ((zE.mk ([]:List Int) ([]:List zf)),false)
 else
  (jz p.Tl d).bind λa=>
  (jd a.module.Maps).bind λb=>
  (zT a.module.Code).bind λc=>
  some ((zE.mk b c),true)
def vl(a:zF)(p:Int):Option Bool:=
 some (decide (p>=0)&&decide (p<((a.in_).length:Int)))
def vn(p:zF)(c:Int):Option (Int×Int×zF):=
 (vl p c).bind λa=>
 if (!a) then
  some (0,2,p)
 else
  (idx p.in_ c).bind λb=>
  if (b !=0) then
   some (0,42,p)
  else
   some (p.Uq,0,(zF.mk p.Uq (p.in_.set (Int.toNat c) p.Uq)))
def pg(p:List Int)(b:Nat)(g:Unit->Option (Unit⊕Bool))(f:Unit):Option (Unit⊕Bool):=
 (idx p (b:Int)).bind λa=>
 (if decide (a<0) then
  some true
 else
  if decide (a>=4) then
   some true
  else
   (cut p 0 (b:Int)).bind λc=>
   (qa c a).bind λd=>
   some d).bind λe=>
 if e then
  some (.inr false)
 else
  g ()
def kL(p:List Int):Option Bool:=
 (jM (pg p) (λ(b:Unit)=>(.inl ())) (p).length 0 ()).bind λa=>match a with
  |.inl c=>
   some (decide (((p).length:Int)<=4))
  |.inr r=>some r
def fb(p:Int):Option (jc×Bool):=
 if (decide (p<0)||decide (p>=23)) then
  some ((jc.mk ByteArray.empty ByteArray.empty),false)
 else
  (idx xV p).bind λa=>
  some (a,true)
def eg(p:Int):Option Bool:=
 some (decide (p>=0)&&decide (p<8))
def cO(p:Int)(a:Int)(b:Int):Option Bool:=
 some (decide (p>=a)&&decide (p<=b))
def iL(p:zf)(c:jc×Bool)(d:Nat)(i:(Bool×zf)->Option (Bool×zf))(a:Bool×zf):Option (Bool×zf):=
 (wd c.1.TN (d:Int)).bind λb=>
 if (b==100) then
  if a.1 then
   (eg p.D).bind λe=>
   i (e,(zf.mk a.2.Op 0 a.2.A a.2.B a.2.TJ))
  else
   i (false,(zf.mk a.2.Op 0 a.2.A a.2.B a.2.TJ))
 else
  if (b==97) then
   if a.1 then
    (eg p.A).bind λf=>
    i (f,(zf.mk a.2.Op a.2.D 0 a.2.B a.2.TJ))
   else
    i (false,(zf.mk a.2.Op a.2.D 0 a.2.B a.2.TJ))
  else
   if (b==115) then
    if (p.B==8) then
     i (a.1,(zf.mk a.2.Op a.2.D a.2.A 0 0))
    else
     if a.1 then
      (eg p.B).bind λg=>
      i (g,(zf.mk a.2.Op a.2.D a.2.A 0 a.2.TJ))
     else
      i (false,(zf.mk a.2.Op a.2.D a.2.A 0 a.2.TJ))
   else
    if (b==102) then
     if a.1 then
      (cO p.TJ 0 1).bind λh=>
      i (h,(zf.mk a.2.Op a.2.D a.2.A a.2.B 0))
     else
      i (false,(zf.mk a.2.Op a.2.D a.2.A a.2.B 0))
    else
     if (b==109) then
      if a.1 then
       (cO p.TJ 0 3).bind λj=>
       i (j,(zf.mk a.2.Op a.2.D a.2.A a.2.B 0))
      else
       i (false,(zf.mk a.2.Op a.2.D a.2.A a.2.B 0))
     else
      if (b==104) then
       if a.1 then
        (cO p.TJ 0 6).bind λl=>
        i (l,(zf.mk a.2.Op a.2.D a.2.A a.2.B 0))
       else
        i (false,(zf.mk a.2.Op a.2.D a.2.A a.2.B 0))
      else
       if (b==110) then
        if a.1 then
         (cO p.TJ 1 255).bind λn=>
         i (n,(zf.mk a.2.Op a.2.D a.2.A a.2.B 0))
        else
         i (false,(zf.mk a.2.Op a.2.D a.2.A a.2.B 0))
       else
        if (b==106) then
         if a.1 then
          (cO p.D 0 63).bind λq=>
          i (q,(zf.mk a.2.Op 0 a.2.A a.2.B a.2.TJ))
         else
          i (false,(zf.mk a.2.Op 0 a.2.A a.2.B a.2.TJ))
        else
         if (b==98) then
          if a.1 then
           (cO p.D 1 63).bind λv=>
           i (v,(zf.mk a.2.Op 0 a.2.A a.2.B a.2.TJ))
          else
           i (false,(zf.mk a.2.Op 0 a.2.A a.2.B a.2.TJ))
         else
          i (a.1,a.2)
def vT(p:zf):Option Bool:=
 (fb p.Op).bind λb=>
 if (!b.2) then
  some false
 else
  ((room b.1.TN.size 1).bind λe=>
  jM (iL p b) (λ(c:Bool×zf)=>(c.1,c.2)) b.1.TN.size 0 (b.2,{p with Op:=0})).bind λa=>
  (if a.1 then
   some ((a.2.Op==0)&&((a.2.D==0)&&((a.2.A==0)&&((a.2.B==0)&&((a.2.TJ==0)&&true)))))
  else
   some false).bind λd=>
  some d
def sI(p:jc)(e:Int)(a:Nat)(d:Unit->Option (Unit⊕Bool))(c:Unit):Option (Unit⊕Bool):=
 (wd p.TN (a:Int)).bind λb=>
 if (b==e) then
  some (.inr true)
 else
  d ()
def jv(p:jc)(e:Int):Option Bool:=
 ((room p.TN.size 1).bind λb=>
 jM (sI p e) (λ(c:Unit)=>(.inl ())) p.TN.size 0 ()).bind λa=>match a with
  |.inl d=>
   some false
  |.inr r=>some r
def lH(p:zf):Option (Int×Bool×Bool):=
 (vT p).bind λb=>
 if (!b) then
  some (0,false,false)
 else
  (fb p.Op).bind λa=>
  (jv a.1 106).bind λc=>
  if c then
   some (w64 (p.D+1),true,(p.Op !=15))
  else
   (jv a.1 98).bind λd=>
   if d then
    some (w64 (0-p.D),true,true)
   else
    some (0,false,(p.Op !=22))
def mD(p:List zf)(a:Nat)(e:Unit->Option (Unit⊕Bool))(d:Unit):Option (Unit⊕Bool):=
 (idx p (a:Int)).bind λb=>
 (vT b).bind λc=>
 if (!c) then
  some (.inr false)
 else
  e ()
def fP(p:List zf):Option Bool:=
 (jM (mD p) (λ(b:Unit)=>(.inl ())) (p).length 0 ()).bind λa=>match a with
  |.inl c=>
   some true
  |.inr r=>some r
abbrev yC:=Unit⊕(Int×Int)
def nZ(p:List zf)(a:Nat)(f:Unit->Option yC)(e:Unit):Option yC:=
 (idx p (a:Int)).bind λc=>
 (lH c).bind λb=>
 (fP ([c])).bind λd=>
 if (!d) then
  some (.inr ((a:Int),12))
 else
  if (b.2.1&&(decide ((w64 ((a:Int)+b.1))<0)||decide ((w64 ((a:Int)+b.1))>=((p).length:Int)))) then
   some (.inr ((a:Int),30))
  else
   if (b.2.2&&((a:Int)==(w64 (((p).length:Int)-1)))) then
    some (.inr ((a:Int),36))
   else
    f ()
def hP(p:List zf):Option (Int×Int):=
 (jM (nZ p) (λ(b:Unit)=>(.inl ())) (p).length 0 ()).bind λa=>match a with
  |.inl c=>
   some (0,0)
  |.inr r=>some r
def ph(p:List zf)(a:Nat)(e:(List qy)->Option (List qy))(c:(List qy)):Option (List qy):=
 (idx p (a:Int)).bind λb=>
 if (b.Op==20) then
  (room (c.length+([(qy.mk (w64 ((a:Int)-b.D)) (a:Int) b.TJ)]).length) 24).bind λd=>
  e (c++[(qy.mk (w64 ((a:Int)-b.D)) (a:Int) b.TJ)])
 else
  e c
def fj(p:List zf):Option (List qy):=
 (jM (ph p) (λ(a:(List qy))=>a) (p).length 0 ([]:List qy)).bind λb=>
 some b
def oB(p:qy)(a:Int):Option Bool:=
 some (decide (a>=p.Ui)&&decide (a<=p.At))
def iZ(a:qy)(c:List qy)(d:Nat)(f:Unit->Option yC)(e:Unit):Option yC:=
 (idx c (d:Int)).bind λb=>
 if (decide (b.At>=a.Ui)&&decide (b.Ui<a.Ui)) then
  some (.inr (a.At,31))
 else
  f ()
def fG(a:(List qy))(b:Nat)(i:Unit->Option yC)(f:Unit):Option yC:=
 (idx a (b:Int)).bind λd=>
 (cut a 0 (b:Int)).bind λc=>
 (jM (iZ d c) (λ(g:Unit)=>(.inl ())) (c).length 0 ()).bind λe=>match e with
  |.inl h=>
   i ()
  |.inr r=>some (.inr r)
def ka(d:(List qy))(a:Nat)(b:Int×Bool×Bool)(e:Nat)(i:Unit->Option yC)(j:Unit):Option yC:=
 (idx d (e:Int)).bind λc=>
 (if b.2.1 then
  if decide (b.1>0) then
   (oB c (a:Int)).bind λf=>
   if (!f) then
    (oB c (w64 ((a:Int)+b.1))).bind λg=>
    if g then
     some ((w64 ((a:Int)+b.1)) !=c.Ui)
    else
     some false
   else
    some false
  else
   some false
 else
  some false).bind λh=>
 if h then
  some (.inr ((a:Int),31))
 else
  i ()
def kb(p:List zf)(a:(List qy))(b:Nat)(i:Unit->Option yC)(f:Unit):Option yC:=
 (idx p (b:Int)).bind λc=>
 (lH c).bind λd=>
 (jM (ka a b d) (λ(g:Unit)=>(.inl ())) (a).length 0 ()).bind λe=>match e with
  |.inl h=>
   i ()
  |.inr r=>some (.inr r)
def hU(p:List zf):Option (Int×Int):=
 (fj p).bind λa=>
 (jM (fG a) (λ(d:Unit)=>(.inl ())) (a).length 0 ()).bind λb=>match b with
  |.inl e=>
   (jM (kb p a) (λ(f:Unit)=>(.inl ())) (p).length 0 ()).bind λc=>match c with
    |.inl g=>
     some (0,0)
    |.inr r=>some r
  |.inr r=>some r
def mE(c:(List qy))(d:Nat)(e:Nat)(g:Int->Option Int)(a:Int):Option Int:=
 (idx c (e:Int)).bind λb=>
 (oB b (d:Int)).bind λf=>
 if f then
  g (nM (w64 (a*(w64 (b.Uz+1)))) 257)
 else
  g a
def sb(a:(List qy))(b:Nat)(f:Int->Option Int)(c:Int):Option Int:=
 (jM (mE a b) (λ(d:Int)=>d) (a).length 0 1).bind λe=>
 f (nM (w64 (c+e)) 257)
def mF(p:List zf):Option Int:=
 (fj p).bind λa=>
 (jM (sb a) (λ(b:Int)=>b) (p).length 0 0).bind λc=>
 some c
def fk(p:List zf):Option (Int×Int):=
 if (((p).length:Int)==0) then
  some (0,10)
 else
  if decide (((p).length:Int)>64) then
   some (0,11)
  else
   (hP p).bind λa=>
   if (a.2 !=0) then
    some (a.1,a.2)
   else
    (hU p).bind λb=>
    if (b.2 !=0) then
     some (b.1,b.2)
    else
     (mF p).bind λc=>
     if decide (c>256) then
      some (0,32)
     else
      some (0,0)
def kM(p:List zf):Option ((List qy)×Int):=
 (fk p).bind λa=>
 if (a.2 !=0) then
  some (([]:List qy),a.2)
 else
  (fj p).bind λb=>
  some (b,0)
def cP(p:zf):Option (Int×Bool):=
 (vT p).bind λa=>
 if (!a) then
  some (0,false)
 else
  (fb p.Op).bind λb=>
  (jv b.1 100).bind λc=>
  if c then
   some (p.D,true)
  else
   some (0,(p.Op==21))
def cq :Option zh:=
 some (zh.mk 0 18446744073709551615)
def vg(p:zh):Option zi:=
 some (zi.mk 1 p 0)
def di(p:Int)(e:List zf)(f:Nat)(i:(List (Nat->zi))->Option (List (Nat->zi)))(a:(List (Nat->zi))):Option (List (Nat->zi)):=
 (idx e (f:Int)).bind λg=>
 (cP g).bind λd=>
 if (!d.2) then
  i a
 else
  (idx a p).bind λb=>
  (ain 8 d.1).bind λc=>
  if ((b c).SV==1) then
   cq.bind λh=>
   (vg h).bind λj=>
   i (a.set (Int.toNat p) (aset b c j))
  else
   i (a.set (Int.toNat p) (aset b c (zi.mk 0 (zh.mk 0 0) 0)))
def dj(p:zj)(h:Int)(d:Nat)(g:(List (Nat->zi))->Option zj)(b:(List (Nat->zi))):Option zj:=
 (idx p.loops (d:Int)).bind λa=>
 if (a.Ui !=h) then
  g b
 else
  (cut p.Tu.Code a.Ui (w64 (a.At+1))).bind λc=>
  (jM (di h c) (λ(e:(List (Nat->zi)))=>e) (c).length 0 b).bind λf=>
  g f
def xr(p:zj)(c:Int):Option zj:=
 (jM (dj p c) (λ(a:(List (Nat->zi)))=>{p with came:=a}) (p.loops).length 0 p.came).bind λb=>
 some b
def kN(p:zf):Option Bool:=
 (fb p.Op).bind λa=>
 ((vT p).bind λb=>
 if b then
  (jv a.1 115).bind λc=>
  some c
 else
  some false).bind λd=>
 some d
def lI(p:Int):Option zh:=
 some (zh.mk p p)
def eh(p:zf)(d:Nat->zi):Option zi:=
 if (p.B==8) then
  (lI (xZ p.TJ)).bind λa=>
  (vg a).bind λb=>
  some b
 else
  (ain 8 p.B).bind λc=>
  some (d c)
def lJ(p:List zi)(a:Nat)(d:Unit->Option (Unit⊕Int))(c:Unit):Option (Unit⊕Int):=
 (idx p (a:Int)).bind λb=>
 if (b.SV !=1) then
  some (.inr 33)
 else
  d ()
def vK(p:List zi):Option Int:=
 (jM (lJ p) (λ(b:Unit)=>(.inl ())) (p).length 0 ()).bind λa=>match a with
  |.inl c=>
   some 0
  |.inr r=>some r
def vL(p:zh):Option Bool:=
 some (decide (p.Lo<=p.Hi))
def dR(p:zh)(c:zh):Option Bool:=
 ((vL p).bind λa=>
 if a then
  if decide (c.Lo<=p.Lo) then
   some (decide (p.Hi<=c.Hi))
  else
   some false
 else
  some false).bind λb=>
 some b
def gK(p:zi):Option Int:=
 (dR p.Tv (zh.mk 0 15)).bind λa=>
 if (!a) then
  some 35
 else
  some 0
def oa(p:List Int)(b:Nat)(d:Unit->Option (Unit⊕Int))(c:Unit):Option (Unit⊕Int):=
 (idx p (b:Int)).bind λa=>
 if (a !=0) then
  some (.inr a)
 else
  d ()
def fm(p:List Int):Option Int:=
 (jM (oa p) (λ(b:Unit)=>(.inl ())) (p).length 0 ()).bind λa=>match a with
  |.inl c=>
   some 0
  |.inr r=>some r
def kP(c:zi)(p:zi):Option Bool:=
 if (p.SV==1) then
  (if (c.SV==1) then
   (dR c.Tv p.Tv).bind λa=>
   some a
  else
   some false).bind λb=>
  some b
 else
  if (p.SV==2) then
   some ((c.SV==p.SV)&&(((c.Tv.Lo==p.Tv.Lo)&&((c.Tv.Hi==p.Tv.Hi)&&true))&&((c.TB==p.TB)&&true)))
  else
   some true
def dl(p:Int):Option (bR×Bool):=
 if (decide (p<0)||decide (p>=7)) then
  some ((bR.mk ByteArray.empty ByteArray.empty 0 0 false),false)
 else
  (idx aG p).bind λa=>
  some (a,true)
def hY(p:Int):Option zi:=
 some (zi.mk 1 (zh.mk 0 p) 0)
def BW(b:bR×Bool)(h:((List zi)×Nat)->Option (List zi))(a:(List zi)×Nat):Option (List zi):=
 if decide (a.2<b.1.UQ.size) then
  if ((BL b.1.UQ a.2)==104) then
   (room (a.1.length+([(zi.mk 2 (zh.mk 0 0) 0)]).length) 32).bind λe=>
   h ((a.1++[(zi.mk 2 (zh.mk 0 0) 0)]),(ot b.1.UQ a.2))
  else
   if ((BL b.1.UQ a.2)==115) then
    (hY 15).bind λc=>
    (room (a.1.length+([c]).length) 32).bind λf=>
    h ((a.1++[c]),(ot b.1.UQ a.2))
   else
    (hY 18446744073709551615).bind λd=>
    (room (a.1.length+([d]).length) 32).bind λg=>
    h ((a.1++[d]),(ot b.1.UQ a.2))
 else
  some a.1
def xW(f:Nat)(p:Int):Option (List zi):=
 (dl p).bind λa=>
 (loop (BW a) f (([]:List zi),0)).bind λb=>
 some b
def lK(p:List zi)(d:(List zi))(b:Nat)(h:Unit->Option (Unit⊕Int))(g:Unit):Option (Unit⊕Int):=
 (idx d (b:Int)).bind λa=>
 (idx p (b:Int)).bind λc=>
 if (a.SV !=c.SV) then
  some (.inr 33)
 else
  (if (a.SV==1) then
   (dR c.Tv a.Tv).bind λe=>
   some (!e)
  else
   some false).bind λf=>
  if f then
   some (.inr 35)
  else
   h ()
def fq(g:Nat)(p:Int)(f:List zi):Option Int:=
 (dl p).bind λb=>
 if (!b.2) then
  some 34
 else
  (xW g p).bind λa=>
  if (((a).length:Int) !=((f).length:Int)) then
   some 2
  else
   (jM (lK f a) (λ(d:Unit)=>(.inl ())) (a).length 0 ()).bind λc=>match c with
    |.inl e=>
     some 0
    |.inr r=>some r
def hZ(p:Int):Option (zi×Bool):=
 (dl p).bind λa=>
 if (!a.2) then
  some ((zi.mk 0 (zh.mk 0 0) 0),false)
 else
  (hY a.1.most).bind λb=>
  some (b,true)
def gB(f:Int)(e:Int)(p:Int):Option (Int×Bool):=
 if (f==1) then
  some (xZ (e+p),true)
 else
  if (f==2) then
   some (xZ (e-p),true)
  else
   if (f==3) then
    some (xZ (e*p),true)
   else
    if (f==4) then
     if (p==0) then
      some (0,true)
     else
      (nz p).bind λa=>
      some (xZ (e.tdiv p),true)
    else
     if (f==5) then
      if (p==0) then
       some (e,true)
      else
       (nz p).bind λb=>
       some (e.tmod p,true)
     else
      if (f==6) then
       some (wW .u64 e p,true)
      else
       if (f==7) then
        some (bOr .u64 e p,true)
       else
        if (f==8) then
         some (MY .u64 e p,true)
        else
         if (f==9) then
          (nn p).bind λc=>
          some (wX .u64 e p,true)
         else
          if (f==10) then
           (nn p).bind λd=>
           some (iU .u64 e p,true)
          else
           some (0,false)
def xT(p:zh):Option Bool:=
 some (p.Lo==p.Hi)
def lL(p:zh)(c:zh):Option zh:=
 (Gq p.Hi c.Hi 0).bind λa=>
 if decide (a.2>0) then
  cq.bind λb=>
  some b
 else
  some (zh.mk (xZ (p.Lo+c.Lo)) a.1)
def kQ(p:Int)(a:Int):Option (Int×Int):=
 some (xZ ((xZ ((xZ ((iU .u64 p 32)*(iU .u64 a 32)))+(iU .u64 (xZ ((xZ ((iU .u64 p 32)*(wW .u64 a 4294967295)))+(iU .u64 (xZ ((wW .u64 p 4294967295)*(wW .u64 a 4294967295))) 32))) 32)))+(iU .u64 (xZ ((wW .u64 (xZ ((xZ ((iU .u64 p 32)*(wW .u64 a 4294967295)))+(iU .u64 (xZ ((wW .u64 p 4294967295)*(wW .u64 a 4294967295))) 32))) 4294967295)+(xZ ((wW .u64 p 4294967295)*(iU .u64 a 32))))) 32)),xZ (p*a))
def cw(p:zh)(c:zh):Option zh:=
 (kQ p.Hi c.Hi).bind λa=>
 if decide (a.1>0) then
  cq.bind λb=>
  some b
 else
  some (zh.mk (xZ (p.Lo*c.Lo)) a.2)
def cx(c:zh)(p:zh):Option zh:=
 if (p.Lo==0) then
  some (zh.mk 0 c.Hi)
 else
  (nz p.Hi).bind λa=>
  (nz p.Lo).bind λb=>
  some (zh.mk (xZ (c.Lo.tdiv p.Hi)) (xZ (c.Hi.tdiv p.Lo)))
def ic(p:zh)(a:zh):Option zh:=
 if (a.Lo==0) then
  some (zh.mk 0 p.Hi)
 else
  if decide (p.Hi<a.Lo) then
   some p
  else
   some (zh.mk 0 (nM p.Hi (xZ (a.Hi-1))))
def gL(p:Int):Option Int:=
 (if decide (p>=4294967296) then
  some (iU .u64 p 32,32)
 else
  some (p,0)).bind λa=>
 (if decide (a.1>=65536) then
  some (iU .u64 a.1 16,w64 (a.2+16))
 else
  some (a.1,a.2)).bind λb=>
 (if decide (b.1>=256) then
  some (iU .u64 b.1 8,w64 (b.2+8))
 else
  some (b.1,b.2)).bind λc=>
 (wd (⟨[0,1,2,2,3,3,3,3,4,4,4,4,4,4,4,4,5,5,5,5,5,5,5,5,5,5,5,5,5,5,5,5,6,6,6,6,6,6,6,6,6,6,6,6,6,6,6,6,6,6,6,6,6,6,6,6,6,6,6,6,6,6,6,6,7,7,7,7,7,7,7,7,7,7,7,7,7,7,7,7,7,7,7,7,7,7,7,7,7,7,7,7,7,7,7,7,7,7,7,7,7,7,7,7,7,7,7,7,7,7,7,7,7,7,7,7,7,7,7,7,7,7,7,7,7,7,7,7,8,8,8,8,8,8,8,8,8,8,8,8,8,8,8,8,8,8,8,8,8,8,8,8,8,8,8,8,8,8,8,8,8,8,8,8,8,8,8,8,8,8,8,8,8,8,8,8,8,8,8,8,8,8,8,8,8,8,8,8,8,8,8,8,8,8,8,8,8,8,8,8,8,8,8,8,8,8,8,8,8,8,8,8,8,8,8,8,8,8,8,8,8,8,8,8,8,8,8,8,8,8,8,8,8,8,8,8,8,8,8,8,8,8,8,8,8,8,8,8,8,8,8,8,8,8,8,8].toArray⟩) (IntKind.u8.wrap c.1)).bind λd=>
 some (w64 (c.2+(w64 d)))
def fQ(p:Int):Option Int:=
 (gL p).bind λa=>
 (nn a).bind λb=>
 some (xZ ((wX .u64 1 a)-1))
def ie(h:zh)(p:zh):Option zh:=
 ((xT p).bind λa=>
 if (!a) then
  some true
 else
  (gL h.Hi).bind λb=>
  if decide (b>0) then
   if decide (p.Lo>64) then
    some true
   else
    (gL h.Hi).bind λc=>
    some (decide ((xZ ((xZ c)+p.Lo))>64))
  else
   some false).bind λd=>
 if d then
  cq.bind λe=>
  some e
 else
  (nn p.Lo).bind λf=>
  (nn p.Lo).bind λg=>
  some (zh.mk (wX .u64 h.Lo p.Lo) (wX .u64 h.Hi p.Lo))
def oC(k:Int)(i:zh)(p:zh):Option (zh×Bool):=
 (gB k i.Lo p.Lo).bind λa=>
 (if (!a.2) then
  some true
 else
  (vL i).bind λb=>
  if (!b) then
   some true
  else
   (vL p).bind λc=>
   some (!c)).bind λd=>
 if d then
  some ((zh.mk 0 0),false)
 else
  ((xT i).bind λe=>
  if e then
   (xT p).bind λf=>
   some f
  else
   some false).bind λg=>
  if g then
   (lI a.1).bind λh=>
   some (h,true)
  else
   if (k==1) then
    (lL i p).bind λj=>
    some (j,true)
   else
    if (k==2) then
     if decide (i.Lo<p.Hi) then
      cq.bind λl=>
      some (l,true)
     else
      some ((zh.mk (xZ (i.Lo-p.Hi)) (xZ (i.Hi-p.Lo))),true)
    else
     if (k==3) then
      (cw i p).bind λn=>
      some (n,true)
     else
      if (k==4) then
       (cx i p).bind λq=>
       some (q,true)
      else
       if (k==5) then
        (ic i p).bind λv=>
        some (v,true)
       else
        if (k==6) then
         some ((zh.mk 0 (nM i.Hi p.Hi)),true)
        else
         if (k==7) then
          (fQ (bOr .u64 i.Hi p.Hi)).bind λz=>
          some ((zh.mk (oT i.Lo p.Lo) z),true)
         else
          if (k==8) then
           (fQ (bOr .u64 i.Hi p.Hi)).bind λA=>
           some ((zh.mk 0 A),true)
          else
           if (k==9) then
            (ie i p).bind λB=>
            some (B,true)
           else
            (nn p.Hi).bind λC=>
            (nn p.Lo).bind λD=>
            some ((zh.mk (iU .u64 i.Lo p.Hi) (iU .u64 i.Hi p.Lo)),true)
def eH(p:zj)(h:Int)(a:zf×(Nat->zi))(c:Nat)(g:Unit->Option (Unit⊕((Nat->zi)×Int)))(f:Unit):Option (Unit⊕((Nat->zi)×Int)):=
 (ain 8 (c:Int)).bind λb=>
 (idx p.came (w64 (h-a.1.D))).bind λd=>
 (kP (a.2 b) (d b)).bind λe=>
 if (!e) then
  some (.inr (a.2,33))
 else
  g ()
def vw(k:Nat)(p:zj)(i:Int):Option ((Nat->zi)×Int):=
 ((idx p.Tu.Code i).bind λf=>
 (idx p.came i).bind λg=>
 some (f,g)).bind λa=>
 (kN a.1).bind λh=>
 (if h then
  (eh a.1 a.2).bind λj=>
  some j
 else
  some (zi.mk 0 (zh.mk 0 0) 0)).bind λb=>
 (ain 8 a.1.A).bind λc=>
 if (a.1.Op==0) then
  if (b.SV==0) then
   some (a.2,33)
  else
   (ain 8 a.1.D).bind λl=>
   some ((aset a.2 l b),0)
 else
  if (a.1.Op==11) then
   cq.bind λn=>
   (vg n).bind λq=>
   (ain 8 a.1.D).bind λv=>
   (vK ([b])).bind λz=>
   (gK b).bind λB=>
   (fm ([z,B])).bind λC=>
   some ((aset a.2 v q),C)
  else
   if (a.1.Op==12) then
    (vK ([(a.2 c),b])).bind λE=>
    (gK b).bind λF=>
    (fm ([E,F])).bind λG=>
    some (a.2,G)
   else
    if (a.1.Op==13) then
     cq.bind λH=>
     (vg H).bind λI=>
     (ain 8 a.1.D).bind λJ=>
     some ((aset a.2 J I),0)
    else
     if (a.1.Op==14) then
      (ain 8 a.1.D).bind λd=>
      if decide (a.1.TJ>=((p.Tu.Maps).length:Int)) then
       some ((aset a.2 d (zi.mk 2 (zh.mk 0 0) a.1.TJ)),35)
      else
       some ((aset a.2 d (zi.mk 2 (zh.mk 0 0) a.1.TJ)),0)
     else
      if (a.1.Op==15) then
       some (a.2,0)
      else
       (if (a.1.Op==16) then
        some (a.1.Op==16)
       else
        if (a.1.Op==17) then
         some (a.1.Op==17)
        else
         if (a.1.Op==18) then
          some (a.1.Op==18)
         else
          some (a.1.Op==19)).bind λK=>
       if K then
        (vK ([(a.2 c),b])).bind λL=>
        some (a.2,L)
       else
        if (a.1.Op==20) then
         (vK ([(a.2 c)])).bind λe=>
         if (e !=0) then
          some (a.2,e)
         else
          (jM (eH p i a) (λ(W:Unit)=>(.inl ())) 8 0 ()).bind λM=>match M with
           |.inl X=>
            some (a.2,0)
           |.inr r=>some r
        else
         if (a.1.Op==21) then
          (xW k a.1.TJ).bind λN=>
          (cut (H1 8 a.2) 1 (w64 (1+((N).length:Int)))).bind λO=>
          (fq k a.1.TJ O).bind λP=>
          (hZ a.1.TJ).bind λQ=>
          some ((aset a.2 0 Q.1),P)
         else
          if (a.1.Op==22) then
           (vK ([(a.2 c)])).bind λR=>
           some (a.2,R)
          else
           (oC a.1.Op (a.2 c).Tv b.Tv).bind λS=>
           (vg S.1).bind λT=>
           (ain 8 a.1.D).bind λU=>
           (vK ([(a.2 c),b])).bind λV=>
           some ((aset a.2 U T),V)
def sd(p:List zh)(c:Nat)(e:zh->Option (zh⊕(zh×Bool)))(b:zh):Option (zh⊕(zh×Bool)):=
 (idx p (c:Int)).bind λa=>
 (vL a).bind λd=>
 if (!d) then
  some (.inr ((zh.mk 0 0),false))
 else
  e (zh.mk (nM b.Lo a.Lo) (oT b.Hi a.Hi))
def mG(p:List zh):Option (zh×Bool):=
 (jM (sd p) (λ(a:zh)=>(.inl a)) (p).length 0 (zh.mk 18446744073709551615 0)).bind λb=>match b with
  |.inl c=>
   if (((p).length:Int)==0) then
    some ((zh.mk 0 0),false)
   else
    some (c,true)
  |.inr r=>some r
def fR(p:zi)(c:zi):Option zi:=
 if ((p.SV !=c.SV)||(p.TB !=c.TB)) then
  some (zi.mk 0 (zh.mk 0 0) 0)
 else
  if (p.SV==1) then
   (mG ([p.Tv,c.Tv])).bind λa=>
   (vg a.1).bind λb=>
   some b
  else
   some p
def dS(p:Int)(g:Nat->zi)(d:Nat)(f:zj->Option zj)(a:zj):Option zj:=
 (idx a.came p).bind λc=>
 (ain 8 (d:Int)).bind λb=>
 (fR (c b) (g b)).bind λe=>
 f {a with came:=(a.came.set (Int.toNat p) (aset c b e))}
def je(p:zj)(e:Int)(f:Nat->zi):Option zj:=
 (idx p.any e).bind λa=>
 if (!a) then
  (idx p.came e).bind λd=>
  some {p with came:=(p.came.set (Int.toNat e) f),any:=(p.any.set (Int.toNat e) true)}
 else
  (jM (dS e f) (λ(b:zj)=>b) 8 0 p).bind λc=>
  some c
def aZ(p:Int)(a:Int)(b:Int):Option (Bool×Bool):=
 if (p==16) then
  some ((a==b),true)
 else
  if (p==17) then
   some ((a !=b),true)
  else
   if (p==18) then
    some (decide (a<b),true)
   else
    if (p==19) then
     some (decide (a>=b),true)
    else
     some (false,false)
def mH(p:List zh)(c:Nat)(e:zh->Option (zh⊕(zh×Bool)))(b:zh):Option (zh⊕(zh×Bool)):=
 (idx p (c:Int)).bind λa=>
 (vL a).bind λd=>
 if (!d) then
  some (.inr ((zh.mk 0 0),false))
 else
  e (zh.mk (oT b.Lo a.Lo) (nM b.Hi a.Hi))
def eI(p:List zh):Option (zh×Bool):=
 cq.bind λb=>
 (jM (mH p) (λ(c:zh)=>(.inl c)) (p).length 0 b).bind λd=>match d with
  |.inl a=>
   (if (((p).length:Int)==0) then
    some true
   else
    (vL a).bind λe=>
    some (!e)).bind λf=>
   if f then
    some ((zh.mk 0 0),false)
   else
    some (a,true)
  |.inr r=>some r
def dT(i:Int)(p:zh)(k:zh)(m:Bool):Option (zh×Bool):=
 (aZ i 0 0).bind λd=>
 (if (!d.2) then
  some true
 else
  (vL p).bind λe=>
  if (!e) then
   some true
  else
   (vL k).bind λf=>
   some (!f)).bind λg=>
 if g then
  some ((zh.mk 0 0),false)
 else
  (xT k).bind λh=>
  if (!h) then
   some (p,true)
  else
   (if ((i==18)&&m) then
    some ((i==18)&&m)
   else
    if (i==19) then
     some (!m)
    else
     some false).bind λj=>
   if j then
    if (k.Lo==0) then
     some ((zh.mk 0 0),false)
    else
     (eI ([p,(zh.mk 0 (xZ (k.Lo-1)))])).bind λa=>
     some (a.1,a.2)
   else
    (if (i==18) then
     some (i==18)
    else
     some (i==19)).bind λl=>
    if l then
     (eI ([p,(zh.mk k.Lo 18446744073709551615)])).bind λb=>
     some (b.1,b.2)
    else
     (if ((i==16)&&m) then
      some ((i==16)&&m)
     else
      if (i==17) then
       some (!m)
      else
       some false).bind λn=>
     if n then
      (eI ([p,k])).bind λc=>
      some (c.1,c.2)
     else
      if ((p.Lo==k.Lo)&&((p.Hi==k.Hi)&&true)) then
       some ((zh.mk 0 0),false)
      else
       if (p.Lo==k.Lo) then
        some ((zh.mk (xZ (p.Lo+1)) p.Hi),true)
       else
        if (p.Hi==k.Lo) then
         some ((zh.mk p.Lo (xZ (p.Hi-1))),true)
        else
         some (p,true)
def dU(p:Int)(k:Nat->zi)(a:zf)(f:Int×Bool×Bool)(g:zi)(h:Nat)(i:zj->Option zj)(b:zj):Option zj:=
 (idx ([true,false]) (h:Int)).bind λc=>
 (if (!c) then
  some (w64 (p+1))
 else
  some (w64 (p+f.1))).bind λj=>
 ((ain 8 a.A).bind λl=>
 (dT a.Op (k l).Tv g.Tv c).bind λd=>
 some (d.1,d.2)).bind λe=>
 if e.2 then
  (vg e.1).bind λn=>
  (ain 8 a.A).bind λq=>
  (je b j (aset k q n)).bind λv=>
  i v
 else
  i b
def xU(p:zj)(i:Int)(j:Nat->zi):Option zj:=
 (idx p.Tu.Code i).bind λb=>
 (lH b).bind λa=>
 if ((!a.2.1)||decide (a.1<0)) then
  (if a.2.2 then
   (je p (w64 (i+1)) j).bind λc=>
   some c
  else
   some p).bind λd=>
  some d
 else
  if (!a.2.2) then
   (je p (w64 (i+a.1)) j).bind λe=>
   some e
  else
   (eh b j).bind λf=>
   (jM (dU i j b a f) (λ(g:zj)=>g) 2 0 p).bind λh=>
   some h
def cy(h:Nat)(a:Nat)(g:zj->Option (zj⊕((Option zj)×Int×Int)))(b:zj):Option (zj⊕((Option zj)×Int×Int)):=
 (idx b.any (a:Int)).bind λe=>
 if (!e) then
  g b
 else
  (xr b (a:Int)).bind λd=>
  (vw h d (a:Int)).bind λc=>
  if (c.2 !=0) then
   some (.inr (none,(a:Int),c.2))
  else
   (xU d (a:Int) c.1).bind λf=>
   g f
def jZ(i:Nat)(p:zE):Option ((Option zj)×Int×Int):=
 (kL p.Maps).bind λc=>
 if (!c) then
  some (none,0,2)
 else
  (fk p.Code).bind λa=>
  if (a.2 !=0) then
   some (none,a.1,a.2)
  else
   ((mkLen ((p.Code).length:Int) 256).bind λd=>
   (mkLen ((p.Code).length:Int) 1).bind λe=>
   some (zj.mk p (List.replicate d (λ_=>(zi.mk 0 (zh.mk 0 0) 0))) (List.replicate e false) ([]:List qy))).bind λb=>
   (kM p.Code).bind λf=>
   (idx b.any 0).bind λl=>
   (jM (cy i) (λ(g:zj)=>(.inl g)) (p.Code).length 0 {b with any:=(b.any.set (Int.toNat 0) true),loops:=f.1}).bind λh=>match h with
    |.inl j=>
     some ((some j),0,0)
    |.inr r=>some r
def vx(f:Nat)(p:zE):Option (Int×Int):=
 (jZ f p).bind λa=>
 vW a.1
  (some (a.2.1,a.2.2))
  (λb=>
  some (a.2.1,a.2.2))
def bU(p:qP):Option qP:=
 some (qP.mk (λ_=>0))
def ft(f:Nat)(p:zE)(g:qr)(e:zm):Option ((Option zr)×Int×zm):=
 (vx f p).bind λa=>
 if (a.2 !=0) then
  some (none,a.2,e)
 else
  (bU e.TP).bind λb=>
  (jd p.Maps).bind λc=>
  (zT p.Code).bind λd=>
  some ((some (zr.mk g (zE.mk c d) (λ_=>0) (λ_=>0) 0 0 0)),0,(zm.mk b e.Tx))
def jX(f:Nat)(p:zl)(c:Int)(d:Int)(e:zE):Option (Int×zl):=
 if (p.SY !=1) then
  some (41,p)
 else
  (ft f e p.Tz.TE.Tq p.TG).bind λa=>
  vW a.1
   (if (a.2.1 !=0) then
    some (a.2.1,{p with TG:=a.2.2})
   else
    some (0,(zl.mk a.2.2 p.Ua 2 (bD.mk p.Tz.hook p.Tz.TE c d p.Tz.calls none))))
   (λb=>
   if (a.2.1 !=0) then
    some (a.2.1,{p with TG:=a.2.2})
   else
    some (0,(zl.mk a.2.2 p.Ua 2 (bD.mk p.Tz.hook p.Tz.TE c d p.Tz.calls (some b)))))
def vU(p:zl):Option (Int×Int):=
 some (p.Tz.Ts,p.Tz.prog)
def mI(p:Int):Option (Int×Bool):=
 (dl p).bind λa=>
 some (a.1.asks,a.1.UG)
def xa(p:jo)(b:Int):Option (Int×Int×jo):=
 if (decide (b<0)||decide (b>=16)) then
  some (0,35,p)
 else
  (ain 16 b).bind λa=>
  some (((aset p.counts a (xZ ((p.counts a)+1))) a),0,(jo.mk (aset p.counts a (xZ ((p.counts a)+1)))))
def jY(i:Nat)(p:zr)(h:Int)(g:zm):Option (qT×zr×zm):=
 (mI h).bind λc=>
 if c.2 then
  (idx p.module.Maps (p.regs 1)).bind λd=>
  (xW i h).bind λe=>
  (if decide (((e).length:Int)>2) then
   some (p.regs 3)
  else
   some 0).bind λf=>
  some ((qT.mk 2 p.Tt (zg.mk d c.1 (p.regs 2) f) 0),{p with state:=1},g)
 else
  (if (h==5) then
   (xa g.Tx (w64 (p.regs 1))).bind λb=>
   some ({p with regs:=(aset p.regs 0 b.1)},(zm.mk g.TP b.2.2),(qT.mk 1 p.Tt (zg.mk 0 0 0 0) b.1))
  else
   some ({p with regs:=(aset p.regs 0 0)},g,(qT.mk 3 p.Tt (zg.mk 0 0 0 0) (p.regs 1)))).bind λa=>
  some (a.2.2,(zr.mk a.1.Tq a.1.module a.1.regs a.1.LT (w64 (a.1.Tt+1)) a.1.steps a.1.state),a.2.1)
def jC(b:zr)(p:zf):Option Int:=
 if (p.B==8) then
  some (xZ p.TJ)
 else
  (ain 8 p.B).bind λa=>
  some (b.regs a)
def xM(b:qP)(p:Int):Option (Int×Int):=
 if (decide (p<0)||decide (p>=16)) then
  some (0,35)
 else
  (ain 16 p).bind λa=>
  some ((b.Tp a),0)
def xt(b:qP)(p:Int)(c:Int):Option (Int×qP):=
 if (decide (p<0)||decide (p>=16)) then
  some (35,b)
 else
  (ain 16 p).bind λa=>
  some (0,(qP.mk (aset b.Tp a c)))
def jw(p:zr)(i:zf)(k:zm):Option (Int×zr×zm):=
 if (i.Op==0) then
  (jC p i).bind λe=>
  (ain 8 i.D).bind λf=>
  some (1,{p with regs:=(aset p.regs f e)},k)
 else
  if (i.Op==11) then
   (jC p i).bind λg=>
   (xM k.TP (w64 g)).bind λh=>
   (ain 8 i.D).bind λj=>
   some (1,{p with regs:=(aset p.regs j h.1)},k)
  else
   if (i.Op==12) then
    (ain 8 i.A).bind λl=>
    (jC p i).bind λn=>
    (xt k.TP (w64 n) (p.regs l)).bind λq=>
    some (1,p,(zm.mk q.2 k.Tx))
   else
    if (i.Op==13) then
     (ain 8 i.D).bind λa=>
     if (i.TJ==1) then
      some (1,{p with regs:=(aset (aset p.regs a p.Tq.A) a p.Tq.B)},k)
     else
      some (1,{p with regs:=(aset p.regs a p.Tq.A)},k)
    else
     if (i.Op==14) then
      (ain 8 i.D).bind λv=>
      some (1,{p with regs:=(aset p.regs v (xZ i.TJ))},k)
     else
      if (i.Op==15) then
       some (w64 (i.D+1),p,k)
      else
       if (i.Op==20) then
        ((ain 8 i.A).bind λz=>
        if ((p.regs z) !=0) then
         (ain 64 p.Tt).bind λC=>
         some (decide ((p.LT C)<i.TJ))
        else
         some false).bind λE=>
        if E then
         (ain 64 p.Tt).bind λb=>
         some (w64 (0-i.D),{p with LT:=(aset p.LT b (w64 ((p.LT b)+1)))},k)
        else
         (ain 64 p.Tt).bind λF=>
         some (1,{p with LT:=(aset p.LT F 0)},k)
       else
        (ain 8 i.A).bind λc=>
        (jC p i).bind λG=>
        (gB i.Op (p.regs c) G).bind λd=>
        if d.2 then
         (ain 8 i.D).bind λH=>
         some (1,{p with regs:=(aset p.regs H d.1)},k)
        else
         (jC p i).bind λI=>
         (aZ i.Op (p.regs c) I).bind λJ=>
         if J.1 then
          some (w64 (i.D+1),p,k)
         else
          some (1,p,k)
def qM(h:Nat)(p:zr)(g:zm):Option (qT×zr×zm):=
 if (p.state==1) then
  some ((qT.mk 5 p.Tt (zg.mk 0 0 0 0) 0),p,g)
 else
  if (p.state==2) then
   (idx p.module.Code p.Tt).bind λd=>
   (ain 8 d.A).bind λe=>
   some ((qT.mk 6 p.Tt (zg.mk 0 0 0 0) (p.regs e)),p,g)
  else
   (idx p.module.Code p.Tt).bind λb=>
   if (b.Op==21) then
    (jY h {p with steps:=(w64 (p.steps+1))} b.TJ g).bind λc=>
    some (c.1,c.2.1,c.2.2)
   else
    if (b.Op==22) then
     (ain 8 b.A).bind λf=>
     some ((qT.mk 4 p.Tt (zg.mk 0 0 0 0) (p.regs f)),{p with steps:=(w64 (p.steps+1)),state:=2},g)
    else
     (jw {p with steps:=(w64 (p.steps+1))} b g).bind λa=>
     some ((qT.mk 1 p.Tt (zg.mk 0 0 0 0) 0),(zr.mk a.2.1.Tq a.2.1.module a.2.1.regs a.2.1.LT (w64 (p.Tt+a.1)) a.2.1.steps a.2.1.state),a.2.2)
def az(p:zr):Option Int:=
 some p.steps
def BX(p:List zP)(c:Nat)(d:zP->Option zP)(a:zP):Option zP:=
 (idx p (c:Int)).bind λb=>
 d (zP.mk (xZ (a.US+b.US)) (xZ (a.Ul+b.Ul)) (xZ (a.UA+b.UA)) (xZ (a.Calls+b.Calls)) (xZ (a.Sum+b.Sum)))
def mJ(p:List zP):Option zP:=
 (jM (BX p) (λ(a:zP)=>a) (p).length 0 (zP.mk 0 0 0 0 0)).bind λb=>
 some b
def cz(p:zS)(d:Int)(e:Int)(f:Int)(g:Int):Option (Int×zS):=
 (fh d).bind λb=>
 if (!b) then
  some (2,p)
 else
  (ain 4 d).bind λa=>
  (mJ ([(p.Te a),(zP.mk 1 0 e f g)])).bind λc=>
  some (0,(zS.mk (aset p.Te a c)))
def qz(f:Nat)(p:zl):Option (qT×Bool×zl):=
 if (p.SY !=2) then
  some ((qT.mk 0 0 (zg.mk 0 0 0 0) 0),false,p)
 else
  p.Tz.UF.bind λb=>
  (qM f b p.TG).bind λa=>
  if (a.1.SV==2) then
   some (a.1,true,(zl.mk a.2.2 p.Ua 3 (bD.mk p.Tz.hook p.Tz.TE p.Tz.Ts p.Tz.prog (xZ (p.Tz.calls+1)) (some a.2.1))))
  else
   if (a.1.SV==4) then
    (az a.2.1).bind λc=>
    (cz p.Ua p.Tz.hook (xZ c) p.Tz.calls a.1.TL).bind λd=>
    (bT (zl.mk a.2.2 d.2 p.SY (bD.mk p.Tz.hook p.Tz.TE p.Tz.Ts p.Tz.prog p.Tz.calls (some a.2.1)))).bind λe=>
    some (a.1,true,e)
   else
    some (a.1,true,{p with TG:=a.2.2,Tz:=(bD.mk p.Tz.hook p.Tz.TE p.Tz.Ts p.Tz.prog p.Tz.calls (some a.2.1))})
def gr(p:zF)(i:List Int)(c:Nat)(h:(Nat->Bool)->Option (Unit⊕(Int×zF)))(b:(Nat->Bool)):Option (Unit⊕(Int×zF)):=
 (idx i (c:Int)).bind λa=>
 ((vl p a).bind λd=>
 if (!d) then
  some true
 else
  (ain 4 a).bind λe=>
  some (b e)).bind λf=>
 if f then
  some (.inr (2,p))
 else
  (ain 4 a).bind λg=>
  h (aset b g true)
def gt(p:zF)(f:List Int)(a:Nat)(e:Unit->Option (Unit⊕(Int×zF)))(d:Unit):Option (Unit⊕(Int×zF)):=
 (idx f (a:Int)).bind λb=>
 (idx p.in_ b).bind λc=>
 if (c==0) then
  some (.inr (41,p))
 else
  e ()
def gu(p:List Int)(c:Nat)(e:zF->Option zF)(a:zF):Option zF:=
 (idx p (c:Int)).bind λb=>
 (idx a.in_ b).bind λd=>
 e (zF.mk a.Uq (a.in_.set (Int.toNat b) 0))
def vo(i:zF)(p:List Int):Option (Int×zF):=
 (jM (gr i p) (λ(e:(Nat->Bool))=>(.inl ())) (p).length 0 (λ_=>false)).bind λa=>match a with
  |.inl f=>
   (jM (gt i p) (λ(g:Unit)=>(.inl ())) (p).length 0 ()).bind λb=>match b with
    |.inl h=>
     (jM (gu p) (λ(c:zF)=>c) (p).length 0 i).bind λd=>
     some (0,d)
    |.inr r=>some r
  |.inr r=>some r
def gM(p:Int)(c:zk):Option Int:=
 (if (p==0) then
  some (p==0)
 else
  some (p==4)).bind λa=>
 if a then
  some c.TL
 else
  (if (p==1) then
   some (p==1)
  else
   some (p==3)).bind λb=>
  if b then
   if c.Found then
    some 1
   else
    some 0
  else
   if (p==2) then
    if (c.E==0) then
     some 1
    else
     some 0
   else
    some 0
def jD(p:zr)(c:zk)(g:zm):Option (Int×zr):=
 if (p.state !=1) then
  some (2,p)
 else
  (idx p.module.Code p.Tt).bind λa=>
  (gM a.TJ c).bind λb=>
  some (0,{p with regs:=(aset p.regs 0 b),Tt:=(w64 (p.Tt+1)),state:=0})
def xi(p:zl)(c:zk):Option (Int×zl):=
 if (p.SY !=3) then
  some (41,p)
 else
  p.Tz.UF.bind λb=>
  (jD b c p.TG).bind λa=>
  some (a.1,{p with SY:=2,Tz:=(bD.mk p.Tz.hook p.Tz.TE p.Tz.Ts p.Tz.prog p.Tz.calls (some a.2))})
def cQ(p:za)(e:zB->Option zB)(a:zB):Option zB:=
 (idx p.rings a.TA).bind λb=>
 (bu b).bind λc=>
 if (c.Uc==0) then
  (nz ((p.rings).length:Int)).bind λd=>
  e {a with TA:=((w64 (a.TA+1)).tmod ((p.rings).length:Int))}
 else
  some a
def dy(k:Nat)(p:za)(i:Int):Option za:=
 (zW p).bind λd=>
 (idx p.LE (w64 (i-d))).bind λb=>
 (xq b.SQ).bind λe=>
 (jN b.SQ).bind λj=>
 if (j==0) then
  if p.closed then
   (room (p.Tr.length+([(ze.mk 15 i 0 0 0 0 0 0 0 0 (zg.mk 0 0 0 0) (zk.mk 0 false 0 false 0 0) 0 0)]).length) 176).bind λL=>
   (aY p.Td ([i])).bind λz=>
   some {p with Td:=z.2,LE:=(p.LE.set (Int.toNat (w64 (i-d))) {b with SZ:=true}),Tr:=(p.Tr++[(ze.mk 15 i 0 0 0 0 0 0 0 0 (zg.mk 0 0 0 0) (zk.mk 0 false 0 false 0 0) 0 0)])}
  else
   (loop (cQ p) k b).bind λg=>
   (idx p.rings g.TA).bind λA=>
   (vf A p.TF).bind λl=>
   (nz ((p.rings).length:Int)).bind λM=>
   (vP g.SQ g.TA l.1).bind λB=>
   (room (p.Tr.length+([(ze.mk 5 i 0 0 0 l.1.N g.TA 0 0 0 (zg.mk 0 0 0 0) (zk.mk 0 false 0 false 0 0) 0 0)]).length) 176).bind λO=>
   some {p with LE:=(p.LE.set (Int.toNat (w64 (i-d))) {g with SQ:=B.2,TA:=((w64 (g.TA+1)).tmod ((p.rings).length:Int))}),rings:=(p.rings.set (Int.toNat g.TA) l.2.2),Tr:=(p.Tr++[(ze.mk 5 i 0 0 0 l.1.N g.TA 0 0 0 (zg.mk 0 0 0 0) (zk.mk 0 false 0 false 0 0) 0 0)])}
 else
  if (j==1) then
   (jl p.Fn.Tk e.1).bind λh=>
   if (!h.2.2) then
    (xL b.SQ).bind λC=>
    (room (p.Tr.length+([(ze.mk 9 i 0 0 0 e.2.N e.1 0 0 0 (zg.mk 0 0 0 0) (zk.mk 0 false 0 false 0 0) 0 0)]).length) 176).bind λP=>
    some {p with LE:=(p.LE.set (Int.toNat (w64 (i-d))) {b with SQ:=C.2}),Tr:=(p.Tr++[(ze.mk 9 i 0 0 0 e.2.N e.1 0 0 0 (zg.mk 0 0 0 0) (zk.mk 0 false 0 false 0 0) 0 0)])}
   else
    (qR p.Fn h.2.1).bind λD=>
    (vn p.Fn.Th (w64 (i-d))).bind λE=>
    (jX k b.SQ h.1 h.2.1 D.1).bind λF=>
    (room (p.Tr.length+([(ze.mk 6 i 0 0 0 e.2.N e.1 h.2.1 h.1 0 (zg.mk 0 0 0 0) (zk.mk 0 false 0 false 0 0) 0 0)]).length) 176).bind λQ=>
    some {p with Fn:=(zb.mk p.Fn.Tk p.Fn.Ue E.2.2 p.Fn.Te p.Fn.maps p.Fn.given p.Fn.Tl p.Fn.waiting),LE:=(p.LE.set (Int.toNat (w64 (i-d))) {b with SQ:=F.2}),Tr:=(p.Tr++[(ze.mk 6 i 0 0 0 e.2.N e.1 h.2.1 h.1 0 (zg.mk 0 0 0 0) (zk.mk 0 false 0 false 0 0) 0 0)])}
  else
   if (j==2) then
    (xq b.SQ).bind λf=>
    (vU b.SQ).bind λc=>
    (qz k b.SQ).bind λa=>
    if (a.1.SV==3) then
     (room (p.Tr.length+([(ze.mk 8 i 0 0 0 f.2.N 0 c.2 c.1 a.1.Pc (zg.mk 0 0 0 0) (zk.mk 0 false 0 false 0 0) a.1.TL 0)]).length) 176).bind λR=>
     some {p with LE:=(p.LE.set (Int.toNat (w64 (i-d))) {b with SQ:=a.2.2}),Tr:=(p.Tr++[(ze.mk 8 i 0 0 0 f.2.N 0 c.2 c.1 a.1.Pc (zg.mk 0 0 0 0) (zk.mk 0 false 0 false 0 0) a.1.TL 0)])}
    else
     if (a.1.SV==2) then
      (ay a.1.Item.TQ ((p.Fd).length:Int)).bind λv=>
      (idx p.Fd v).bind λG=>
      (jH G ([(zq.mk i 0 false a.1.Item)])).bind λH=>
      (room (p.Tr.length+([(ze.mk 16 i 0 0 0 f.2.N 0 c.2 c.1 a.1.Pc a.1.Item (zk.mk 0 false 0 false 0 0) a.1.TL 0)]).length) 176).bind λS=>
      some {p with LE:=(p.LE.set (Int.toNat (w64 (i-d))) {b with SQ:=a.2.2,pc:=a.1.Pc}),Fd:=(p.Fd.set (Int.toNat v) H.2),Tr:=(p.Tr++[(ze.mk 16 i 0 0 0 f.2.N 0 c.2 c.1 a.1.Pc a.1.Item (zk.mk 0 false 0 false 0 0) a.1.TL 0)])}
     else
      if (a.1.SV==4) then
       (zW {p with LE:=(p.LE.set (Int.toNat (w64 (i-d))) {b with SQ:=a.2.2})}).bind λI=>
       (vo p.Fn.Th ([w64 (i-I)])).bind λJ=>
       (room (p.Tr.length+([(ze.mk 9 i 0 0 0 f.2.N f.1 c.2 c.1 a.1.Pc (zg.mk 0 0 0 0) (zk.mk 0 false 0 false 0 0) a.1.TL 0)]).length) 176).bind λT=>
       some {p with Fn:=(zb.mk p.Fn.Tk p.Fn.Ue J.2 p.Fn.Te p.Fn.maps p.Fn.given p.Fn.Tl p.Fn.waiting),LE:=(p.LE.set (Int.toNat (w64 (i-d))) {b with SQ:=a.2.2}),Tr:=(p.Tr++[(ze.mk 9 i 0 0 0 f.2.N f.1 c.2 c.1 a.1.Pc (zg.mk 0 0 0 0) (zk.mk 0 false 0 false 0 0) a.1.TL 0)])}
      else
       (room (p.Tr.length+([(ze.mk 7 i 0 0 0 f.2.N 0 c.2 c.1 a.1.Pc (zg.mk 0 0 0 0) (zk.mk 0 false 0 false 0 0) a.1.TL 0)]).length) 176).bind λU=>
       some {p with LE:=(p.LE.set (Int.toNat (w64 (i-d))) {b with SQ:=a.2.2}),Tr:=(p.Tr++[(ze.mk 7 i 0 0 0 f.2.N 0 c.2 c.1 a.1.Pc (zg.mk 0 0 0 0) (zk.mk 0 false 0 false 0 0) a.1.TL 0)])}
   else
    if (j==3) then
     (vU b.SQ).bind λn=>
     b.TV.bind λq=>
     (room (p.Tr.length+([(ze.mk 17 i 0 0 0 e.2.N 0 n.2 n.1 b.pc (zg.mk 0 0 0 0) q 0 0)]).length) 176).bind λV=>
     (xi b.SQ q).bind λK=>
     some {p with LE:=(p.LE.set (Int.toNat (w64 (i-d))) {b with SQ:=K.2,TV:=none}),Tr:=(p.Tr++[(ze.mk 17 i 0 0 0 e.2.N 0 n.2 n.1 b.pc (zg.mk 0 0 0 0) q 0 0)])}
    else
     some p
def zy(p:List zt):Option (List zt):=
 (room (([]:List zt).length+p.length) 16).bind λa=>
 some (([]:List zt)++p)
def vy(p:qp):Option (List zt):=
 (zy p.Ta).bind λa=>
 some a
def jx(p:qn):Option (List zt):=
 match p with
 |.inl x=>(vy x).bind λq=>some q
 |.inr x=>(vy x.Uh).bind λq=>some q
def fv(c:zc)(p:Int):Option ((List zt)×Int):=
 if (decide (p<0)||decide (p>=((c.maps).length:Int))) then
  some (([]:List zt),2)
 else
  (idx c.maps p).bind λa=>
  (jx a).bind λb=>
  some (b,0)
def pi(p:za)(g:Int)(c:Nat)(f:(List zt)->Option (List zt))(a:(List zt)):Option (List zt):=
 (idx p.Fd (c:Int)).bind λd=>
 (fv d g).bind λb=>
 (room (a.length+b.1.length) 16).bind λe=>
 f (a++b.1)
def ig(p:za)(c:Int):Option ((List zt)×Int):=
 if (decide (c<0)||decide (c>=((p.Tm.Maps).length:Int))) then
  some (([]:List zt),2)
 else
  (jM (pi p c) (λ(a:(List zt))=>a) (p.Fd).length 0 ([]:List zt)).bind λb=>
  some (b,0)
def vM(p:zt)(a:Int):Option Int:=
 if decide (p.TQ<a) then
  some (-1)
 else
  if decide (p.TQ>a) then
   some 1
  else
   some 0
def qH(p:List zt)(e:Int)(d:(Int×Int)->Option Int)(a:Int×Int):Option Int:=
 if decide (a.1<a.2) then
  (idx p (w64 (iU .u64 (xZ (w64 (a.1+a.2))) 1))).bind λb=>
  (vM b e).bind λc=>
  if decide (c<0) then
   d (w64 ((w64 (iU .u64 (xZ (w64 (a.1+a.2))) 1))+1),a.2)
  else
   d (a.1,w64 (iU .u64 (xZ (w64 (a.1+a.2))) 1))
 else
  some a.1
def zO(f:Nat)(p:List zt)(e:Int):Option (Int×Bool):=
 (loop (qH p e) f (0,((p).length:Int))).bind λa=>
 (if decide (a<((p).length:Int)) then
  (idx p a).bind λb=>
  (vM b e).bind λc=>
  some (c==0)
 else
  some false).bind λd=>
 some (a,d)
def fH(f:Nat)(p:qp)(b:Int):Option (Int×Bool):=
 (zO f p.Ta b).bind λa=>
 some (a.1,a.2)
def qi(p:List zt)(a b:Int):Option (List zt):=ML p a b
def qj(p:List zt)(a:Int)(b:List zt):Option ((List zt)×(List zt)):=Pm 16 p a b
def jO(m:Nat)(p:qp)(i:Int)(l:Int)(k:Int):Option (zk×qp):=
 if (decide (i<0)||decide (i>=5)) then
  some ((zk.mk 2 false 0 false 0 0),p)
 else
  (fH m p l).bind λa=>
  (if (a.2&&(i !=1)) then
   (idx p.Ta a.1).bind λe=>
   some (zk.mk 0 a.2 e.TL false 0 0)
  else
   some (zk.mk 0 a.2 0 false 0 0)).bind λb=>
  if (i==3) then
   if a.2 then
    (qi p.Ta a.1 (w64 (a.1+1))).bind λf=>
    some (b,(qp.mk p.cap f))
   else
    some (b,p)
  else
   (if (i==2) then
    some (i==2)
   else
    some (i==4)).bind λg=>
   if g then
    if ((!a.2)&&(((p.Ta).length:Int)==p.cap)) then
     some ((zk.mk 40 false 0 false 0 0),p)
    else
     (if (!a.2) then
      (qj p.Ta a.1 ([(zt.mk l 0)])).bind λh=>
      some (qp.mk p.cap h.1)
     else
      some p).bind λc=>
     (if (i==4) then
      some (xZ (b.TL+k),{b with TL:=(xZ (b.TL+k))})
     else
      some (k,b)).bind λd=>
     (idx c.Ta a.1).bind λj=>
     some (d.2,(qp.mk c.cap (c.Ta.set (Int.toNat a.1) (zt.mk j.TQ d.1))))
   else
    some (b,p)
def xX(p:List Int)(f:Int)(a:Nat)(e:Unit->Option (Unit⊕Int))(d:Unit):Option (Unit⊕Int):=
 (idx p (a:Int)).bind λb=>
 (bE b f).bind λc=>
 if c then
  some (.inr (a:Int))
 else
  e ()
def qU(p:List Int)(d:Int):Option Int:=
 (jM (xX p d) (λ(b:Unit)=>(.inl ())) (p).length 0 ()).bind λa=>match a with
  |.inl c=>
   some (-1)
  |.inr r=>some r
def xN(p:Int)(e:((List Int)×Int×Int)->Option ((List Int)×Int))(a:(List Int)×Int×Int):Option ((List Int)×Int):=
 if decide (a.2.2<((a.1).length:Int)) then
  (idx a.1 a.2.2).bind λb=>
  (bE b p).bind λc=>
  if (!c) then
   (idx a.1 a.2.1).bind λd=>
   e ((a.1.set (Int.toNat a.2.1) b),w64 (a.2.1+1),w64 (a.2.2+1))
  else
   e (a.1,a.2.1,w64 (a.2.2+1))
 else
  some (a.1,a.2.1)
def qN(f:Nat)(p:List Int)(e:Int):Option (List Int):=
 (qU p e).bind λb=>
 if (b==(-1)) then
  some p
 else
  (loop (xN e) f (p,b,w64 (b+1))).bind λa=>
  (cut a.1 a.2 (a.1.length:Int)).bind λc=>
  (cut (a.1.take (Int.toNat a.2)++List.replicate c.length 0) 0 a.2).bind λd=>
  some d
def xI(f:Nat)(p:qA)(b:Int):Option qA:=
 (qN f p.Un b).bind λa=>
 some (qA.mk p.Uh a)
def cR(f:Nat)(p:qA)(d:zk):Option (qA×zk):=
 (idx p.Un (w64 (((p.Un).length:Int)-1))).bind λa=>
 (jO f p.Uh 3 a 0).bind λb=>
 (xI f (qA.mk b.2 p.Un) a).bind λc=>
 some (c,(zk.mk d.E d.Found d.TL true a b.1.TL))
def jE(p:List Int)(a:Int)(b:List Int):Option ((List Int)×(List Int)):=Pm 8 p a b
def va(f:Nat)(c:qA)(p:Int):Option qA:=
 (xI f c p).bind λa=>
 (jE a.Un 0 ([p])).bind λb=>
 some (qA.mk a.Uh b.1)
def ek(h:Nat)(j:qA)(p:Int)(i:Int)(k:Int):Option (zk×qA):=
 (jO h j.Uh p i k).bind λc=>
 (if (c.1.E==40) then
  (cR h (qA.mk c.2 j.Un) (zk.mk 0 false 0 false 0 0)).bind λb=>
  (jO h b.1.Uh p i k).bind λd=>
  some ((qA.mk d.2 b.1.Un),(zk.mk d.1.E d.1.Found d.1.TL b.2.Vl b.2.Ur b.2.Us))
 else
  some ((qA.mk c.2 j.Un),c.1)).bind λa=>
 if (a.2.E !=0) then
  some (a.2,a.1)
 else
  (if (p==2) then
   some (p==2)
  else
   if (p==4) then
    some (p==4)
   else
    if (p==0) then
     some a.2.Found
    else
     some false).bind λe=>
  if e then
   (va h a.1 i).bind λf=>
   some (a.2,f)
  else
   if (p==3) then
    (xI h a.1 i).bind λg=>
    some (a.2,g)
   else
    some (a.2,a.1)
def jF(f:Nat)(c:qn)(p:Int)(a:Int)(b:Int):Option (zk×qn):=
 match c with
 |.inl x=>(jO f x p a b).bind λq=>some (q.1,(.inl q.2))
 |.inr x=>(ek f x p a b).bind λq=>some (q.1,(.inr q.2))
def jI(g:Nat)(p:zc):Option (aH×Bool×zc):=
 if (((p.SX).length:Int)==0) then
  some ((aH.mk 0 0 false (zg.mk 0 0 0 0) (zk.mk 0 false 0 false 0 0) ([]:List zt)),false,p)
 else
  (idx p.SX 0).bind λa=>
  (cut p.SX 1 (p.SX.length:Int)).bind λb=>
  if a.Up then
   (idx p.maps a.Item.TB).bind λd=>
   (jx d).bind λe=>
   some ({a with To:=a.Ud,TD:=(zk.mk 0 false 0 false 0 0),Pairs:=e},true,{p with SX:=b})
  else
   (idx p.maps a.Item.TB).bind λf=>
   (jF g f a.Item.Op a.Item.TQ a.Item.TL).bind λc=>
   some ({a with To:=a.Ud,TD:=c.1,Pairs:=([]:List zt)},true,{p with maps:=(p.maps.set (Int.toNat a.Item.TB) c.2),SX:=b})
def cB(p:zc):Option (Int×zc):=
 if decide (((p.SX).length:Int)>0) then
  some (42,p)
 else
  some (0,{p with SZ:=true})
def cC(k:Nat)(p:za)(i:Int):Option za:=
 (qE p).bind λc=>
 (idx p.Fd (w64 (i-c))).bind λg=>
 (jI k g).bind λa=>
 if (!a.2.1) then
  (cB a.2.2).bind λh=>
  (room (p.Tr.length+([(ze.mk 15 i 0 0 0 0 0 0 0 0 (zg.mk 0 0 0 0) (zk.mk 0 false 0 false 0 0) 0 0)]).length) 176).bind λn=>
  (aY p.Td ([i])).bind λj=>
  some {p with Td:=j.2,Fd:=(p.Fd.set (Int.toNat (w64 (i-c))) h.2),Tr:=(p.Tr++[(ze.mk 15 i 0 0 0 0 0 0 0 0 (zg.mk 0 0 0 0) (zk.mk 0 false 0 false 0 0) 0 0)])}
 else
  (zW {p with Fd:=(p.Fd.set (Int.toNat (w64 (i-c))) a.2.2)}).bind λl=>
  if decide (a.1.To>=l) then
   (zW {p with Fd:=(p.Fd.set (Int.toNat (w64 (i-c))) a.2.2)}).bind λd=>
   (idx p.LE (w64 (a.1.To-d))).bind λe=>
   (xq e.SQ).bind λf=>
   (room (p.Tr.length+([(ze.mk 3 i a.1.To 0 a.1.UI f.2.N 0 0 0 0 a.1.Item a.1.TD 0 0)]).length) 176).bind λq=>
   some {p with LE:=(p.LE.set (Int.toNat (w64 (a.1.To-d))) {e with TV:=(some a.1.TD)}),Fd:=(p.Fd.set (Int.toNat (w64 (i-c))) a.2.2),Tr:=(p.Tr++[(ze.mk 3 i a.1.To 0 a.1.UI f.2.N 0 0 0 0 a.1.Item a.1.TD 0 0)])}
  else
   (idx p.or a.1.To).bind λb=>
   if a.1.Up then
    (idx b.parts a.1.UI).bind λv=>
    some {p with or:=(p.or.set (Int.toNat a.1.To) {b with Tf:=(w64 (b.Tf-1)),parts:=(b.parts.set (Int.toNat a.1.UI) a.1.Pairs)}),Fd:=(p.Fd.set (Int.toNat (w64 (i-c))) a.2.2)}
   else
    (idx b.Id.TD a.1.UI).bind λz=>
    (room (p.Tr.length+([(ze.mk 3 i a.1.To b.Tt a.1.UI 0 0 0 0 0 a.1.Item a.1.TD 0 0)]).length) 176).bind λA=>
    some {p with or:=(p.or.set (Int.toNat a.1.To) {b with Tf:=(w64 (b.Tf-1)),Id:=(zA.mk b.Id.E b.Id.N (b.Id.TD.set (Int.toNat a.1.UI) a.1.TD) b.Id.Pairs)}),Fd:=(p.Fd.set (Int.toNat (w64 (i-c))) a.2.2),Tr:=(p.Tr++[(ze.mk 3 i a.1.To b.Tt a.1.UI 0 0 0 0 0 a.1.Item a.1.TD 0 0)])}
def qd(p:List zx)(a b:Int):Option (List zx):=ML p a b
abbrev yD:=Unit⊕(Int×zZ)
def fw(g:zZ)(p:List Int)(a:Nat)(f:Unit->Option yD)(e:Unit):Option yD:=
 (idx p (a:Int)).bind λb=>
 (cut p 0 (a:Int)).bind λc=>
 (qa c b).bind λd=>
 if d then
  some (.inr (2,g))
 else
  f ()
def fy(p:zZ)(e:List Int)(a:Nat)(d:Unit->Option yD)(c:Unit):Option yD:=
 (idx e (a:Int)).bind λb=>
 if (!(jz p.held b).isSome) then
  some (.inr (41,p))
 else
  d ()
def fz(p:List Int)(b:Nat)(d:zZ->Option zZ)(a:zZ):Option zZ:=
 (idx p (b:Int)).bind λc=>
 d (zZ.mk a.maps (mdel a.held c))
def bF(i:zZ)(p:List Int):Option (Int×zZ):=
 (jM (fw i p) (λ(e:Unit)=>(.inl ())) (p).length 0 ()).bind λa=>match a with
  |.inl f=>
   (jM (fy i p) (λ(g:Unit)=>(.inl ())) (p).length 0 ()).bind λb=>match b with
    |.inl h=>
     (jM (fz p) (λ(c:zZ)=>c) (p).length 0 i).bind λd=>
     some (0,d)
    |.inr r=>some r
  |.inr r=>some r
def aK(p:List Int)(f:List Int)(a:Nat)(e:Unit->Option (Unit⊕Int))(d:Unit):Option (Unit⊕Int):=
 (idx p (a:Int)).bind λb=>
 (jh b f).bind λc=>
 if c then
  some (.inr (a:Int))
 else
  e ()
def jy(p:List Int)(d:List Int):Option Int:=
 (jM (aK p d) (λ(b:Unit)=>(.inl ())) (p).length 0 ()).bind λa=>match a with
  |.inl c=>
   some (-1)
  |.inr r=>some r
def xl(p:List Int)(e:((List Int)×Int×Int)->Option ((List Int)×Int))(a:(List Int)×Int×Int):Option ((List Int)×Int):=
 if decide (a.2.2<((a.1).length:Int)) then
  (idx a.1 a.2.2).bind λb=>
  (jh b p).bind λc=>
  if (!c) then
   (idx a.1 a.2.1).bind λd=>
   e ((a.1.set (Int.toNat a.2.1) b),w64 (a.2.1+1),w64 (a.2.2+1))
  else
   e (a.1,a.2.1,w64 (a.2.2+1))
 else
  some (a.1,a.2.1)
def jp(f:Nat)(p:List Int)(e:List Int):Option (List Int):=
 (jy p e).bind λb=>
 if (b==(-1)) then
  some p
 else
  (loop (xl e) f (p,b,w64 (b+1))).bind λa=>
  (cut a.1 a.2 (a.1.length:Int)).bind λc=>
  (cut (a.1.take (Int.toNat a.2)++List.replicate c.length 0) 0 a.2).bind λd=>
  some d
def vA(p:zb)(i:Int)(c:Nat)(h:(List Int)->Option (List Int))(a:(List Int)):Option (List Int):=
 (idx p.waiting (c:Int)).bind λb=>
 (if decide (((a).length:Int)<i) then
  (jz p.Tl b).bind λd=>
  (vJ p.Th d.TH).bind λe=>
  some e
 else
  some false).bind λf=>
 if f then
  (room (a.length+([b]).length) 8).bind λg=>
  h (a++[b])
 else
  h a
def vB(c:(List Int))(d:Nat)(f:zb->Option zb)(a:zb):Option zb:=
 (idx c (d:Int)).bind λb=>
 (bF a.Ue ([b])).bind λe=>
 f {a with Ue:=e.2,Tl:=(mdel a.Tl b)}
def xb(f:Nat)(p:zb)(g:Int):Option ((List Int)×zb):=
 (jM (vA p g) (λ(c:(List Int))=>c) (p.waiting).length 0 ([]:List Int)).bind λa=>
 (jM (vB a) (λ(d:zb)=>d) (a).length 0 p).bind λb=>
 (jp f b.waiting a).bind λe=>
 some (a,{b with waiting:=e})
def jR(p:za)(b:Int)(c:Int)(d:Int):Option za:=
 (idx p.or b).bind λa=>
 some {p with or:=(p.or.set (Int.toNat b) {a with Tf:=0,Id:=(zA.mk d c a.Id.TD a.Id.Pairs)})}
def qC(p:zw)(a:Int):Option zw:=
 if (p.e==0) then
  some {p with e:=a}
 else
  some p
def gv(i:zw->Option zw)(a:zw):Option zw:=
 if (decide (a.Tt<3)&&(a.e==0)) then
  (if decide (a.Tt>=((a.b).length:Int)) then
   (qC {a with field:=a.Tt} 10).bind λd=>
   some d
  else
   (idx a.b a.Tt).bind λf=>
   (wd (⟨[84,80,1].toArray⟩) a.Tt).bind λg=>
   if (f !=g) then
    (qC {a with field:=a.Tt} 12).bind λh=>
    some h
   else
    some {a with field:=a.Tt}).bind λc=>
  i {c with Tt:=(w64 (c.Tt+1))}
 else
  some a
def aL(f:Nat)(p:zw):Option zw:=
 (loop gv f p).bind λa=>
 some a
def wE(p:List Int)(a:Nat)(e:Int->Option (Unit⊕(Int×Int×Int)))(c:Int):Option (Unit⊕(Int×Int×Int)):=
 (idx p (a:Int)).bind λb=>
 if ((((a:Int)==9)&&decide (b>1))||(decide ((a:Int)>0)&&(b==0))) then
  some (.inr (0,0,12))
 else
  (nn (w64 (7*(a:Int)))).bind λd=>
  if decide (b<128) then
   some (.inr (bOr .u64 c (wX .u64 (xZ (wW .u8 b 127)) (w64 (7*(a:Int)))),w64 ((a:Int)+1),0))
  else
   e (bOr .u64 c (wX .u64 (xZ (wW .u8 b 127)) (w64 (7*(a:Int)))))
def ry(p:List Int):Option (Int×Int×Int):=
 (jM (wE p) (λ(b:Int)=>(.inl ())) (p).length 0 0).bind λa=>match a with
  |.inl c=>
   some (0,0,10)
  |.inr r=>some r
def qZ(p:zw)(g:Int)(h:Int):Option (Int×zw):=
 if (p.e !=0) then
  some (0,p)
 else
  (cut p.b p.Tt (p.b.length:Int)).bind λc=>
  (ry c).bind λa=>
  if (a.2.2 !=0) then
   (qC (zw.mk p.b (w64 (p.Tt+a.2.1)) p.Tt p.e) a.2.2).bind λd=>
   some (0,d)
  else
   if decide (a.1>g) then
    (qC (zw.mk p.b (w64 (p.Tt+a.2.1)) p.Tt p.e) h).bind λf=>
    some (0,f)
   else
    some (w64 a.1,(zw.mk p.b (w64 (p.Tt+a.2.1)) p.Tt p.e))
def kS(p:List Int):Option (Int×Int×Int):=
 (ry p).bind λa=>
 some (MY .i64 (w64 (iU .u64 a.1 1)) (w64 (0-(w64 (wW .u64 a.1 1)))),a.2.1,a.2.2)
def bv(p:zw):Option (zf×zw):=
 (qZ p 22 12).bind λd=>
 (qZ d.2 63 12).bind λf=>
 (qZ f.2 63 12).bind λg=>
 (qZ g.2 63 12).bind λa=>
 if (a.2.e !=0) then
  some ((zf.mk d.1 f.1 g.1 a.1 0),a.2)
 else
  (cut a.2.b a.2.Tt (a.2.b.length:Int)).bind λh=>
  (kS h).bind λc=>
  if (c.2.2 !=0) then
   (qC (zw.mk a.2.b (w64 (a.2.Tt+c.2.1)) a.2.Tt a.2.e) c.2.2).bind λj=>
   some ((zf.mk d.1 f.1 g.1 a.1 c.1),j)
  else
   (fP ([(zf.mk d.1 f.1 g.1 a.1 c.1)])).bind λl=>
   if (!l) then
    (qC (zw.mk a.2.b (w64 (a.2.Tt+c.2.1)) p.Tt a.2.e) 12).bind λn=>
    some ((zf.mk d.1 f.1 g.1 a.1 c.1),n)
   else
    some ((zf.mk d.1 f.1 g.1 a.1 c.1),(zw.mk a.2.b (w64 (a.2.Tt+c.2.1)) a.2.Tt a.2.e))
def ob(d:Int×zw)(i:(zw×(List Int)×Int)->Option (zw×(List Int)))(a:zw×(List Int)×Int):Option (zw×(List Int)):=
 if decide (a.2.2<d.1) then
  (qZ a.1 3 12).bind λb=>
  (qa a.2.1 b.1).bind λf=>
  (if f then
   (qC b.2 12).bind λg=>
   some g
  else
   some b.2).bind λc=>
  if (c.e !=0) then
   some (c,a.2.1)
  else
   (room (a.2.1.length+([b.1]).length) 8).bind λh=>
   i (c,(a.2.1++[b.1]),w64 (a.2.2+1))
 else
  some (a.1,a.2.1)
def od(c:Int×zw)(f:(zw×(List zf)×Int)->Option (zw×(List zf)))(a:zw×(List zf)×Int):Option (zw×(List zf)):=
 if (decide (a.2.2<c.1)&&(a.1.e==0)) then
  (bv a.1).bind λb=>
  (room (a.2.1.length+([b.1]).length) 40).bind λd=>
  f (b.2,(a.2.1++[b.1]),w64 (a.2.2+1))
 else
  some (a.1,a.2.1)
def dV(i:Nat)(p:List Int):Option (zE×Int×Int):=
 (aL i (zw.mk p 0 0 0)).bind λh=>
 (qZ h 4 11).bind λf=>
 (loop (ob f) i (f.2,([]:List Int),0)).bind λg=>
 (qZ g.1 64 11).bind λc=>
 (if (c.1==0) then
  (qC c.2 12).bind λj=>
  some j
 else
  some c.2).bind λl=>
 (loop (od c) i (l,([]:List zf),0)).bind λa=>
 (if ((a.1.e==0)&&decide (a.1.Tt<((p).length:Int))) then
  (qC (zw.mk a.1.b a.1.Tt a.1.Tt a.1.e) 13).bind λn=>
  some n
 else
  some a.1).bind λd=>
 if (d.e !=0) then
  some ((zE.mk ([]:List Int) ([]:List zf)),d.field,d.e)
 else
  some ((zE.mk g.2 a.2),0,0)
def fA(p:zZ)(h:List Int)(b:Nat)(g:Unit->Option yD)(f:Unit):Option yD:=
 (idx h (b:Int)).bind λa=>
 (if decide (a<0) then
  some true
 else
  if decide (a>=p.maps) then
   some true
  else
   (cut h 0 (b:Int)).bind λc=>
   (qa c a).bind λd=>
   some d).bind λe=>
 if e then
  some (.inr (2,p))
 else
  g ()
def dz(p:zZ)(f:Int)(e:List Int):Option (Int×zZ):=
 (jM (fA p e) (λ(c:Unit)=>(.inl ())) (e).length 0 ()).bind λa=>match a with
  |.inl d=>
   if (jz p.held f).isSome then
    some (42,p)
   else
    (jd e).bind λb=>
    some (0,(zZ.mk p.maps (mput p.held f b)))
  |.inr r=>some r
abbrev yE:=Int×Int×zb
def ab(p:zb)(a:zE×Int×Int)(b:Nat)(e:Unit->Option (Unit⊕yE))(d:Unit):Option (Unit⊕yE):=
 (idx a.1.Maps (b:Int)).bind λc=>
 if decide (c>=p.maps) then
  some (.inr (0,41,p))
 else
  e ()
def jq(g:Nat)(p:zb)(h:List Int):Option yE:=
 (dV g h).bind λa=>
 if (a.2.2 !=0) then
  some (0,a.2.2,p)
 else
  (vx g a.1).bind λb=>
  if (b.2 !=0) then
   some (0,b.2,p)
  else
   (jM (ab p a) (λ(e:Unit)=>(.inl ())) (a.1.Maps).length 0 ()).bind λc=>match c with
    |.inl f=>
     if decide ((p.Tl.length:Int)>=16) then
      some (0,40,p)
     else
      (dz p.Ue (w64 (p.given+1)) a.1.Maps).bind λd=>
      some (w64 (p.given+1),0,{p with Ue:=d.2,given:=(w64 (p.given+1)),Tl:=(mput p.Tl (w64 (p.given+1)) (zU.mk a.1 0))})
    |.inr r=>some r
def aA(p:xD):Option (Int×xD):=
 some (w64 (p.last+1),(xD.mk (w64 (p.last+1))))
def ba(p:xD):Option Int:=
 some p.last
def xu(p:zz)(d:Int)(e:Int):Option (Int×Int×zz):=
 (aA p.Ty).bind λa=>
 (idx p.Te d).bind λc=>
 (ba a.2).bind λb=>
 some (b,0,(zz.mk a.2 (p.Te.set (Int.toNat d) (xf.mk a.1 e))))
def vV(p:zz)(d:Int)(e:Int):Option (Int×Int×zz):=
 (jf p d).bind λb=>
 if (!b) then
  some (0,2,p)
 else
  (jg p d).bind λc=>
  if c then
   some (0,42,p)
  else
   (xu p d e).bind λa=>
   some (a.1,a.2.1,a.2.2)
def jA(p:zb)(c:Int)(d:Int):Option yE:=
 if decide (c<0) then
  some (0,2,p)
 else
  if decide (c>=p.Te) then
   some (0,2,p)
  else
   if (jz p.Tl d).isSome then
    (jz p.Tl d).bind λb=>
    if (!(b.TH==0)) then
     some (0,41,p)
    else
     (vV p.Tk c d).bind λa=>
     some (a.1,a.2.1,{p with Tk:=a.2.2})
   else
    some (0,41,p)
def xv(p:za)(e:zx)(g:Int)(f:Int)(h:Int):Option za:=
 (if (h==0) then
  (qG p).bind λa=>
  (room (p.Tr.length+([(ze.mk 11 a 0 0 0 0 e.cmd.TC g f 0 (zg.mk 0 0 0 0) (zk.mk 0 false 0 false 0 0) 0 0)]).length) 176).bind λd=>
  some {p with Tr:=(p.Tr++[(ze.mk 11 a 0 0 0 0 e.cmd.TC g f 0 (zg.mk 0 0 0 0) (zk.mk 0 false 0 false 0 0) 0 0)])}
 else
  some p).bind λb=>
 (jR b e.Tn f h).bind λc=>
 some c
def bz(p:zz)(d:Int)(e:Int):Option (Int×Int×zz):=
 (jf p d).bind λb=>
 if (!b) then
  some (0,2,p)
 else
  (jg p d).bind λc=>
  if (!c) then
   some (0,41,p)
  else
   (xu p d e).bind λa=>
   some (a.1,a.2.1,a.2.2)
def jQ(p:zb)(c:Int)(d:Int):Option yE:=
 if decide (c<0) then
  some (0,2,p)
 else
  if decide (c>=p.Te) then
   some (0,2,p)
  else
   if (jz p.Tl d).isSome then
    (jz p.Tl d).bind λb=>
    if (!(b.TH==0)) then
     some (0,41,p)
    else
     (bz p.Tk c d).bind λa=>
     some (a.1,a.2.1,{p with Tk:=a.2.2})
   else
    some (0,41,p)
def fS(p:zz)(i:List Int)(a:Nat)(h:Unit->Option (Unit⊕(Int×zz)))(g:Unit):Option (Unit⊕(Int×zz)):=
 (idx i (a:Int)).bind λb=>
 ((jf p b).bind λc=>
 if (!c) then
  some true
 else
  (cut i 0 (a:Int)).bind λd=>
  (qa d b).bind λe=>
  some e).bind λf=>
 if f then
  some (.inr (2,p))
 else
  h ()
def fT(p:zz)(f:List Int)(a:Nat)(e:Unit->Option (Unit⊕(Int×zz)))(d:Unit):Option (Unit⊕(Int×zz)):=
 (idx f (a:Int)).bind λb=>
 (jg p b).bind λc=>
 if (!c) then
  some (.inr (41,p))
 else
  e ()
def fU(p:List Int)(c:Nat)(e:zz->Option zz)(a:zz):Option zz:=
 (idx p (c:Int)).bind λb=>
 (idx a.Te b).bind λd=>
 e (zz.mk a.Ty (a.Te.set (Int.toNat b) (xf.mk 0 0)))
def xO(i:zz)(p:List Int):Option (Int×zz):=
 (jM (fS i p) (λ(e:Unit)=>(.inl ())) (p).length 0 ()).bind λa=>match a with
  |.inl f=>
   (jM (fT i p) (λ(g:Unit)=>(.inl ())) (p).length 0 ()).bind λb=>match b with
    |.inl h=>
     (jM (fU p) (λ(c:zz)=>c) (p).length 0 i).bind λd=>
     some (0,d)
    |.inr r=>some r
  |.inr r=>some r
def gw(p:zz)(h:List Int)(a:Nat)(g:(List Int)->Option (List Int))(b:(List Int)):Option (List Int):=
 (idx p.Te (a:Int)).bind λc=>
 (if decide (c.Ts>0) then
  (qa h c.prog).bind λd=>
  some d
 else
  some false).bind λe=>
 if e then
  (room (b.length+([(a:Int)]).length) 8).bind λf=>
  g (b++[(a:Int)])
 else
  g b
def aM(p:zz)(c:List Int):Option (List Int):=
 (jM (gw p c) (λ(a:(List Int))=>a) (p.Te).length 0 ([]:List Int)).bind λb=>
 some b
def vC(p:zF):Option (Int×zF):=
 some (w64 (p.Uq+1),(zF.mk (w64 (p.Uq+1)) p.in_))
def qS(p:zb)(e:Int):Option yE:=
 if (!(jz p.Tl e).isSome) then
  some (0,41,p)
 else
  (jz p.Tl e).bind λb=>
  if decide (b.TH>0) then
   some (0,42,p)
  else
   (aM p.Tk ([e])).bind λc=>
   if decide (((c).length:Int)>0) then
    some (0,42,p)
   else
    (vC p.Th).bind λa=>
    (room (p.waiting.length+([e]).length) 8).bind λd=>
    some (a.1,0,{p with Th:=a.2,Tl:=(wc p.Tl e (zU.mk b.module a.1)),waiting:=(p.waiting++[e])})
def qv(p:List zY):Option (List zY):=
 (room (([]:List zY).length+p.length) 24).bind λa=>
 some (([]:List zY)++p)
def dB(p:zp)(g:zM):Option ((List zY)×zp):=
 (qv p.waiting).bind λa=>
 some (a,(zp.mk p.room true ([]:List zY) (xC.mk p.counts.TO p.counts.TY p.counts.Uw (w64 (p.counts.TW+((p.waiting).length:Int))) p.counts.Uc)))
def dm(p:za)(j:zx)(a:Nat)(f:(List zp)×(List ze))(c:(List zY)×zp)(g:Nat)(i:(List ze)->Option (List ze))(b:(List ze)):Option (List ze):=
 (idx c.1 (g:Int)).bind λd=>
 (qG {p with rings:=(f.1.set (Int.toNat (a:Int)) c.2),Tb:=j.Tn,closed:=true,Tr:=b}).bind λe=>
 (room (b.length+([(ze.mk 10 e 0 0 0 d.N (a:Int) 0 0 0 (zg.mk 0 0 0 0) (zk.mk 0 false 0 false 0 0) 0 0)]).length) 176).bind λh=>
 i (b++[(ze.mk 10 e 0 0 0 d.N (a:Int) 0 0 0 (zg.mk 0 0 0 0) (zk.mk 0 false 0 false 0 0) 0 0)])
def dp(p:za)(h:zx)(b:Nat)(g:((List zp)×(List ze))->Option za)(a:(List zp)×(List ze)):Option za:=
 (idx a.1 (b:Int)).bind λd=>
 (dB d p.TF).bind λc=>
 (jM (dm p h b a c) (λ(e:(List ze))=>e) (c.1).length 0 a.2).bind λf=>
 g ((a.1.set (Int.toNat (b:Int)) c.2),f)
def cT(k:Nat)(p:za)(i:zx):Option za:=
 if (i.cmd.SV==4) then
  (jq k p.Fn i.cmd.Tu).bind λa=>
  (if (a.2.1==0) then
   (qG {p with Fn:=a.2.2}).bind λf=>
   (room (p.Tr.length+([(ze.mk 12 f 0 0 0 0 0 a.1 0 0 (zg.mk 0 0 0 0) (zk.mk 0 false 0 false 0 0) 0 0)]).length) 176).bind λB=>
   some {p with Fn:=a.2.2,Tr:=(p.Tr++[(ze.mk 12 f 0 0 0 0 0 a.1 0 0 (zg.mk 0 0 0 0) (zk.mk 0 false 0 false 0 0) 0 0)])}
  else
   some {p with Fn:=a.2.2}).bind λl=>
  (jR l i.Tn a.1 a.2.1).bind λn=>
  some n
 else
  if (i.cmd.SV==5) then
   (jA p.Fn i.cmd.TC i.cmd.TS).bind λd=>
   (xv {p with Fn:=d.2.2} i i.cmd.TS d.1 d.2.1).bind λq=>
   some q
  else
   if (i.cmd.SV==6) then
    (jQ p.Fn i.cmd.TC i.cmd.TS).bind λe=>
    (xv {p with Fn:=e.2.2} i i.cmd.TS e.1 e.2.1).bind λv=>
    some v
   else
    if (i.cmd.SV==7) then
     (xO p.Fn.Tk ([i.cmd.TC])).bind λg=>
     (xv {p with Fn:=(zb.mk g.2 p.Fn.Ue p.Fn.Th p.Fn.Te p.Fn.maps p.Fn.given p.Fn.Tl p.Fn.waiting)} i 0 0 g.1).bind λz=>
     some z
    else
     if (i.cmd.SV==8) then
      (qS p.Fn i.cmd.TS).bind λb=>
      if (b.2.1 !=0) then
       (jR {p with Fn:=b.2.2} i.Tn 0 b.2.1).bind λA=>
       some A
      else
       (room (p.held.length+([{i with Uy:=b.1}]).length) 144).bind λC=>
       some {p with Fn:=b.2.2,held:=(p.held++[{i with Uy:=b.1}])}
     else
      if (i.cmd.SV==9) then
       (room (p.held.length+([i]).length) 144).bind λD=>
       some {p with held:=(p.held++[i])}
      else
       if (i.cmd.SV==10) then
        (jM (dp p i) (λ(h:(List zp)×(List ze))=>{p with rings:=h.1,Tb:=i.Tn,closed:=true,Tr:=h.2}) (p.rings).length 0 (p.rings,p.Tr)).bind λc=>
        (qG c).bind λj=>
        (room (c.Tr.length+([(ze.mk 14 j 0 0 0 0 0 0 0 0 (zg.mk 0 0 0 0) (zk.mk 0 false 0 false 0 0) 0 0)]).length) 176).bind λE=>
        some {c with Tr:=(c.Tr++[(ze.mk 14 j 0 0 0 0 0 0 0 0 (zg.mk 0 0 0 0) (zk.mk 0 false 0 false 0 0) 0 0)])}
       else
        some p
def dC(i:Nat)(p:za):Option za:=
 (xh p).bind λb=>
 if decide (b>=0) then
  (idx p.held b).bind λc=>
  (qd p.held b (w64 (b+1))).bind λd=>
  (if (c.cmd.SV==8) then
   (xb i p.Fn 1).bind λf=>
   (qG {p with Fn:=f.2,held:=d}).bind λg=>
   (room (p.Tr.length+([(ze.mk 13 g 0 0 0 0 0 c.cmd.TS 0 0 (zg.mk 0 0 0 0) (zk.mk 0 false 0 false 0 0) 0 0)]).length) 176).bind λA=>
   some {p with Fn:=f.2,held:=d,Tr:=(p.Tr++[(ze.mk 13 g 0 0 0 0 0 c.cmd.TS 0 0 (zg.mk 0 0 0 0) (zk.mk 0 false 0 false 0 0) 0 0)])}
  else
   some {p with held:=d}).bind λl=>
  (jR l c.Tn 0 0).bind λn=>
  some n
 else
  if (((p.SX).length:Int)==0) then
   (jR {p with over:=true} p.Tb 0 0).bind λa=>
   (qG a).bind λe=>
   (room (a.Tr.length+([(ze.mk 15 e 0 0 0 0 0 0 0 0 (zg.mk 0 0 0 0) (zk.mk 0 false 0 false 0 0) 0 0)]).length) 176).bind λB=>
   (aY a.Td ([e])).bind λq=>
   some {a with Td:=q.2,Tr:=(a.Tr++[(ze.mk 15 e 0 0 0 0 0 0 0 0 (zg.mk 0 0 0 0) (zk.mk 0 false 0 false 0 0) 0 0)])}
  else
   (idx p.SX 0).bind λh=>
   (cut p.SX 1 (p.SX.length:Int)).bind λj=>
   if p.closed then
    (jR {p with SX:=j} h.Tn 0 43).bind λv=>
    some v
   else
    (cT i {p with SX:=j} h).bind λz=>
    some z
def ae(j:Nat)(h:za)(p:Int)(i:Bool):Option (Int×Bool×za):=
 if (!i) then
  some (p,i,h)
 else
  (zW h).bind λa=>
  if decide (p<a) then
   (xS h p).bind λb=>
   some (p,i,b)
  else
   (qE h).bind λc=>
   if decide (p<c) then
    (dy j h p).bind λd=>
    some (p,i,d)
   else
    (qG h).bind λe=>
    if decide (p<e) then
     (cC j h p).bind λf=>
     some (p,i,f)
    else
     (dC j h).bind λg=>
     some (p,i,g)
def xF(f:Nat)(p:za)(d:Int):Option (Int×Bool×za):=
 (xp p).bind λc=>
 (dx c.Td d).bind λa=>
 (ae f {c with Td:=a.2.2} a.1 a.2.1).bind λb=>
 some (b.1,b.2.1,b.2.2)
def fB(p:zn)(c:(List Int))(d:Nat)(h:(Int×Bool)->Option (Int×Bool))(a:Int×Bool):Option (Int×Bool):=
 (idx c (d:Int)).bind λb=>
 (if (!a.2) then
  some true
 else
  (idx p.SU b).bind λe=>
  (idx p.SU a.1).bind λf=>
  some (decide (e.Uk<f.Uk))).bind λg=>
 if g then
  h (b,true)
 else
  h (a.1,a.2)
def dD(p:zn):Option (Int×Bool×zn):=
 (xG p).bind λb=>
 (jM (fB p b) (λ(c:Int×Bool)=>(c.1,c.2)) (b).length 0 (0,false)).bind λd=>
 if (!d.2) then
  some (0,false,p)
 else
  (aa p d.1).bind λa=>
  some (a.1,a.2.1,a.2.2)
def dE(f:Nat)(p:za):Option (Int×Bool×za):=
 (xp p).bind λc=>
 (dD c.Td).bind λa=>
 (ae f {c with Td:=a.2.2} a.1 a.2.1).bind λb=>
 some (b.1,b.2.1,b.2.2)
def dJ(f:Nat)(p:List Int)(a:Nat)(e:za->Option za)(b:za):Option za:=
 (idx p (a:Int)).bind λc=>
 (xF f b c).bind λd=>
 e d.2.2
def vN(f:Nat)(c:(za×Bool)->Option za)(a:za×Bool):Option za:=
 if a.2 then
  (dE f a.1).bind λb=>
  c (b.2.2,b.2.1)
 else
  some a.1
def cU(f:Nat)(p:za)(g:List Int):Option (Int×za):=
 (cg p.Td).bind λb=>
 (jM (dJ f g) (λ(c:za)=>c) (g).length 0 p).bind λd=>
 (loop (vN f) f (d,true)).bind λa=>
 (cg a.Td).bind λe=>
 some (w64 (e-b),a)
def zL(p:List zk):Option (List zk):=
 (room (([]:List zk).length+p.length) 48).bind λa=>
 some (([]:List zk)++p)
def jL(b:za)(p:Int):Option (List zA):=
 if decide (p<0)||decide (p>=(b.or.length:Int)) then some [] else
 (idx b.or p).bind λc=>(room (0+c.Tc.length) 64).bind λ_=>(c.Tc.foldlM (λ(_:Unit)a=>(zL a.TD).bind λ_=>(zy a.Pairs).bind λ_=>some ()) ()).bind λ_=>some c.Tc
def cD(p:zn):Option (List Int):=
 (ef p 2).bind λa=>
 some a
def vD(p:za):Option (List Int):=
 (cD p.Td).bind λa=>
 some a
def qx(p:List ze):Option (List ze):=
 (room (([]:List ze).length+p.length) 176).bind λa=>
 some (([]:List ze)++p)
def cV(p:za):Option (List ze):=
 (qx p.Tr).bind λa=>
 some a
def cF(p:za):Option ((List Int)×za):=
 (xp p).bind λa=>
 (xG a.Td).bind λb=>
 some (b,a)
def ii :Option zG:=
 some (zG.mk 1 1 1 1 ([(jJ.mk 0 2)]))
def wm(c:zS)(a:Nat)(g:(List zP)->Option (List zP))(b:(List zP)):Option (List zP):=
 (ain 4 (a:Int)).bind λd=>
 (idx b (a:Int)).bind λe=>
 (mJ ([e,(c.Te d)])).bind λf=>
 g (b.set (Int.toNat (a:Int)) f)
def wn(p:List zS)(a:Nat)(f:(List zP)->Option (List zP))(b:(List zP)):Option (List zP):=
 (idx p (a:Int)).bind λc=>
 (jM (wm c) (λ(d:(List zP))=>d) 4 0 b).bind λe=>
 f e
def lM(p:List zS):Option (List zP):=
 (mkLen 4 40).bind λa=>
 (jM (wn p) (λ(b:(List zP))=>b) (p).length 0 (List.replicate a (zP.mk 0 0 0 0 0))).bind λc=>
 some c
def aN(p:za):Option (List zP):=
 (room p.LE.length 8).bind λc=>
 (lM (p.LE.map λ(x:zB)=>x.SQ.Ua)).bind λa=>
 (cut a 0 (p.rings.length:Int)).bind λb=>
 some b
def eJ(i:Nat) :Option Bool:=
 ii.bind λh=>
 (eF i h ([[(zJ.mk 4 (zg.mk 0 0 0 0) ([]:List zg) 0 0 0 (qr.mk 0 0) ([84,80,1,0,2,0,0,0,8,10,22,0,0,0,0]:List Int)),(zJ.mk 5 (zg.mk 0 0 0 0) ([]:List zg) 0 0 1 (qr.mk 0 0) ([]:List Int)),(zJ.mk 3 (zg.mk 0 0 0 0) ([]:List zg) 0 0 0 (qr.mk 0 0) ([]:List Int)),(zJ.mk 9 (zg.mk 0 0 0 0) ([]:List zg) 0 0 0 (qr.mk 0 0) ([]:List Int)),(zJ.mk 0 (zg.mk 0 2 1 2) ([]:List zg) 0 0 0 (qr.mk 0 0) ([]:List Int)),(zJ.mk 10 (zg.mk 0 0 0 0) ([]:List zg) 0 0 0 (qr.mk 0 0) ([]:List Int))]])).bind λc=>
 vW c.1
  (some false)
  (λd=>
  (if (c.2 !=0) then
   some (d,true)
  else
   (cU i d ([]:List Int)).bind λe=>
   some (e.2,(e.1==0))).bind λa=>
  if a.2 then
   some false
  else
   (jL a.1 0).bind λb=>
   (aN a.1).bind λf=>
   (ig a.1 0).bind λj=>
   (if (((b).length:Int)==6) then
    (idx b 0).bind λl=>
    if (l.N==1) then
     (idx b 2).bind λn=>
     if (n.N==1) then
      (idx b 5).bind λq=>
      if (q.E==0) then
       if (((f).length:Int)==1) then
        (idx f 0).bind λg=>
        if (g.US==1) then
         if (g.Sum==5) then
          if (((j.1).length:Int)==1) then
           (vD a.1).bind λv=>
           some (((v).length:Int)==3)
          else
           some false
         else
          some false
        else
         some false
       else
        some false
      else
       some false
     else
      some false
    else
     some false
   else
    some false).bind λz=>
   some z)
def bH(f:Nat)(p:qt):Option ((Option za)×Bool):=
 (eF f p.C p.Tg).bind λa=>
 vW a.1
  (some (none,(true==(a.2 !=0))))
  (λb=>
  some ((some b),(false==(a.2 !=0))))
def eK(p:za)(a:Nat)(d:Unit->Option (Unit⊕Bool))(c:Unit):Option (Unit⊕Bool):=
 (idx p.or (a:Int)).bind λb=>
 if b.waits then
  some (.inr false)
 else
  d ()
def cG(p:za):Option Bool:=
 ((room (p.or).length 1).bind λc=>
 jM (eK p) (λ(d:Unit)=>(.inl ())) (p.or).length 0 ()).bind λa=>match a with
  |.inl e=>
   (vj p).bind λb=>
   some b
  |.inr r=>some r
def bL(p:qt)(d:Nat)(e:(Int×Int)->Option Int)(a:Int×Int):Option Int:=
 (idx p.Tg (d:Int)).bind λc=>
 if decide (a.2<((c).length:Int)) then
  (idx c a.2).bind λb=>
  if (b.SV==3) then
   e (w64 ((w64 (a.1+(w64 ((w64 (4+(oT 1 ((b.Tw).length:Int))))+p.C.SR))))+770),w64 (a.2+1))
  else
   e (w64 (a.1+(w64 ((w64 (4+(oT 1 ((b.Tw).length:Int))))+p.C.SR))),w64 (a.2+1))
 else
  some a.1
def bM(f:Nat)(p:qt)(a:Nat)(d:Int->Option Int)(b:Int):Option Int:=
 (loop (bL p a) f (b,0)).bind λc=>
 d c
def fc(p:qt)(b:Nat)(c:List zA)(a:Nat)(h:Bool->Option Bool)(d:Bool):Option Bool:=
 if d then
  h true
 else
  (idx p.Tg (b:Int)).bind λe=>
  (idx e (a:Int)).bind λf=>
  if (f.SV==10) then
   (idx c (a:Int)).bind λg=>
   h (g.E==0)
  else
   h false
def bN(p:qt)(c:za×Bool)(a:Nat)(h:Bool->Option (Bool⊕Bool))(d:Bool):Option (Bool⊕Bool):=
 (jL c.1 (a:Int)).bind λb=>
 (idx p.Tg (a:Int)).bind λe=>
 if (((b).length:Int) !=((e).length:Int)) then
  some (.inr false)
 else
  (jM (fc p a b) (λ(f:Bool)=>f) (b).length 0 d).bind λg=>
  h g
def bO(c:(List ze))(d:Nat)(f:(Int×Int)->Option (Int×Int))(a:Int×Int):Option (Int×Int):=
 (idx c (d:Int)).bind λb=>
 if (b.Uv==4) then
  f (w64 (a.1+1),a.2)
 else
  (if (b.Uv==9) then
   some (b.Uv==9)
  else
   some (b.Uv==10)).bind λe=>
  if e then
   f (a.1,w64 (a.2+1))
  else
   f (a.1,a.2)
def bP(p:qt)(c:Bool)(b:(List Int))(e:Int->Option (Unit⊕Bool))(a:Int):Option (Unit⊕Bool):=
 if (c&&decide (a<((b).length:Int))) then
  (idx b a).bind λd=>
  if (d !=(w64 (((p.Tg).length:Int)+a))) then
   some (.inr false)
  else
   e (w64 (a+1))
 else
  some (.inl ())
def xw(i:Nat)(p:qt):Option Bool:=
 (eJ i).bind λl=>
 if (!l) then
  some false
 else
  (bH i p).bind λa=>
  vW a.1
   (some a.2)
   (λn=>
   if (!a.2) then
    some a.2
   else
    (jM (bM i p) (λ(q:Int)=>q) (p.Tg).length 0 (w64 ((w64 (p.C.SS+p.C.SR))+1))).bind λv=>
    ((cU i n p.TZ).bind λd=>
    if decide (d.1>v) then
     some (d.2,true)
    else
     (cF d.2).bind λb=>
     if (((b.1).length:Int) !=0) then
      some (b.2,true)
     else
      (cG b.2).bind λz=>
      some (b.2,(!z))).bind λc=>
    if c.2 then
     some false
    else
     (jM (bN p c) (λ(A:Bool)=>(.inl A)) (p.Tg).length 0 false).bind λB=>match B with
      |.inl e=>
       (cV c.1).bind λg=>
       (jM (bO g) (λ(h:Int×Int)=>(h.1,h.2)) (g).length 0 (0,0)).bind λj=>
       (vD c.1).bind λf=>
       if ((j.1 !=j.2)||(!(e==decide (((f).length:Int)>0)))) then
        some false
       else
        (loop (bP p e f) i 0).bind λD=>match D with
         |.inl E=>
          some ((!e)||(((f).length:Int)==(w64 ((w64 (p.C.SS+p.C.SR))+1))))
         |.inr r=>some r
      |.inr r=>some r)
end Go.Proofs.YtplmgfkghomelaaGreatDoor
