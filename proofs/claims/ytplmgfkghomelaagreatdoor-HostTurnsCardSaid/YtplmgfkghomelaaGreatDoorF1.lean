/- Lemmas. -/
import Derived.Test.YtplmgfkghomelaaGreatDoorIns
set_option linter.unusedVariables false
set_option linter.unusedSimpArgs false
namespace Go.Proofs.YtplmgfkghomelaaGreatDoor
open Go.Sx
structure zE where
 Tt:Int
 in_:List Int
def Dd:Rp (List Int):=mH 3 (zA .i64) 1 (λ_=>rfl) (by decide)
def ot:Rp zE:=qF (λ(x:zE)vs=>[.int .i64 x.Tt,vs.getD 0 undef]) 2 (λ_ _=>rfl) (λx=>x.in_) (Dd)
def eR:Rp zE:=ab 231 ot
structure qQ where
 A:Int
 B:Int
def ow(x:qQ):List Value:=[.int .u64 x.A,.int .u64 x.B]
structure zZ where
 N:Int
 Sl:qQ
def xF(x:zZ):List Value:=[.int .i64 x.N,.int .u64 x.Sl.A,.int .u64 x.Sl.B]
structure xG where
 Tp:Int
 Tw:Int
 TU:Int
 Tx:Int
 Tv:Int
structure zt where
 room:Int
 Tu:Bool
 waiting:List zZ
 counts:xG
def O3:Rp (List zZ):=mH 193 (xF) 3 (λ_=>rfl) (by decide)
def rk(fx:Value):Rp zt:=qF (λ(x:zt)vs=>[fx,.int .i64 x.room,.bool x.Tu,vs.getD 0 undef,.int .i64 x.counts.Tp,.int .i64 x.counts.Tw,.int .i64 x.counts.TU,.int .i64 x.counts.Tx,.int .i64 x.counts.Tv]) 9 (λ_ _=>rfl) (λx=>x.waiting) (O3)
def de(fx:Value):Rp zt:=ab 178 (rk fx)
structure xH where
 last:Int
structure xj where
 Sq:Int
 prog:Int
def gO(x:xj):List Value:=[.int .i64 x.Sq,.int .i64 x.prog]
structure zz where
 SB:xH
 Sc:List xj
structure zW where
 maps:Int
 held:List (Int×(List Int))
structure zf where
 Op:Int
 D:Int
 A:Int
 B:Int
 SN:Int
def qb(x:zf):List Value:=[.int .i64 x.Op,.int .i64 x.D,.int .i64 x.A,.int .i64 x.B,.int .i64 x.SN]
structure zD where
 Maps:List Int
 Code:List zf
structure zS where
 module:zD
 SM:Int
structure zb where
 Si:zz
 Td:zW
 Sg:zE
 Sc:Int
 maps:Int
 given:Int
 Sj:List (Int×zS)
 waiting:List Int
structure qm where
 RX:Int
 Tn:Int
def ox(x:qm):List Value:=[.int .i64 x.RX,.int .i64 x.Tn]
structure zo where
 RT:List qm
 LE:Int
structure jg where
 RS:Int
 Uk:Int
def xh(x:jg):List Value:=[.int .i64 x.RS,.int .i64 x.Uk]
structure zN where
 RR:Int
 RZ:Int
 Sh:Int
 SU:Int
 Maps:List jg
structure zh where
 SE:Int
 Op:Int
 SQ:Int
 SJ:Int
def qn(x:zh):List Value:=[.int .i64 x.SE,.int .i64 x.Op,.int .u64 x.SQ,.int .u64 x.SJ]
structure zF where
 RS:Int
 Item:zh
 Sy:List zh
 SE:Int
 SG:Int
 SV:Int
 Sl:qQ
 Sn:List Int
structure zk where
 E:Int
 Found:Bool
 SJ:Int
 Ui:Bool
 Tf:Int
 Tg:Int
def qa(x:zk):List Value:=[.int .i64 x.E,.bool x.Found,.int .u64 x.SJ,.bool x.Ui,.int .u64 x.Tf,.int .u64 x.Tg]
structure zp where
 SQ:Int
 SJ:Int
def zJ(x:zp):List Value:=[.int .u64 x.SQ,.int .u64 x.SJ]
structure zx where
 E:Int
 N:Int
 SD:List zk
 Pairs:List zp
structure ze where
 Sv:List zF
 Su:Int
 waits:Bool
 Sd:Int
 Id:zx
 parts:List (List zp)
 Se:List zx
structure qM where
 Sm:Nat->Int
structure jo where
 counts:Nat->Int
structure zl where
 SS:qM
 Sz:jo
def xt(x:zl):List Value:=[.int .u64 (x.SS.Sm 0),.int .u64 (x.SS.Sm 1),.int .u64 (x.SS.Sm 2),.int .u64 (x.SS.Sm 3),.int .u64 (x.SS.Sm 4),.int .u64 (x.SS.Sm 5),.int .u64 (x.SS.Sm 6),.int .u64 (x.SS.Sm 7),.int .u64 (x.SS.Sm 8),.int .u64 (x.SS.Sm 9),.int .u64 (x.SS.Sm 10),.int .u64 (x.SS.Sm 11),.int .u64 (x.SS.Sm 12),.int .u64 (x.SS.Sm 13),.int .u64 (x.SS.Sm 14),.int .u64 (x.SS.Sm 15),.int .u64 (x.Sz.counts 0),.int .u64 (x.Sz.counts 1),.int .u64 (x.Sz.counts 2),.int .u64 (x.Sz.counts 3),.int .u64 (x.Sz.counts 4),.int .u64 (x.Sz.counts 5),.int .u64 (x.Sz.counts 6),.int .u64 (x.Sz.counts 7),.int .u64 (x.Sz.counts 8),.int .u64 (x.Sz.counts 9),.int .u64 (x.Sz.counts 10),.int .u64 (x.Sz.counts 11),.int .u64 (x.Sz.counts 12),.int .u64 (x.Sz.counts 13),.int .u64 (x.Sz.counts 14),.int .u64 (x.Sz.counts 15)]
structure qz where
 TV:Int
 Tl:Int
 TD:Int
 Calls:Int
 Sum:Int
def cL(x:qz):List Value:=[.int .u64 x.TV,.int .u64 x.Tl,.int .u64 x.TD,.int .u64 x.Calls,.int .u64 x.Sum]
structure zX where
 Sc:Nat->qz
def ez(x:zX):List Value:=[.int .u64 (x.Sc 0).TV,.int .u64 (x.Sc 0).Tl,.int .u64 (x.Sc 0).TD,.int .u64 (x.Sc 0).Calls,.int .u64 (x.Sc 0).Sum,.int .u64 (x.Sc 1).TV,.int .u64 (x.Sc 1).Tl,.int .u64 (x.Sc 1).TD,.int .u64 (x.Sc 1).Calls,.int .u64 (x.Sc 1).Sum,.int .u64 (x.Sc 2).TV,.int .u64 (x.Sc 2).Tl,.int .u64 (x.Sc 2).TD,.int .u64 (x.Sc 2).Calls,.int .u64 (x.Sc 2).Sum,.int .u64 (x.Sc 3).TV,.int .u64 (x.Sc 3).Tl,.int .u64 (x.Sc 3).TD,.int .u64 (x.Sc 3).Calls,.int .u64 (x.Sc 3).Sum]
structure zr where
 Sl:qQ
 module:zD
 regs:Nat->Int
 LE:Nat->Int
 Su:Int
 steps:Int
 state:Int
structure bI where
 hook:Int
 SI:zZ
 Sq:Int
 prog:Int
 calls:Int
 TH:Option zr
structure zm where
 SK:zl
 Tq:zX
 RX:Int
 SC:bI
structure zH where
 RP:zm
 SF:Int
 pc:Int
 SZ:Option zk
 RY:Bool
structure qk where
 cap:Int
 RU:List zp
structure qw where
 Th:qk
 Tm:List Int
abbrev qi:Type:=qk⊕qw
structure zq where
 Te:Int
 TG:Int
 Ts:Bool
 Item:zh
def qI(x:zq):List Value:=[.int .i64 x.Te,.int .i64 x.TG,.bool x.Ts,.int .i64 x.Item.SE,.int .i64 x.Item.Op,.int .u64 x.Item.SQ,.int .u64 x.Item.SJ]
structure zc where
 Tr:Int
 SX:Int
 maps:List qi
 RW:List zq
 RY:Bool
structure zB where
 SA:Int
 cmd:zF
 TB:Int
structure zd where
 UB:Int
 Ul:Int
 Te:Int
 UJ:Int
 TG:Int
 Sl:Int
 SG:Int
 SV:Int
 Ud:Int
 Pc:Int
 Item:zh
 SD:zk
 SJ:Int
 E:Int
def zG(x:zd):List Value:=[.int .i64 x.UB,.int .i64 x.Ul,.int .i64 x.Te,.int .i64 x.UJ,.int .i64 x.TG,.int .i64 x.Sl,.int .i64 x.SG,.int .i64 x.SV,.int .i64 x.Ud,.int .i64 x.Pc,.int .i64 x.Item.SE,.int .i64 x.Item.Op,.int .u64 x.Item.SQ,.int .u64 x.Item.SJ,.int .i64 x.SD.E,.bool x.SD.Found,.int .u64 x.SD.SJ,.bool x.SD.Ui,.int .u64 x.SD.Tf,.int .u64 x.SD.Tg,.int .u64 x.SJ,.int .i64 x.E]
structure zP where
 last:Int
def dK(x:zP):List Value:=[.int .i64 x.last]
structure za where
 Fn:zb
 Sf:zo
 Sk:zN
 or:List ze
 LT:List zH
 Fd:List zc
 RN:List zt
 RW:List zB
 held:List zB
 Sa:Int
 closed:Bool
 over:Bool
 Sw:List zd
 SH:zP
def O4:Rp (List xj):=mH 294 (gO) 2 (λ_=>rfl) (by decide)
def rl:Rp zz:=qF (λ(x:zz)vs=>[.int .i64 x.SB.last,vs.getD 0 undef]) 2 (λ_ _=>rfl) (λx=>x.Sc) (O4)
def aH:Rp zz:=ab 229 rl
def O5:Rp (List (Int×(List Int))):=Jh Dd
def nq:Rp zW:=qF (λ(x:zW)vs=>[.int .i64 x.maps,vs.getD 0 undef]) 2 (λ_ _=>rfl) (λx=>x.held) (O5)
def kb:Rp zW:=ab 223 nq
def O6:Rp (List zf):=mH 160 (qb) 5 (λ_=>rfl) (by decide)
def lU:Rp zS:=qF (λ(x:zS)vs=>[vs.getD 0 undef,vs.getD 1 undef,.int .i64 x.SM]) 3 (λ_ _=>rfl) (λx=>(x.module.Maps,x.module.Code)) (jn Dd O6)
def lV:Rp zS:=ab 299 lU
def O7:Rp (List (Int×zS)):=Jh lV
def vr:Rp zb:=qF (λ(x:zb)vs=>[vs.getD 0 undef,vs.getD 1 undef,vs.getD 2 undef,.int .i64 x.Sc,.int .i64 x.maps,.int .i64 x.given,vs.getD 3 undef,vs.getD 4 undef]) 8 (λ_ _=>rfl) (λx=>(x.Si,(x.Td,(x.Sg,(x.Sj,x.waiting))))) (jn aH (jn kb (jn eR (jn O7 Dd))))
def bZ:Rp zb:=ab 169 vr
def O8:Rp (List qm):=mH 210 (ox) 2 (λ_=>rfl) (by decide)
def fF:Rp zo:=qF (λ(x:zo)vs=>[vs.getD 0 undef,.int .i64 x.LE]) 2 (λ_ _=>rfl) (λx=>x.RT) (O8)
def xD:Rp zo:=ab 203 fF
def O9:Rp (List zh):=mH 46 (qn) 4 (λ_=>rfl) (by decide)
def Pb:Rp (List Int):=mH 5 (zA .u8) 1 (λ_=>rfl) (by decide)
def kg:Rp zF:=qF (λ(x:zF)vs=>[.int .i64 x.RS,.int .i64 x.Item.SE,.int .i64 x.Item.Op,.int .u64 x.Item.SQ,.int .u64 x.Item.SJ,vs.getD 0 undef,.int .i64 x.SE,.int .i64 x.SG,.int .i64 x.SV,.int .u64 x.Sl.A,.int .u64 x.Sl.B,vs.getD 1 undef]) 12 (λ_ _=>rfl) (λx=>(x.Sy,x.Sn)) (jn O9 Pb)
def pC:Rp (List zF):=iT 71 kg (by decide)
def MU:Rp (List zk):=mH 48 (qa) 6 (λ_=>rfl) (by decide)
def sN:Rp (List zp):=mH 86 (zJ) 2 (λ_=>rfl) (by decide)
def L7:Rp (List (List zp)):=iT 76 sN (by decide)
def lK:Rp zx:=qF (λ(x:zx)vs=>[.int .i64 x.E,.int .i64 x.N,vs.getD 0 undef,vs.getD 1 undef]) 4 (λ_ _=>rfl) (λx=>(x.SD,x.Pairs)) (jn MU sN)
def Pd:Rp (List zx):=iT 96 lK (by decide)
def aZ(wb:World)(Sb:List Nat):Rp ze:=qF (λ(x:ze)vs=>[vs.getD 0 undef,.int .i64 x.Su,.bool x.waits,.int .i64 x.Sd,.int .i64 x.Id.E,.int .i64 x.Id.N,vs.getD 1 undef,vs.getD 2 undef,vs.getD 3 undef,vs.getD 4 undef]) 10 (λ_ _=>rfl) (λx=>(x.Sv,(x.Id.SD,(x.Id.Pairs,(x.parts,x.Se))))) (jn (rdP (pC) wb Sb) (jn MU (jn sN (jn L7 Pd))))
def lW(wb:World)(Sb:List Nat):Rp ze:=ab 135 (aZ wb Sb)
def L8(wb:World)(Sb:List Nat):Rp (List ze):=iT 131 (lW wb Sb) (r7 rfl)
def Pe:Rp zl:=uH (xt) 32 (λ_=>rfl)
def iz:Rp zl:=ab 244 Pe
def Pf:Rp zX:=uH (ez) 20 (λ_=>rfl)
def rm:Rp zX:=ab 247 Pf
def vJ(fx:Value):Rp zr:=qF (λ(x:zr)vs=>[.int .u64 x.Sl.A,.int .u64 x.Sl.B,vs.getD 0 undef,vs.getD 1 undef,fx,.int .u64 (x.regs 0),.int .u64 (x.regs 1),.int .u64 (x.regs 2),.int .u64 (x.regs 3),.int .u64 (x.regs 4),.int .u64 (x.regs 5),.int .u64 (x.regs 6),.int .u64 (x.regs 7),.int .i64 (x.LE 0),.int .i64 (x.LE 1),.int .i64 (x.LE 2),.int .i64 (x.LE 3),.int .i64 (x.LE 4),.int .i64 (x.LE 5),.int .i64 (x.LE 6),.int .i64 (x.LE 7),.int .i64 (x.LE 8),.int .i64 (x.LE 9),.int .i64 (x.LE 10),.int .i64 (x.LE 11),.int .i64 (x.LE 12),.int .i64 (x.LE 13),.int .i64 (x.LE 14),.int .i64 (x.LE 15),.int .i64 (x.LE 16),.int .i64 (x.LE 17),.int .i64 (x.LE 18),.int .i64 (x.LE 19),.int .i64 (x.LE 20),.int .i64 (x.LE 21),.int .i64 (x.LE 22),.int .i64 (x.LE 23),.int .i64 (x.LE 24),.int .i64 (x.LE 25),.int .i64 (x.LE 26),.int .i64 (x.LE 27),.int .i64 (x.LE 28),.int .i64 (x.LE 29),.int .i64 (x.LE 30),.int .i64 (x.LE 31),.int .i64 (x.LE 32),.int .i64 (x.LE 33),.int .i64 (x.LE 34),.int .i64 (x.LE 35),.int .i64 (x.LE 36),.int .i64 (x.LE 37),.int .i64 (x.LE 38),.int .i64 (x.LE 39),.int .i64 (x.LE 40),.int .i64 (x.LE 41),.int .i64 (x.LE 42),.int .i64 (x.LE 43),.int .i64 (x.LE 44),.int .i64 (x.LE 45),.int .i64 (x.LE 46),.int .i64 (x.LE 47),.int .i64 (x.LE 48),.int .i64 (x.LE 49),.int .i64 (x.LE 50),.int .i64 (x.LE 51),.int .i64 (x.LE 52),.int .i64 (x.LE 53),.int .i64 (x.LE 54),.int .i64 (x.LE 55),.int .i64 (x.LE 56),.int .i64 (x.LE 57),.int .i64 (x.LE 58),.int .i64 (x.LE 59),.int .i64 (x.LE 60),.int .i64 (x.LE 61),.int .i64 (x.LE 62),.int .i64 (x.LE 63),.int .i64 x.Su,.int .i64 x.steps,.int .i64 x.state]) 80 (λ_ _=>rfl) (λx=>(x.module.Maps,x.module.Code)) (jn Dd O6)
def eS:Rp zm:=qF (λ(x:zm)vs=>[vs.getD 0 undef,vs.getD 1 undef,.int .i64 x.RX,.int .i64 x.SC.hook,.int .i64 x.SC.SI.N,.int .u64 x.SC.SI.Sl.A,.int .u64 x.SC.SI.Sl.B,.int .i64 x.SC.Sq,.int .i64 x.SC.prog,.int .u64 x.SC.calls,vs.getD 2 undef]) 11 (λ_ _=>rfl) (λx=>(x.SK,x.Tq,x.SC.TH)) (Qf iz rm (λfx=>(AK 330 (vJ fx))) 1 (λ_=>rfl))
def fG:Rp zm:=ab 198 eS
def eA:Rp zH:=qF (λ(x:zH)vs=>[vs.getD 0 undef,.int .i64 x.SF,.int .i64 x.pc,vs.getD 1 undef,.bool x.RY]) 5 (λ_ _=>rfl) (λx=>(x.RP,x.SZ)) (jn fG (Ki 268 qa))
def lF:Rp zH:=ab 130 eA
def L9:Rp (List zH):=iT 125 lF (by decide)
def ns:Rp qk:=qF (λ(x:qk)vs=>[.int .i64 x.cap,vs.getD 0 undef]) 2 (λ_ _=>rfl) (λx=>x.RU) (sN)
def aI:Rp qk:=ab 280 ns
def Pg:Rp (List Int):=mH 44 (zA .u64) 1 (λ_=>rfl) (by decide)
def oy:Rp qw:=qF (λ(x:qw)vs=>[vs.getD 0 undef,vs.getD 1 undef]) 2 (λ_ _=>rfl) (λx=>(x.Th,x.Tm)) (jn aI Pg)
def dv:Rp qw:=ab 283 oy
def fH:Rp qi:=M5 (G9 232 aI) (G9 235 dv) rfl rfl
def Ph:Rp (List qi):=iT 184 fH (by decide)
def Pi:Rp (List zq):=mH 286 (qI) 7 (λ_=>rfl) (by decide)
def eT:Rp zc:=qF (λ(x:zc)vs=>[.int .i64 x.Tr,.int .i64 x.SX,vs.getD 0 undef,vs.getD 1 undef,.bool x.RY]) 5 (λ_ _=>rfl) (λx=>(x.maps,x.RW)) (jn Ph Pi)
def xE:Rp zc:=ab 182 eT
def Ma:Rp (List zc):=iT 122 xE (by decide)
def Mb(fx:Value):Rp (List zt):=iT 119 (de fx) (r7 rfl)
def gP(wb:World)(Sb:List Nat):Rp zB:=qF (λ(x:zB)vs=>[.int .i64 x.SA,.int .i64 x.cmd.RS,.int .i64 x.cmd.Item.SE,.int .i64 x.cmd.Item.Op,.int .u64 x.cmd.Item.SQ,.int .u64 x.cmd.Item.SJ,vs.getD 0 undef,.int .i64 x.cmd.SE,.int .i64 x.cmd.SG,.int .i64 x.cmd.SV,.int .u64 x.cmd.Sl.A,.int .u64 x.cmd.Sl.B,vs.getD 1 undef,.int .i64 x.TB]) 14 (λ_ _=>rfl) (λx=>(x.cmd.Sy,x.cmd.Sn)) (jn (Jy wb Sb (qn) 4) (Jy wb Sb (zA .u8) 1))
def HF(wb:World)(Sb:List Nat):Rp (List zB):=iT 272 (gP wb Sb) (r7 rfl)
def Pj:Rp (List zd):=mH 50 (zG) 22 (λ_=>rfl) (by decide)
def Pk:Rp zP:=uH (dK) 1 (λ_=>rfl)
def eB:Rp zP:=ab 118 Pk
def qA(wb:World)(Sb:List Nat):Rp za:=qF (λ(x:za)vs=>[vs.getD 0 undef,vs.getD 1 undef,.int .i64 x.Sk.RR,.int .i64 x.Sk.RZ,.int .i64 x.Sk.Sh,.int .i64 x.Sk.SU,vs.getD 2 undef,vs.getD 3 undef,vs.getD 4 undef,vs.getD 5 undef,vs.getD 6 undef,vs.getD 7 undef,vs.getD 8 undef,.int .i64 x.Sa,.bool x.closed,.bool x.over,vs.getD 9 undef]) 17 (λ_ _=>rfl) (λx=>(x.SH,(x.Fn,(x.Sf,(x.Sk.Maps,(x.or,(x.LT,(x.Fd,(x.RN,(x.RW,(x.held,x.Sw))))))))))) (M4 eB (λfx=>jn bZ (jn xD (jn (Mc jg) (jn (L8 wb Sb) (jn L9 (jn Ma (jn (Mb fx) (jn (HF wb Sb) (jn (HF wb Sb) Pj))))))))) 10 (λ_=>rfl))
def jN(wb:World)(Sb:List Nat):Rp za:=ab 115 (qA wb Sb)
def QF:Rp zk:=uH (qa) 6 (λ_=>rfl)
def wC:Rp ze:=qF (λ(x:ze)vs=>[vs.getD 0 undef,.int .i64 x.Su,.bool x.waits,.int .i64 x.Sd,.int .i64 x.Id.E,.int .i64 x.Id.N,vs.getD 1 undef,vs.getD 2 undef,vs.getD 3 undef,vs.getD 4 undef]) 10 (λ_ _=>rfl) (λx=>(x.Sv,(x.Id.SD,(x.Id.Pairs,(x.parts,x.Se))))) (jn pC (jn MU (jn sN (jn L7 Pd))))
def iL:Rp ze:=ab 135 wC
def wD:Rp zB:=qF (λ(x:zB)vs=>[.int .i64 x.SA,.int .i64 x.cmd.RS,.int .i64 x.cmd.Item.SE,.int .i64 x.cmd.Item.Op,.int .u64 x.cmd.Item.SQ,.int .u64 x.cmd.Item.SJ,vs.getD 0 undef,.int .i64 x.cmd.SE,.int .i64 x.cmd.SG,.int .i64 x.cmd.SV,.int .u64 x.cmd.Sl.A,.int .u64 x.cmd.Sl.B,vs.getD 1 undef,.int .i64 x.TB]) 14 (λ_ _=>rfl) (λx=>(x.cmd.Sy,x.cmd.Sn)) (jn O9 Pb)
def HG:Rp (List ze):=iT 131 iL (by decide)
def De:Rp (List zB):=iT 272 wD (by decide)
def Df:Rp za:=qF (λ(x:za)vs=>[vs.getD 0 undef,vs.getD 1 undef,.int .i64 x.Sk.RR,.int .i64 x.Sk.RZ,.int .i64 x.Sk.Sh,.int .i64 x.Sk.SU,vs.getD 2 undef,vs.getD 3 undef,vs.getD 4 undef,vs.getD 5 undef,vs.getD 6 undef,vs.getD 7 undef,vs.getD 8 undef,.int .i64 x.Sa,.bool x.closed,.bool x.over,vs.getD 9 undef]) 17 (λ_ _=>rfl) (λx=>(x.SH,(x.Fn,(x.Sf,(x.Sk.Maps,(x.or,(x.LT,(x.Fd,(x.RN,(x.RW,(x.held,x.Sw))))))))))) (M4 eB (λfx=>jn bZ (jn xD (jn (Mc jg) (jn HG (jn L9 (jn Ma (jn (Mb fx) (jn De (jn De Pj))))))))) 10 (λ_=>rfl))
def Pm:Rp za:=ab 115 Df
structure qY where
 name:ByteArray
 SR:ByteArray
def zV(x:qY):List Value:=[.string x.name,.string x.SR]
def xX:List qY:=[(qY.mk (⟨[115,101,116].toArray⟩) (⟨[100,115].toArray⟩)),
 (qY.mk (⟨[97,100,100].toArray⟩) (⟨[100,97,115].toArray⟩)),
 (qY.mk (⟨[115,117,98].toArray⟩) (⟨[100,97,115].toArray⟩)),
 (qY.mk (⟨[109,117,108].toArray⟩) (⟨[100,97,115].toArray⟩)),
 (qY.mk (⟨[100,105,118].toArray⟩) (⟨[100,97,115].toArray⟩)),
 (qY.mk (⟨[114,101,109].toArray⟩) (⟨[100,97,115].toArray⟩)),
 (qY.mk (⟨[97,110,100].toArray⟩) (⟨[100,97,115].toArray⟩)),
 (qY.mk (⟨[111,114].toArray⟩) (⟨[100,97,115].toArray⟩)),
 (qY.mk (⟨[120,111,114].toArray⟩) (⟨[100,97,115].toArray⟩)),
 (qY.mk (⟨[115,104,108].toArray⟩) (⟨[100,97,115].toArray⟩)),
 (qY.mk (⟨[115,104,114].toArray⟩) (⟨[100,97,115].toArray⟩)),
 (qY.mk (⟨[108,111,97,100].toArray⟩) (⟨[100,115].toArray⟩)),
 (qY.mk (⟨[115,116,111,114,101].toArray⟩) (⟨[97,115].toArray⟩)),
 (qY.mk (⟨[102,105,101,108,100].toArray⟩) (⟨[100,102].toArray⟩)),
 (qY.mk (⟨[109,97,112].toArray⟩) (⟨[100,109].toArray⟩)),
 (qY.mk (⟨[106,117,109,112].toArray⟩) (⟨[106].toArray⟩)),
 (qY.mk (⟨[106,101,113].toArray⟩) (⟨[106,97,115].toArray⟩)),
 (qY.mk (⟨[106,110,101].toArray⟩) (⟨[106,97,115].toArray⟩)),
 (qY.mk (⟨[106,108,116].toArray⟩) (⟨[106,97,115].toArray⟩)),
 (qY.mk (⟨[106,103,101].toArray⟩) (⟨[106,97,115].toArray⟩)),
 (qY.mk (⟨[108,111,111,112].toArray⟩) (⟨[98,97,110].toArray⟩)),
 (qY.mk (⟨[99,97,108,108].toArray⟩) (⟨[104].toArray⟩)),
 (qY.mk (⟨[101,120,105,116].toArray⟩) (⟨[97].toArray⟩))]
structure qv where
 Ti:Int
 At:Int
 TC:Int
def vf(x:qv):List Value:=[.int .i64 x.Ti,.int .i64 x.At,.int .i64 x.TC]
structure zg where
 Lo:Int
 Hi:Int
def dY(x:zg):List Value:=[.int .u64 x.Lo,.int .u64 x.Hi]
structure zi where
 RS:Int
 Sr:zg
 SE:Int
def zu(x:zi):List Value:=[.int .i64 x.RS,.int .u64 x.Sr.Lo,.int .u64 x.Sr.Hi,.int .i64 x.SE]
structure zj where
 Sn:zD
 came:List (Nat->zi)
 any:List Bool
 loops:List qv
def Po:Rp (List (Nat->zi)):=mH 379 (eQ (zu) 8) 32 (λ_=>rfl) (by decide)
def Pp:Rp (List Bool):=mH 4 (iS) 1 (λ_=>rfl) (by decide)
def Pq:Rp (List qv):=mH 400 (vf) 3 (λ_=>rfl) (by decide)
def dZ(wb:World)(Sb:List Nat):Rp zj:=qF (λ(x:zj)vs=>[vs.getD 0 undef,vs.getD 1 undef,vs.getD 2 undef,vs.getD 3 undef,vs.getD 4 undef]) 5 (λ_ _=>rfl) (λx=>(x.Sn.Maps,(x.Sn.Code,(x.came,(x.any,x.loops))))) (jn (Jy wb Sb (zA .i64) 1) (jn (Jy wb Sb (qb) 5) (jn Po (jn Pp Pq))))
def dw(wb:World)(Sb:List Nat):Rp zj:=ab 370 (dZ wb Sb)
structure bT where
 name:ByteArray
 TS:ByteArray
 most:Int
 asks:Int
 TJ:Bool
def qj(x:bT):List Value:=[.string x.name,.string x.TS,.int .u64 x.most,.int .i64 x.asks,.bool x.TJ]
def aJ:List bT:=[(bT.mk (⟨[103,101,116].toArray⟩) (⟨[104,110].toArray⟩) 18446744073709551615 0 true),
 (bT.mk (⟨[104,97,115].toArray⟩) (⟨[104,110].toArray⟩) 1 1 true),
 (bT.mk (⟨[112,117,116].toArray⟩) (⟨[104,110,110].toArray⟩) 1 2 true),
 (bT.mk (⟨[100,101,108].toArray⟩) (⟨[104,110].toArray⟩) 1 3 true),
 (bT.mk (⟨[97,100,100].toArray⟩) (⟨[104,110,110].toArray⟩) 18446744073709551615 4 true),
 (bT.mk (⟨[109,97,114,107].toArray⟩) (⟨[115].toArray⟩) 18446744073709551615 0 false),
 (bT.mk (⟨[110,111,116,101].toArray⟩) (⟨[110].toArray⟩) 0 0 false)]
def lH(fx:Value):Rp zr:=ab 330 (vJ fx)
structure qS where
 RS:Int
 Pc:Int
 Item:zh
 SJ:Int
def oz:Rp zk:=ab 48 QF
structure bA where
 To:Int
 TG:Int
 Ts:Bool
 Item:zh
 SD:zk
 Pairs:List zp
structure zw where
 b:List Int
 Su:Int
 field:Int
 e:Int
def bU(wb:World)(Sb:List Nat):Rp zw:=qF (λ(x:zw)vs=>[vs.getD 0 undef,.int .i64 x.Su,.int .i64 x.field,.int .i64 x.e]) 4 (λ_ _=>rfl) (λx=>x.b) ((Jy wb Sb (zA .u8) 1))
def eU(wb:World)(Sb:List Nat):Rp zw:=ab 155 (bU wb Sb)
structure jd where
 C:zN
 SO:List (List zF)
 SL:List Int
theorem MV:Cv wC (λwb Sb=>aZ wb Sb):=Cv.struct (x2 (Cv.bor _) (x2 (Cv.refl _) (x2 (Cv.refl _) (x2 (Cv.refl _) (Cv.refl _)))))
theorem MW:Cv iL (λwb Sb=>lW wb Sb):=Cv.ptr MV
theorem MX:Cv HG (λwb Sb=>L8 wb Sb):=Cv.rowN MW
theorem MY:Cv wD (λwb Sb=>gP wb Sb):=Cv.struct (x2 Cv.row (Cv.row))
theorem HH:Cv De (λwb Sb=>HF wb Sb):=Cv.rowN MY
theorem MZ:Cv Df (λwb Sb=>qA wb Sb):=Cv.struct (Cv.gho (λ_=>x2 (Cv.refl _) (x2 (Cv.refl _) (x2 (Cv.refl _) (x2 MX (x2 (Cv.refl _) (x2 (Cv.refl _) (x2 (Cv.refl _) (x2 HH (x2 HH (Cv.refl _)))))))))))
theorem Pr:Cv Pm (λwb Sb=>jN wb Sb):=Cv.ptr MZ
def bJ(p0:Int)(p1:Int):Option Bool:=
 some (p0==p1)
def bf(p0:List Int)(p1:Int)(a:Nat)(again:Unit->Option (Unit⊕Int))(c:Unit):Option (Unit⊕Int):=
 (idx p0 (a:Int)).bind λb=>
 if (p1==b) then
  some (.inr (a:Int))
 else
  again ()
def xl(p0:List Int)(p1:Int):Option Int:=
 (jL (bf p0 p1) (λ(b:Unit)=>(.inl ())) (p0).length 0 ()).bind λa=>match a with
  |.inl c=>
   some (-1)
  |.inr r=>some r
def zY(p0:List Int)(p1:Int):Option Bool:=
 (xl p0 p1).bind λa=>
 some (decide (a>=0))
def jh(p0:Int)(p1:List Int):Option Bool:=
 (zY p1 p0).bind λa=>
 some a
def gQ(p0:zE)(p1:Int)(b:Nat)(again:Unit->Option (Unit⊕Bool))(c:Unit):Option (Unit⊕Bool):=
 (idx p0.in_ (b:Int)).bind λa=>
 if ((a !=0)&&decide (a<p1)) then
  some (.inr false)
 else
  again ()
def vK(p0:zE)(p1:Int):Option Bool:=
 ((room (p0.in_).length 1).bind λb=>
 jL (gQ p0 p1) (λ(c:Unit)=>(.inl ())) (p0.in_).length 0 ()).bind λa=>match a with
  |.inl d=>
   some true
  |.inr r=>some r
def bB(p0:zt):Option xG:=
 some (xG.mk p0.counts.Tp p0.counts.Tw p0.counts.TU p0.counts.Tx ((p0.waiting).length:Int))
def df(p0:za)(a:Nat)(again:Unit->Option (Unit⊕Bool))(d:Unit):Option (Unit⊕Bool):=
 (idx p0.RN (a:Int)).bind λb=>
 (bB b).bind λc=>
 if decide (c.Tv>0) then
  some (.inr true)
 else
  again ()
def vh(p0:za):Option Bool:=
 ((room (p0.RN).length 1).bind λb=>
 jL (df p0) (λ(c:Unit)=>(.inl ())) (p0.RN).length 0 ()).bind λa=>match a with
  |.inl d=>
   some false
  |.inr r=>some r
def jO(p0:zm):Option Int:=
 some p0.RX
def dh(p0:za)(a:Nat)(again:Unit->Option (Unit⊕Bool))(d:Unit):Option (Unit⊕Bool):=
 (idx p0.LT (a:Int)).bind λb=>
 (jO b.RP).bind λc=>
 if (c !=0) then
  some (.inr false)
 else
  again ()
def aK(p0:za):Option Bool:=
 ((room (p0.LT).length 1).bind λb=>
 jL (dh p0) (λ(c:Unit)=>(.inl ())) (p0.LT).length 0 ()).bind λa=>match a with
  |.inl d=>
   some true
  |.inr r=>some r
def xq(p0:zB)(p1:za):Option Bool:=
 if (p0.cmd.RS==8) then
  (vK p1.Fn.Sg p0.TB).bind λa=>
  some a
 else
  ((vh p1).bind λb=>
  if (!b) then
   (aK p1).bind λc=>
   some c
  else
   some false).bind λd=>
  some d
def cM(p0:zh)(p1:za):Option Bool:=
 (if decide (p0.SE<0) then
  some true
 else
  if decide (p0.SE>=((p1.Sk.Maps).length:Int)) then
   some true
  else
   if decide (p0.Op<0) then
    some true
   else
    some (decide (p0.Op>=5))).bind λa=>
 some a
def kh(p0:Int):Option ((Option zz)×Int):=
 if (decide (p0<1)||decide (p0>4)) then
  some (none,2)
 else
  (mkLen p0 16).bind λa=>
  some ((some (zz.mk (xH.mk 0) (List.replicate a (xj.mk 0 0)))),0)
def kQ(p0:Int):Option ((Option zW)×Int):=
 if (decide (p0<0)||decide (p0>4)) then
  some (none,2)
 else
  some ((some (zW.mk p0 ([]:List (Int×(List Int))))),0)
def eC(p0:Int):Option ((Option zE)×Int):=
 if (decide (p0<1)||decide (p0>4)) then
  some (none,2)
 else
  (mkLen p0 8).bind λa=>
  some ((some (zE.mk 1 (List.replicate a 0))),0)
def cd(p0:Int)(p1:Int)(p2:Int):Option ((Option zb)×Int):=
 (kh p0).bind λa=>
 aa a.1
  ((kQ p1).bind λb=>
  aa b.1
   ((eC p2).bind λd=>
   aa d.1
    (if (((a.2 !=0)||(b.2 !=0))||(d.2 !=0)) then
     some (none,2)
    else
     none)
    (λn=>
    if (((a.2 !=0)||(b.2 !=0))||(d.2 !=0)) then
     some (none,2)
    else
     none))
   (λq=>
   (eC p2).bind λe=>
   aa e.1
    (if (((a.2 !=0)||(b.2 !=0))||(e.2 !=0)) then
     some (none,2)
    else
     none)
    (λv=>
    if (((a.2 !=0)||(b.2 !=0))||(e.2 !=0)) then
     some (none,2)
    else
     none)))
  (λh=>
  (kQ p1).bind λc=>
  aa c.1
   ((eC p2).bind λf=>
   aa f.1
    (if (((a.2 !=0)||(c.2 !=0))||(f.2 !=0)) then
     some (none,2)
    else
     none)
    (λz=>
    if (((a.2 !=0)||(c.2 !=0))||(f.2 !=0)) then
     some (none,2)
    else
     none))
   (λj=>
   (eC p2).bind λg=>
   aa g.1
    (if (((a.2 !=0)||(c.2 !=0))||(g.2 !=0)) then
     some (none,2)
    else
     none)
    (λl=>
    if (((a.2 !=0)||(c.2 !=0))||(g.2 !=0)) then
     some (none,2)
    else
     some ((some (zb.mk h j l p0 p1 0 ([]:List (Int×zS)) ([]:List Int))),0))))
def kS(p0:Int)(p1:zP):Option ((Option zt)×Int):=
 if ((decide (p0<1)||decide (p0>16))||false) then
  some (none,2)
 else
  some ((some (zt.mk p0 false ([]:List zZ) (xG.mk 0 0 0 0 0))),0)
def iA(p0:Int):Option ((Option qk)×Int):=
 if (decide (p0<1)||decide (p0>16)) then
  some (none,2)
 else
  some ((some (qk.mk p0 ([]:List zp))),0)
def pD(p0:Int):Option ((Option qw)×Int):=
 (iA p0).bind λa=>
 aa a.1
  (if (a.2 !=0) then
   some (none,a.2)
  else
   none)
  (λb=>
  if (a.2 !=0) then
   some (none,a.2)
  else
   some ((some (qw.mk b ([]:List Int))),0))
def eD(p0:jg):Option ((Option qi)×Int):=
 if (p0.RS==0) then
  (iA p0.Uk).bind λa=>
  aa a.1
   (if (a.2==0) then
    none
   else
    some (none,2))
   (λc=>
   if (a.2==0) then
    some ((some (.inl c)),a.2)
   else
    some (none,2))
 else
  if (p0.RS==1) then
   (pD p0.Uk).bind λb=>
   aa b.1
    (if (b.2==0) then
     none
    else
     some (none,2))
    (λd=>
    if (b.2==0) then
     some ((some (.inr d)),b.2)
    else
     some (none,2))
  else
   some (none,2)
def iB(p2:List jg)(d:Nat)(again:zc->Option (zc⊕((Option zc)×Int)))(b:zc):Option (zc⊕((Option zc)×Int)):=
 (idx p2 (d:Int)).bind λe=>
 (eD e).bind λa=>
 aa a.1
  (if (a.2 !=0) then
   some (.inr (none,a.2))
  else
   none)
  (λc=>
  if (a.2 !=0) then
   some (.inr (none,a.2))
  else
   (room (b.maps.length+([c]).length) 16).bind λf=>
   again {b with maps:=(b.maps++[c])})
def cg(p0:Int)(p1:Int)(p2:List jg):Option ((Option zc)×Int):=
 if ((((decide (p1<1)||decide (p1>4))||decide (p0<0))||decide (p0>=p1))||decide (((p2).length:Int)>4)) then
  some (none,2)
 else
  (jL (iB p2) (λ(a:zc)=>(.inl a)) (p2).length 0 (zc.mk p0 p1 ([]:List qi) ([]:List zq) false)).bind λb=>match b with
   |.inl c=>
    some ((some c),0)
   |.inr r=>some r
def nG :Option zl:=
 some (zl.mk (qM.mk (λ_=>0)) (jo.mk (λ_=>0)))
def sO :Option zX:=
 some (zX.mk (λ_=>(qz.mk 0 0 0 0 0)))
def eY :Option zm:=
 nG.bind λa=>
 sO.bind λb=>
 some (zm.mk a b 0 (bI.mk 0 (zZ.mk 0 (qQ.mk 0 0)) 0 0 0 none))
def zI(p0:List zh):Option (List zh):=
 (room (([]:List zh).length+p0.length) 32).bind λa=>
 some (([]:List zh)++p0)
def qN(p0:List Int):Option (List Int):=
 (room (([]:List Int).length+p0.length) 1).bind λa=>
 some (([]:List Int)++p0)
def cj(p0:List zF):Option (List zF):=
 (room (0+p0.length) 128).bind λ_=>(p0.foldlM (λ(_:Unit)c=>(zI c.Sy).bind λ_=>(qN c.Sn).bind λ_=>some ()) ()).bind λ_=>some p0
def mO(p0:Int):Option ((Option zo)×Int):=
 if (decide (p0<1)||decide (p0>64)) then
  some (none,2)
 else
  (mkLen p0 16).bind λa=>
  some ((some (zo.mk (List.replicate a (qm.mk 0 0)) 0)),0)
abbrev yA:=(Option za)×Int
def nJ(p0:zN)(again:((List zt)×Int)->Option ((List zt)⊕yA))(a:(List zt)×Int):Option ((List zt)⊕yA):=
 if decide (a.2<p0.Sh) then
  (kS p0.SU (zP.mk 0)).bind λb=>
  aa b.1
   (if (b.2 !=0) then
    some (.inr (none,b.2))
   else
    none)
   (λc=>
   if (b.2 !=0) then
    some (.inr (none,b.2))
   else
    (room (a.1.length+([c]).length) 8).bind λd=>
    again ((a.1++[c]),w64 (a.2+1)))
 else
  some (.inl a.1)
def nK(p0:zN)(again:((List zc)×Int)->Option ((List zc)⊕yA))(a:(List zc)×Int):Option ((List zc)⊕yA):=
 if decide (a.2<p0.RZ) then
  (cg a.2 p0.RZ p0.Maps).bind λb=>
  aa b.1
   (if (b.2 !=0) then
    some (.inr (none,b.2))
   else
    none)
   (λc=>
   if (b.2 !=0) then
    some (.inr (none,b.2))
   else
    (room (a.1.length+([c]).length) 8).bind λd=>
    again ((a.1++[c]),w64 (a.2+1)))
 else
  some (.inl a.1)
def kT(p0:zN)(again:((List zH)×Int)->Option (List zH))(a:(List zH)×Int):Option (List zH):=
 if decide (a.2<p0.RR) then
  eY.bind λb=>
  (room (a.1.length+([(zH.mk b 0 0 none false)]).length) 8).bind λc=>
  again ((a.1++[(zH.mk b 0 0 none false)]),w64 (a.2+1))
 else
  some a.1
def nL(p1:List (List zF))(d:Nat)(again:(List ze)->Option ((List ze)⊕yA))(a:(List ze)):Option ((List ze)⊕yA):=
 (idx p1 (d:Int)).bind λb=>
 if decide (((b).length:Int)>64) then
  some (.inr (none,11))
 else
  (cj b).bind λc=>
  (room (a.length+([(ze.mk c 0 false 0 (zx.mk 0 0 ([]:List zk) ([]:List zp)) ([]:List (List zp)) ([]:List zx))]).length) 8).bind λe=>
  again (a++[(ze.mk c 0 false 0 (zx.mk 0 0 ([]:List zk) ([]:List zp)) ([]:List (List zp)) ([]:List zx))])
def Dg(p0:zN)(again:((List zt)×Int)->Option ((List zt)⊕yA))(a:(List zt)×Int):Option ((List zt)⊕yA):=
 if decide (a.2<p0.Sh) then
  (kS p0.SU (zP.mk 0)).bind λb=>
  aa b.1
   (if (b.2 !=0) then
    some (.inr (none,b.2))
   else
    none)
   (λc=>
   if (b.2 !=0) then
    some (.inr (none,b.2))
   else
    (room (a.1.length+([c]).length) 8).bind λd=>
    again ((a.1++[c]),w64 (a.2+1)))
 else
  some (.inl a.1)
def Dh(p0:zN)(again:((List zc)×Int)->Option ((List zc)⊕yA))(a:(List zc)×Int):Option ((List zc)⊕yA):=
 if decide (a.2<p0.RZ) then
  (cg a.2 p0.RZ p0.Maps).bind λb=>
  aa b.1
   (if (b.2 !=0) then
    some (.inr (none,b.2))
   else
    none)
   (λc=>
   if (b.2 !=0) then
    some (.inr (none,b.2))
   else
    (room (a.1.length+([c]).length) 8).bind λd=>
    again ((a.1++[c]),w64 (a.2+1)))
 else
  some (.inl a.1)
def Di(p0:zN)(again:((List zH)×Int)->Option (List zH))(a:(List zH)×Int):Option (List zH):=
 if decide (a.2<p0.RR) then
  eY.bind λb=>
  (room (a.1.length+([(zH.mk b 0 0 none false)]).length) 8).bind λc=>
  again ((a.1++[(zH.mk b 0 0 none false)]),w64 (a.2+1))
 else
  some a.1
def Dj(p1:List (List zF))(d:Nat)(again:(List ze)->Option ((List ze)⊕yA))(a:(List ze)):Option ((List ze)⊕yA):=
 (idx p1 (d:Int)).bind λb=>
 if decide (((b).length:Int)>64) then
  some (.inr (none,11))
 else
  (cj b).bind λc=>
  (room (a.length+([(ze.mk c 0 false 0 (zx.mk 0 0 ([]:List zk) ([]:List zp)) ([]:List (List zp)) ([]:List zx))]).length) 8).bind λe=>
  again (a++[(ze.mk c 0 false 0 (zx.mk 0 0 ([]:List zk) ([]:List zp)) ([]:List (List zp)) ([]:List zx))])
def cO(fu:Nat)(p0:zN)(p1:List (List zF)):Option yA:=
 (cd p0.Sh ((p0.Maps).length:Int) p0.RR).bind λa=>
 aa a.1
  (if (((((a.2 !=0)||decide (p0.RZ<1))||decide (p0.RZ>4))||decide (((p1).length:Int)<1))||decide (((p1).length:Int)>4)) then
   some (none,2)
  else
   (loop (Dg p0) fu (([]:List zt),0)).bind λb=>match b with
    |.inl D=>
     (loop (Dh p0) fu (([]:List zc),0)).bind λc=>match c with
      |.inl E=>
       (loop (Di p0) fu (([]:List zH),0)).bind λF=>
       (jL (Dj p1) (λ(d:(List ze))=>(.inl d)) (p1).length 0 ([]:List ze)).bind λe=>match e with
        |.inl G=>
         (mO (w64 ((w64 ((w64 (((p1).length:Int)+p0.RR))+p0.RZ))+1))).bind λf=>
         aa f.1
          (none)
          (λH=>
          none)
        |.inr r=>some r
      |.inr r=>some r
    |.inr r=>some r)
  (λg=>
  if (((((a.2 !=0)||decide (p0.RZ<1))||decide (p0.RZ>4))||decide (((p1).length:Int)<1))||decide (((p1).length:Int)>4)) then
   some (none,2)
  else
   (loop (nJ p0) fu (([]:List zt),0)).bind λh=>match h with
    |.inl j=>
     (loop (nK p0) fu (([]:List zc),0)).bind λl=>match l with
      |.inl n=>
       (loop (kT p0) fu (([]:List zH),0)).bind λq=>
       (jL (nL p1) (λ(v:(List ze))=>(.inl v)) (p1).length 0 ([]:List ze)).bind λz=>match z with
        |.inl A=>
         (mO (w64 ((w64 ((w64 (((p1).length:Int)+p0.RR))+p0.RZ))+1))).bind λB=>
         aa B.1
          (none)
          (λC=>
          some ((some (za.mk g C p0 A q n j ([]:List zB) ([]:List zB) 0 false false ([]:List zd) (zP.mk 0))),0))
        |.inr r=>some r
      |.inr r=>some r
    |.inr r=>some r)
def aL(p0:zo):Option Int:=
 some p0.LE
def qD(p0:za):Option Int:=
 some (w64 ((w64 (((p0.or).length:Int)+((p0.LT).length:Int)))+((p0.Fd).length:Int)))
def zU(p0:za):Option Int:=
 some ((p0.or).length:Int)
def qB(p0:za):Option Int:=
 some (w64 (((p0.or).length:Int)+((p0.LT).length:Int)))
def ql(p0:List zq):Option (List zq):=
 (room (([]:List zq).length+p0.length) 56).bind λa=>
 some (([]:List zq)++p0)
def vt(p0:zc):Option (List zq):=
 (ql p0.RW).bind λa=>
 some a
def vi(p0:zc):Option Bool:=
 some p0.RY
def cm(p0:za)(a:Nat)(again:Unit->Option (Unit⊕Bool))(c:Unit):Option (Unit⊕Bool):=
 (idx p0.LT (a:Int)).bind λb=>
 if (!b.RY) then
  some (.inr false)
 else
  again ()
def cq(p0:za)(p1:Bool)(a:Nat)(again:Unit->Option (Unit⊕Bool))(e:Unit):Option (Unit⊕Bool):=
 (idx p0.Fd (a:Int)).bind λb=>
 (if p1 then
  (vi b).bind λc=>
  some (!c)
 else
  some false).bind λd=>
 if d then
  some (.inr false)
 else
  again ()
def xM(p0:za)(p1:Bool):Option Bool:=
 ((room (p0.LT).length 1).bind λc=>
 jL (cm p0) (λ(d:Unit)=>(.inl ())) (p0.LT).length 0 ()).bind λa=>match a with
  |.inl e=>
   ((room (p0.Fd).length 1).bind λf=>
   jL (cq p0 p1) (λ(g:Unit)=>(.inl ())) (p0.Fd).length 0 ()).bind λb=>match b with
    |.inl h=>
     some true
    |.inr r=>some r
  |.inr r=>some r
def qr(p0:List zB)(p1:za)(a:Nat)(again:Unit->Option (Unit⊕Int))(d:Unit):Option (Unit⊕Int):=
 (idx p0 (a:Int)).bind λb=>
 (xq b p1).bind λc=>
 if c then
  some (.inr (a:Int))
 else
  again ()
def qe(p0:List zB)(p1:za):Option Int:=
 (jL (qr p0 p1) (λ(b:Unit)=>(.inl ())) (p0).length 0 ()).bind λa=>match a with
  |.inl c=>
   some (-1)
  |.inr r=>some r
def xm(p0:za):Option Int:=
 (qe p0.held p0).bind λa=>
 some a
def aM(p0:za):Option Bool:=
 (if p0.closed then
  (xM p0 true).bind λa=>
  if a then
   some (((p0.held).length:Int)==0)
  else
   some false
 else
  some false).bind λb=>
 some b
def qU(p0:za)(p1:Int):Option Bool:=
 (zU p0).bind λe=>
 if decide (p1<e) then
  (idx p0.or p1).bind λa=>
  if a.waits then
   some (a.Sd==0)
  else
   some (decide (a.Su<((a.Sv).length:Int)))
 else
  (qB p0).bind λf=>
  if decide (p1<f) then
   (zU p0).bind λg=>
   (idx p0.LT (w64 (p1-g))).bind λb=>
   (jO b.RP).bind λc=>
   if (c==0) then
    (if (!b.RY) then
     if p0.closed then
      some true
     else
      (vh p0).bind λh=>
      some h
    else
     some false).bind λj=>
    some j
   else
    if (c==3) then
     some b.SZ.isSome
    else
     some true
  else
   (qD p0).bind λl=>
   if decide (p1<l) then
    (qB p0).bind λn=>
    (idx p0.Fd (w64 (p1-n))).bind λd=>
    ((vt d).bind λq=>
    if decide (((q).length:Int)>0) then
     some true
    else
     if p0.closed then
      (xM p0 false).bind λv=>
      if v then
       (vi d).bind λz=>
       some (!z)
      else
       some false
     else
      some false).bind λA=>
    some A
   else
    (if (!p0.over) then
     if decide (((p0.RW).length:Int)>0) then
      some true
     else
      (xm p0).bind λB=>
      if decide (B>=0) then
       some true
      else
       (aM p0).bind λC=>
       some C
    else
     some false).bind λD=>
    some D
def fW(p1:List Bool)(b:Nat)(again:zo->Option zo)(a:zo):Option zo:=
 (idx p1 (b:Int)).bind λd=>
 (idx a.RT (b:Int)).bind λc=>
 if (c.RX==2) then
  again a
 else
  if d then
   again (zo.mk (a.RT.set (Int.toNat (b:Int)) (qm.mk 1 c.Tn)) a.LE)
  else
   again (zo.mk (a.RT.set (Int.toNat (b:Int)) (qm.mk 0 c.Tn)) a.LE)
def eE(p0:zo)(p1:List Bool):Option (Int×zo):=
 if (((p1).length:Int) !=((p0.RT).length:Int)) then
  some (2,p0)
 else
  (jL (fW p1) (λ(a:zo)=>a) (p1).length 0 p0).bind λb=>
  some (0,b)
def di(p0:za)(a:Nat)(again:(List Bool)->Option (List Bool))(b:(List Bool)):Option (List Bool):=
 (qU p0 (a:Int)).bind λc=>
 (idx b (a:Int)).bind λd=>
 again (b.set (Int.toNat (a:Int)) c)
def xu(p0:za):Option za:=
 (qD p0).bind λb=>
 (mkLen (w64 (b+1)) 1).bind λa=>
 ((room a 1).bind λf=>
 jL (di p0) (λ(c:(List Bool))=>c) a 0 (List.replicate a false)).bind λd=>
 (eE p0.Sf d).bind λe=>
 some {p0 with Sf:=e.2}
def gR(p0:zo)(p1:Int)(a:Nat)(again:(List Int)->Option (List Int))(b:(List Int)):Option (List Int):=
 (idx p0.RT (a:Int)).bind λc=>
 if (c.RX==p1) then
  (room (b.length+([(a:Int)]).length) 8).bind λd=>
  again (b++[(a:Int)])
 else
  again b
def ef(p0:zo)(p1:Int):Option (List Int):=
 (jL (gR p0 p1) (λ(a:(List Int))=>a) (p0.RT).length 0 ([]:List Int)).bind λb=>
 some b
def xJ(p0:zo):Option (List Int):=
 (ef p0 1).bind λa=>
 some a
def aj(p0:zo)(p1:Int):Option (Int×Bool×zo):=
 (idx p0.RT p1).bind λa=>
 some (p1,true,(zo.mk (p0.RT.set (Int.toNat p1) (qm.mk a.RX (w64 (p0.LE+1)))) (w64 (p0.LE+1))))
def dx(p0:zo)(p1:Int):Option (Int×Bool×zo):=
 (xJ p0).bind λa=>
 if (((a).length:Int)==0) then
  some (0,false,p0)
 else
  (nz ((a).length:Int)).bind λe=>
  (if decide ((p1.tmod ((a).length:Int))<0) then
   some (w64 ((p1.tmod ((a).length:Int))+((a).length:Int)))
  else
   some (p1.tmod ((a).length:Int))).bind λc=>
  (idx a c).bind λd=>
  (aj p0 d).bind λb=>
  some (b.1,b.2.1,b.2.2)
def eZ(c:ze)(d:Nat)(again:(List zp)->Option ze)(a:(List zp)):Option ze:=
 (idx c.parts (d:Int)).bind λb=>
 (room (a.length+b.length) 16).bind λe=>
 again (a++b)
def qX(p0:za)(p1:Int):Option za:=
 (idx p0.or p1).bind λb=>
 (jL (eZ b) (λ(c:(List zp))=>{b with Id:=(zx.mk b.Id.E b.Id.N b.Id.SD c)}) (b.parts).length 0 b.Id.Pairs).bind λa=>
 (room (p0.Sw.length+([(zd.mk 2 p1 0 a.Su 0 0 0 0 0 0 (zh.mk 0 0 0 0) (zk.mk 0 false 0 false 0 0) (vc a.Id.N) a.Id.E)]).length) 176).bind λd=>
 (room (a.Se.length+([a.Id]).length) 64).bind λe=>
 some {p0 with or:=(p0.or.set (Int.toNat p1) (ze.mk a.Sv (w64 (a.Su+1)) false a.Sd (zx.mk 0 0 ([]:List zk) ([]:List zp)) ([]:List (List zp)) (a.Se++[a.Id]))),Sw:=(p0.Sw++[(zd.mk 2 p1 0 a.Su 0 0 0 0 0 0 (zh.mk 0 0 0 0) (zk.mk 0 false 0 false 0 0) (vc a.Id.N) a.Id.E)])}
def qx(p0:List zh)(p1:za)(a:Nat)(again:Unit->Option (Unit⊕Int))(d:Unit):Option (Unit⊕Int):=
 (idx p0 (a:Int)).bind λb=>
 (cM b p1).bind λc=>
 if c then
  some (.inr (a:Int))
 else
  again ()
def qh(p0:List zh)(p1:za):Option Int:=
 (jL (qx p0 p1) (λ(b:Unit)=>(.inl ())) (p0).length 0 ()).bind λa=>match a with
  |.inl c=>
   some (-1)
  |.inr r=>some r
def qd(p0:List zh)(p1:za):Option Bool:=
 (qh p0 p1).bind λa=>
 some (decide (a>=0))
def xK(p0:za)(p1:List zh):Option Bool:=
 (qd p1 p0).bind λa=>
 some a
def aB(p0:Int)(p1:Int):Option Int:=
 if decide (p1<1) then
  some 0
 else
  (nz (vc p1)).bind λa=>
  some (w64 ((iI .u64 (vc (p0*11400714819323198485)) 32).tmod (vc p1)))
def xS(p0:zc)(p1:zq):Option Bool:=
 if (decide (p1.Item.SE<0)||decide (p1.Item.SE>=((p0.maps).length:Int))) then
  some false
 else
  (if p1.Ts then
   some true
  else
   if decide (p1.Item.Op>=0) then
    if decide (p1.Item.Op<5) then
     (aB p1.Item.SQ p0.SX).bind λa=>
     some (a==p0.Tr)
    else
     some false
   else
    some false).bind λb=>
  some b
def gS(p0:zc)(p1:List zq)(a:Nat)(again:Unit->Option (Unit⊕(Int×zc)))(d:Unit):Option (Unit⊕(Int×zc)):=
 (idx p1 (a:Int)).bind λb=>
 (xS p0 b).bind λc=>
 if (!c) then
  some (.inr (2,p0))
 else
  again ()
def jI(p0:zc)(p1:List zq):Option (Int×zc):=
 if p0.RY then
  some (43,p0)
 else
  (jL (gS p0 p1) (λ(b:Unit)=>(.inl ())) (p1).length 0 ()).bind λa=>match a with
   |.inl c=>
    (room (p0.RW.length+p1.length) 56).bind λd=>
    some (0,{p0 with RW:=(p0.RW++p1)})
   |.inr r=>some r
def cP(p0:zP):Option (Int×zP):=
 some (w64 (p0.last+1),(zP.mk (w64 (p0.last+1))))
def vL(p0:zt)(p1:qQ)(g0:zP):Option (Int×Int×zt×zP):=
 if p0.Tu then
  some (0,43,p0,g0)
 else
  if (((p0.waiting).length:Int)==p0.room) then
   some (0,40,{p0 with counts:=(xG.mk p0.counts.Tp (w64 (p0.counts.Tw+1)) p0.counts.TU p0.counts.Tx p0.counts.Tv)},g0)
  else
   (cP g0).bind λa=>
   (room (p0.waiting.length+([(zZ.mk a.1 p1)]).length) 24).bind λb=>
   some (a.1,0,(zt.mk p0.room p0.Tu (p0.waiting++[(zZ.mk a.1 p1)]) (xG.mk (w64 (p0.counts.Tp+1)) p0.counts.Tw p0.counts.TU p0.counts.Tx p0.counts.Tv)),a.2)
def dP(p1:Int)(e:zF)(b:Nat)(again:(List zc)->Option (List zc))(a:(List zc)):Option (List zc):=
 (idx ([e.Item]) (b:Int)).bind λc=>
 (aB c.SQ ((a).length:Int)).bind λd=>
 (idx a d).bind λf=>
 (jI f ([(zq.mk p1 (b:Int) false c)])).bind λg=>
 again (a.set (Int.toNat d) g.2)
def gT(p1:Int)(e:zF)(b:Nat)(again:(List zc)->Option (List zc))(a:(List zc)):Option (List zc):=
 (idx e.Sy (b:Int)).bind λc=>
 (aB c.SQ ((a).length:Int)).bind λd=>
 (idx a d).bind λf=>
 (jI f ([(zq.mk p1 (b:Int) false c)])).bind λg=>
 again (a.set (Int.toNat d) g.2)
def dQ(p1:Int)(c:zF)(a:Nat)(again:(List zc)->Option (List zc))(b:(List zc)):Option (List zc):=
 (idx b (a:Int)).bind λd=>
 (jI d ([(zq.mk p1 (a:Int) true (zh.mk c.SE 0 0 0))])).bind λe=>
 again (b.set (Int.toNat (a:Int)) e.2)
def xT(p0:za)(p1:Int):Option za:=
 (idx p0.or p1).bind λa=>
 if a.waits then
  (qX p0 p1).bind λe=>
  some e
 else
  (room (p0.Sw.length+([(zd.mk 1 p1 0 a.Su 0 0 0 0 0 0 (zh.mk 0 0 0 0) (zk.mk 0 false 0 false 0 0) 0 0)]).length) 176).bind λR=>
  (idx a.Sv a.Su).bind λb=>
  if p0.closed then
   (qX {p0 with or:=(p0.or.set (Int.toNat p1) {a with Id:=(zx.mk 43 a.Id.N a.Id.SD a.Id.Pairs)}),Sw:=(p0.Sw++[(zd.mk 1 p1 0 a.Su 0 0 0 0 0 0 (zh.mk 0 0 0 0) (zk.mk 0 false 0 false 0 0) 0 0)])} p1).bind λf=>
   some f
  else
   (((if (b.RS==0) then
    some (b.RS==0)
   else
    some (b.RS==1)).bind λg=>
   if g then
    if (b.RS==0) then
     (xK {p0 with Sw:=(p0.Sw++[(zd.mk 1 p1 0 a.Su 0 0 0 0 0 0 (zh.mk 0 0 0 0) (zk.mk 0 false 0 false 0 0) 0 0)])} ([b.Item])).bind λh=>
     if h then
      (qX {p0 with or:=(p0.or.set (Int.toNat p1) {a with Id:=(zx.mk 2 a.Id.N a.Id.SD a.Id.Pairs)}),Sw:=(p0.Sw++[(zd.mk 1 p1 0 a.Su 0 0 0 0 0 0 (zh.mk 0 0 0 0) (zk.mk 0 false 0 false 0 0) 0 0)])} p1).bind λj=>
      some (.inr j)
     else
      (mkLen 1 48).bind λl=>
      (jL (dP p1 b) (λ(n:(List zc))=>n) 1 0 p0.Fd).bind λq=>
      some (.inl ({a with Sd:=1,Id:=(zx.mk a.Id.E a.Id.N (List.replicate l (zk.mk 0 false 0 false 0 0)) a.Id.Pairs)},q,p0.RW))
    else
     (if decide (((b.Sy).length:Int)<1) then
      some true
     else
      if decide (((b.Sy).length:Int)>16) then
       some true
      else
       (xK {p0 with Sw:=(p0.Sw++[(zd.mk 1 p1 0 a.Su 0 0 0 0 0 0 (zh.mk 0 0 0 0) (zk.mk 0 false 0 false 0 0) 0 0)])} b.Sy).bind λv=>
       some v).bind λz=>
     if z then
      (qX {p0 with or:=(p0.or.set (Int.toNat p1) {a with Id:=(zx.mk 2 a.Id.N a.Id.SD a.Id.Pairs)}),Sw:=(p0.Sw++[(zd.mk 1 p1 0 a.Su 0 0 0 0 0 0 (zh.mk 0 0 0 0) (zk.mk 0 false 0 false 0 0) 0 0)])} p1).bind λA=>
      some (.inr A)
     else
      (mkLen ((b.Sy).length:Int) 48).bind λB=>
      ((room (b.Sy).length 1).bind λS=>
      jL (gT p1 b) (λ(C:(List zc))=>C) (b.Sy).length 0 p0.Fd).bind λD=>
      some (.inl ({a with Sd:=((b.Sy).length:Int),Id:=(zx.mk a.Id.E a.Id.N (List.replicate B (zk.mk 0 false 0 false 0 0)) a.Id.Pairs)},D,p0.RW))
   else
    if (b.RS==2) then
     if (decide (b.SE<0)||decide (b.SE>=((p0.Sk.Maps).length:Int))) then
      (qX {p0 with or:=(p0.or.set (Int.toNat p1) {a with Id:=(zx.mk 2 a.Id.N a.Id.SD a.Id.Pairs)}),Sw:=(p0.Sw++[(zd.mk 1 p1 0 a.Su 0 0 0 0 0 0 (zh.mk 0 0 0 0) (zk.mk 0 false 0 false 0 0) 0 0)])} p1).bind λF=>
      some (.inr F)
     else
      (mkLen ((p0.Fd).length:Int) 24).bind λG=>
      (jL (dQ p1 b) (λ(H:(List zc))=>H) (p0.Fd).length 0 p0.Fd).bind λI=>
      some (.inl ({a with Sd:=((p0.Fd).length:Int),parts:=(List.replicate G [])},I,p0.RW))
    else
     if (b.RS==3) then
      if (decide (b.SG<0)||decide (b.SG>=((p0.RN).length:Int))) then
       (qX {p0 with or:=(p0.or.set (Int.toNat p1) {a with Id:=(zx.mk 2 a.Id.N a.Id.SD a.Id.Pairs)}),Sw:=(p0.Sw++[(zd.mk 1 p1 0 a.Su 0 0 0 0 0 0 (zh.mk 0 0 0 0) (zk.mk 0 false 0 false 0 0) 0 0)])} p1).bind λJ=>
       some (.inr J)
      else
       (idx p0.RN b.SG).bind λK=>
       (vL K b.Sl p0.SH).bind λc=>
       if (c.2.1==0) then
        (room ((p0.Sw++[(zd.mk 1 p1 0 a.Su 0 0 0 0 0 0 (zh.mk 0 0 0 0) (zk.mk 0 false 0 false 0 0) 0 0)]).length+([(zd.mk 4 p1 0 a.Su 0 c.1 b.SG 0 0 0 (zh.mk 0 0 0 0) (zk.mk 0 false 0 false 0 0) 0 0)]).length) 176).bind λT=>
        if ((c.2.1 !=0)||(!a.waits)) then
         (qX {p0 with or:=(p0.or.set (Int.toNat p1) {a with Id:=(zx.mk c.2.1 c.1 a.Id.SD a.Id.Pairs)}),RN:=(p0.RN.set (Int.toNat b.SG) c.2.2.1),Sw:=((p0.Sw++[(zd.mk 1 p1 0 a.Su 0 0 0 0 0 0 (zh.mk 0 0 0 0) (zk.mk 0 false 0 false 0 0) 0 0)])++[(zd.mk 4 p1 0 a.Su 0 c.1 b.SG 0 0 0 (zh.mk 0 0 0 0) (zk.mk 0 false 0 false 0 0) 0 0)]),SH:=c.2.2.2} p1).bind λL=>
         some (.inr L)
        else
         some (.inr {p0 with or:=(p0.or.set (Int.toNat p1) {a with Id:=(zx.mk c.2.1 c.1 a.Id.SD a.Id.Pairs)}),RN:=(p0.RN.set (Int.toNat b.SG) c.2.2.1),Sw:=((p0.Sw++[(zd.mk 1 p1 0 a.Su 0 0 0 0 0 0 (zh.mk 0 0 0 0) (zk.mk 0 false 0 false 0 0) 0 0)])++[(zd.mk 4 p1 0 a.Su 0 c.1 b.SG 0 0 0 (zh.mk 0 0 0 0) (zk.mk 0 false 0 false 0 0) 0 0)]),SH:=c.2.2.2})
       else
        if ((c.2.1 !=0)||(!a.waits)) then
         (qX {p0 with or:=(p0.or.set (Int.toNat p1) {a with Id:=(zx.mk c.2.1 a.Id.N a.Id.SD a.Id.Pairs)}),RN:=(p0.RN.set (Int.toNat b.SG) c.2.2.1),Sw:=(p0.Sw++[(zd.mk 1 p1 0 a.Su 0 0 0 0 0 0 (zh.mk 0 0 0 0) (zk.mk 0 false 0 false 0 0) 0 0)]),SH:=c.2.2.2} p1).bind λM=>
         some (.inr M)
        else
         some (.inr {p0 with or:=(p0.or.set (Int.toNat p1) {a with Id:=(zx.mk c.2.1 a.Id.N a.Id.SD a.Id.Pairs)}),RN:=(p0.RN.set (Int.toNat b.SG) c.2.2.1),Sw:=(p0.Sw++[(zd.mk 1 p1 0 a.Su 0 0 0 0 0 0 (zh.mk 0 0 0 0) (zk.mk 0 false 0 false 0 0) 0 0)]),SH:=c.2.2.2})
     else
      (if (b.RS==4) then
       some (b.RS==4)
      else
       if (b.RS==5) then
        some (b.RS==5)
       else
        if (b.RS==6) then
         some (b.RS==6)
        else
         if (b.RS==7) then
          some (b.RS==7)
         else
          if (b.RS==8) then
           some (b.RS==8)
          else
           if (b.RS==9) then
            some (b.RS==9)
           else
            some (b.RS==10)).bind λO=>
      if O then
       (room (p0.RW.length+([(zB.mk p1 b 0)]).length) 144).bind λU=>
       some (.inl ({a with Sd:=1},p0.Fd,(p0.RW++[(zB.mk p1 b 0)])))
      else
       (qX {p0 with or:=(p0.or.set (Int.toNat p1) {a with Id:=(zx.mk 2 a.Id.N a.Id.SD a.Id.Pairs)}),Sw:=(p0.Sw++[(zd.mk 1 p1 0 a.Su 0 0 0 0 0 0 (zh.mk 0 0 0 0) (zk.mk 0 false 0 false 0 0) 0 0)])} p1).bind λP=>
       some (.inr P)):Option ((ze×(List zc)×(List zB))⊕za)).bind λQ=>match Q with
    |.inl d=>
     some {p0 with or:=(p0.or.set (Int.toNat p1) (ze.mk d.1.Sv d.1.Su true d.1.Sd (zx.mk 0 d.1.Id.N d.1.Id.SD d.1.Id.Pairs) d.1.parts d.1.Se)),Fd:=d.2.1,RW:=d.2.2,Sw:=(p0.Sw++[(zd.mk 1 p1 0 a.Su 0 0 0 0 0 0 (zh.mk 0 0 0 0) (zk.mk 0 false 0 false 0 0) 0 0)])}
    |.inr r=>some r
def xv(p0:zm):Option (Int×zZ):=
 some (p0.SC.hook,p0.SC.SI)
def ki(p0:zo)(p2:List Int)(b:Nat)(again:Unit->Option (Unit⊕(Int×zo)))(c:Unit):Option (Unit⊕(Int×zo)):=
 (idx p2 (b:Int)).bind λa=>
 if (decide (a<0)||decide (a>=((p0.RT).length:Int))) then
  some (.inr (2,p0))
 else
  again ()
def kj(p0:zo)(p2:List Int)(a:Nat)(again:Unit->Option (Unit⊕(Int×zo)))(d:Unit):Option (Unit⊕(Int×zo)):=
 (idx p2 (a:Int)).bind λb=>
 (idx p0.RT b).bind λc=>
 if (c.RX==2) then
  some (.inr (43,p0))
 else
  again ()
def kn(p1:Int)(p2:List Int)(c:Nat)(again:zo->Option zo)(a:zo):Option zo:=
 (idx p2 (c:Int)).bind λb=>
 (idx a.RT b).bind λd=>
 again (zo.mk (a.RT.set (Int.toNat b) (qm.mk p1 d.Tn)) a.LE)
def fz(p0:zo)(p1:Int)(p2:List Int):Option (Int×zo):=
 (jL (ki p0 p2) (λ(e:Unit)=>(.inl ())) (p2).length 0 ()).bind λa=>match a with
  |.inl f=>
   (jL (kj p0 p2) (λ(g:Unit)=>(.inl ())) (p2).length 0 ()).bind λb=>match b with
    |.inl h=>
     (jL (kn p1 p2) (λ(c:zo)=>c) (p2).length 0 p0).bind λd=>
     some (0,d)
    |.inr r=>some r
  |.inr r=>some r
def bm(p0:zo)(p1:List Int):Option (Int×zo):=
 (fz p0 2 p1).bind λa=>
 some (a.1,a.2)
def bL(p0:zt)(g0:zP):Option (zZ×Bool×zt):=
 if (((p0.waiting).length:Int)==0) then
  some ((zZ.mk 0 (qQ.mk 0 0)),false,p0)
 else
  (idx p0.waiting 0).bind λa=>
  (cut p0.waiting 1 (p0.waiting.length:Int)).bind λb=>
  some (a,true,(zt.mk p0.room p0.Tu b (xG.mk p0.counts.Tp p0.counts.Tw (w64 (p0.counts.TU+1)) p0.counts.Tx p0.counts.Tv)))
def vR(p0:zm)(p1:Int)(p2:zZ):Option (Int×zm):=
 if (decide (p1<0)||decide (p1>=4)) then
  some (2,p0)
 else
  if (p0.RX !=0) then
   some (42,p0)
  else
   some (0,{p0 with RX:=1,SC:=(bI.mk p1 p2 0 0 0 none)})
def je(p0:zz)(p1:Int):Option Bool:=
 some (decide (p1>=0)&&decide (p1<((p0.Sc).length:Int)))
def jf(p0:zz)(p1:Int):Option Bool:=
 (idx p0.Sc p1).bind λa=>
 some (decide (a.Sq>0))
def jl(p0:zz)(p1:Int):Option (Int×Int×Bool):=
 ((je p0 p1).bind λb=>
 if (!b) then
  some true
 else
  (jf p0 p1).bind λc=>
  some (!c)).bind λd=>
 if d then
  some (0,0,false)
 else
  (idx p0.Sc p1).bind λa=>
  some (a.Sq,a.prog,true)
def fa(p0:Int):Option Bool:=
 some (decide (p0>=0)&&decide (p0<4))
def vS(p0:zX)(p1:List Int)(a:Nat)(again:Unit->Option (Unit⊕(Int×zX)))(d:Unit):Option (Unit⊕(Int×zX)):=
 (idx p1 (a:Int)).bind λb=>
 (fa b).bind λc=>
 if (!c) then
  some (.inr (2,p0))
 else
  again ()
def vT(p1:List Int)(c:Nat)(again:zX->Option zX)(a:zX):Option zX:=
 (idx p1 (c:Int)).bind λd=>
 (ain 4 d).bind λb=>
 again (zX.mk (aset a.Sc b (qz.mk (a.Sc b).TV (vc ((a.Sc b).Tl+1)) (a.Sc b).TD (a.Sc b).Calls (a.Sc b).Sum)))
def vU(p0:zX)(p1:List Int):Option (Int×zX):=
 (jL (vS p0 p1) (λ(d:Unit)=>(.inl ())) (p1).length 0 ()).bind λa=>match a with
  |.inl e=>
   (jL (vT p1) (λ(b:zX)=>b) (p1).length 0 p0).bind λc=>
   some (0,c)
  |.inr r=>some r
def bV(p0:zm):Option zm:=
 some {p0 with RX:=0,SC:=(bI.mk 0 (zZ.mk 0 (qQ.mk 0 0)) 0 0 0 none)}
def xN(p0:zm):Option (Int×zm):=
 if (p0.RX !=1) then
  some (41,p0)
 else
  (vU p0.Tq ([p0.SC.hook])).bind λa=>
  (bV {p0 with Tq:=a.2}).bind λb=>
  some (0,b)
def ja(p0:List Int):Option (List Int):=
 (room (([]:List Int).length+p0.length) 8).bind λa=>
 some (([]:List Int)++p0)
def zR(p0:List zf):Option (List zf):=
 (room (([]:List zf).length+p0.length) 40).bind λa=>
 some (([]:List zf)++p0)
def qO(p0:zb)(p1:Int):Option (zD×Bool):=
 if (!(jz p0.Sj p1).isSome) then
  some ((zD.mk ([]:List Int) ([]:List zf)),false)
 else
  (jz p0.Sj p1).bind λa=>
  (ja a.module.Maps).bind λb=>
  (zR a.module.Code).bind λc=>
  some ((zD.mk b c),true)
def vj(p0:zE)(p1:Int):Option Bool:=
 some (decide (p1>=0)&&decide (p1<((p0.in_).length:Int)))
def vk(p0:zE)(p1:Int):Option (Int×Int×zE):=
 (vj p0 p1).bind λa=>
 if (!a) then
  some (0,2,p0)
 else
  (idx p0.in_ p1).bind λb=>
  if (b !=0) then
   some (0,42,p0)
  else
   some (p0.Tt,0,(zE.mk p0.Tt (p0.in_.set (Int.toNat p1) p0.Tt)))
def oA(p0:List Int)(b:Nat)(again:Unit->Option (Unit⊕Bool))(f:Unit):Option (Unit⊕Bool):=
 (idx p0 (b:Int)).bind λa=>
 (if decide (a<0) then
  some true
 else
  if decide (a>=4) then
   some true
  else
   (cut p0 0 (b:Int)).bind λc=>
   (zY c a).bind λd=>
   some d).bind λe=>
 if e then
  some (.inr false)
 else
  again ()
def ko(p0:List Int):Option Bool:=
 (jL (oA p0) (λ(b:Unit)=>(.inl ())) (p0).length 0 ()).bind λa=>match a with
  |.inl c=>
   some (decide (((p0).length:Int)<=4))
  |.inr r=>some r
def eV(p0:Int):Option (qY×Bool):=
 if (decide (p0<0)||decide (p0>=23)) then
  some ((qY.mk ByteArray.empty ByteArray.empty),false)
 else
  (idx xX p0).bind λa=>
  some (a,true)
def eg(p0:Int):Option Bool:=
 some (decide (p0>=0)&&decide (p0<8))
def cQ(p0:Int)(p1:Int)(p2:Int):Option Bool:=
 some (decide (p0>=p1)&&decide (p0<=p2))
def iC(p0:zf)(c:qY×Bool)(d:Nat)(again:(Bool×zf)->Option (Bool×zf))(a:Bool×zf):Option (Bool×zf):=
 (uo c.1.SR (d:Int)).bind λb=>
 if (b==100) then
  if a.1 then
   (eg p0.D).bind λe=>
   again (e,(zf.mk a.2.Op 0 a.2.A a.2.B a.2.SN))
  else
   again (false,(zf.mk a.2.Op 0 a.2.A a.2.B a.2.SN))
 else
  if (b==97) then
   if a.1 then
    (eg p0.A).bind λf=>
    again (f,(zf.mk a.2.Op a.2.D 0 a.2.B a.2.SN))
   else
    again (false,(zf.mk a.2.Op a.2.D 0 a.2.B a.2.SN))
  else
   if (b==115) then
    if (p0.B==8) then
     again (a.1,(zf.mk a.2.Op a.2.D a.2.A 0 0))
    else
     if a.1 then
      (eg p0.B).bind λg=>
      again (g,(zf.mk a.2.Op a.2.D a.2.A 0 a.2.SN))
     else
      again (false,(zf.mk a.2.Op a.2.D a.2.A 0 a.2.SN))
   else
    if (b==102) then
     if a.1 then
      (cQ p0.SN 0 1).bind λh=>
      again (h,(zf.mk a.2.Op a.2.D a.2.A a.2.B 0))
     else
      again (false,(zf.mk a.2.Op a.2.D a.2.A a.2.B 0))
    else
     if (b==109) then
      if a.1 then
       (cQ p0.SN 0 3).bind λj=>
       again (j,(zf.mk a.2.Op a.2.D a.2.A a.2.B 0))
      else
       again (false,(zf.mk a.2.Op a.2.D a.2.A a.2.B 0))
     else
      if (b==104) then
       if a.1 then
        (cQ p0.SN 0 6).bind λl=>
        again (l,(zf.mk a.2.Op a.2.D a.2.A a.2.B 0))
       else
        again (false,(zf.mk a.2.Op a.2.D a.2.A a.2.B 0))
      else
       if (b==110) then
        if a.1 then
         (cQ p0.SN 1 255).bind λn=>
         again (n,(zf.mk a.2.Op a.2.D a.2.A a.2.B 0))
        else
         again (false,(zf.mk a.2.Op a.2.D a.2.A a.2.B 0))
       else
        if (b==106) then
         if a.1 then
          (cQ p0.D 0 63).bind λq=>
          again (q,(zf.mk a.2.Op 0 a.2.A a.2.B a.2.SN))
         else
          again (false,(zf.mk a.2.Op 0 a.2.A a.2.B a.2.SN))
        else
         if (b==98) then
          if a.1 then
           (cQ p0.D 1 63).bind λv=>
           again (v,(zf.mk a.2.Op 0 a.2.A a.2.B a.2.SN))
          else
           again (false,(zf.mk a.2.Op 0 a.2.A a.2.B a.2.SN))
         else
          again (a.1,a.2)
def vV(p0:zf):Option Bool:=
 (eV p0.Op).bind λb=>
 if (!b.2) then
  some false
 else
  ((room b.1.SR.size 1).bind λe=>
  jL (iC p0 b) (λ(c:Bool×zf)=>(c.1,c.2)) b.1.SR.size 0 (b.2,{p0 with Op:=0})).bind λa=>
  (if a.1 then
   some ((a.2.Op==0)&&((a.2.D==0)&&((a.2.A==0)&&((a.2.B==0)&&((a.2.SN==0)&&true)))))
  else
   some false).bind λd=>
  some d
def rG(p0:qY)(p1:Int)(a:Nat)(again:Unit->Option (Unit⊕Bool))(c:Unit):Option (Unit⊕Bool):=
 (uo p0.SR (a:Int)).bind λb=>
 if (b==p1) then
  some (.inr true)
 else
  again ()
def jv(p0:qY)(p1:Int):Option Bool:=
 ((room p0.SR.size 1).bind λb=>
 jL (rG p0 p1) (λ(c:Unit)=>(.inl ())) p0.SR.size 0 ()).bind λa=>match a with
  |.inl d=>
   some false
  |.inr r=>some r
def kU(p0:zf):Option (Int×Bool×Bool):=
 (vV p0).bind λb=>
 if (!b) then
  some (0,false,false)
 else
  (eV p0.Op).bind λa=>
  (jv a.1 106).bind λc=>
  if c then
   some (w64 (p0.D+1),true,(p0.Op !=15))
  else
   (jv a.1 98).bind λd=>
   if d then
    some (w64 (0-p0.D),true,true)
   else
    some (0,false,(p0.Op !=22))
def lX(p0:List zf)(a:Nat)(again:Unit->Option (Unit⊕Bool))(d:Unit):Option (Unit⊕Bool):=
 (idx p0 (a:Int)).bind λb=>
 (vV b).bind λc=>
 if (!c) then
  some (.inr false)
 else
  again ()
def fI(p0:List zf):Option Bool:=
 (jL (lX p0) (λ(b:Unit)=>(.inl ())) (p0).length 0 ()).bind λa=>match a with
  |.inl c=>
   some true
  |.inr r=>some r
abbrev yC:=Unit⊕(Int×Int)
def nt(p0:List zf)(a:Nat)(again:Unit->Option yC)(e:Unit):Option yC:=
 (idx p0 (a:Int)).bind λc=>
 (kU c).bind λb=>
 (fI ([c])).bind λd=>
 if (!d) then
  some (.inr ((a:Int),12))
 else
  if (b.2.1&&(decide ((w64 ((a:Int)+b.1))<0)||decide ((w64 ((a:Int)+b.1))>=((p0).length:Int)))) then
   some (.inr ((a:Int),30))
  else
   if (b.2.2&&((a:Int)==(w64 (((p0).length:Int)-1)))) then
    some (.inr ((a:Int),36))
   else
    again ()
def gU(p0:List zf):Option (Int×Int):=
 (jL (nt p0) (λ(b:Unit)=>(.inl ())) (p0).length 0 ()).bind λa=>match a with
  |.inl c=>
   some (0,0)
  |.inr r=>some r
def oB(p0:List zf)(a:Nat)(again:(List qv)->Option (List qv))(c:(List qv)):Option (List qv):=
 (idx p0 (a:Int)).bind λb=>
 if (b.Op==20) then
  (room (c.length+([(qv.mk (w64 ((a:Int)-b.D)) (a:Int) b.SN)]).length) 24).bind λd=>
  again (c++[(qv.mk (w64 ((a:Int)-b.D)) (a:Int) b.SN)])
 else
  again c
def fb(p0:List zf):Option (List qv):=
 (jL (oB p0) (λ(a:(List qv))=>a) (p0).length 0 ([]:List qv)).bind λb=>
 some b
def nM(p0:qv)(p1:Int):Option Bool:=
 some (decide (p1>=p0.Ti)&&decide (p1<=p0.At))
def iM(a:qv)(c:List qv)(d:Nat)(again:Unit->Option yC)(e:Unit):Option yC:=
 (idx c (d:Int)).bind λb=>
 if (decide (b.At>=a.Ti)&&decide (b.Ti<a.Ti)) then
  some (.inr (a.At,31))
 else
  again ()
def fA(a:(List qv))(b:Nat)(again:Unit->Option yC)(f:Unit):Option yC:=
 (idx a (b:Int)).bind λd=>
 (cut a 0 (b:Int)).bind λc=>
 (jL (iM d c) (λ(g:Unit)=>(.inl ())) (c).length 0 ()).bind λe=>match e with
  |.inl h=>
   again ()
  |.inr r=>some (.inr r)
def iN(d:(List qv))(a:Nat)(b:Int×Bool×Bool)(e:Nat)(again:Unit->Option yC)(j:Unit):Option yC:=
 (idx d (e:Int)).bind λc=>
 (if b.2.1 then
  if decide (b.1>0) then
   (nM c (a:Int)).bind λf=>
   if (!f) then
    (nM c (w64 ((a:Int)+b.1))).bind λg=>
    if g then
     some ((w64 ((a:Int)+b.1)) !=c.Ti)
    else
     some false
   else
    some false
  else
   some false
 else
  some false).bind λh=>
 if h then
  some (.inr ((a:Int),31))
 else
  again ()
def iO(p0:List zf)(a:(List qv))(b:Nat)(again:Unit->Option yC)(f:Unit):Option yC:=
 (idx p0 (b:Int)).bind λc=>
 (kU c).bind λd=>
 (jL (iN a b d) (λ(g:Unit)=>(.inl ())) (a).length 0 ()).bind λe=>match e with
  |.inl h=>
   again ()
  |.inr r=>some (.inr r)
def gV(p0:List zf):Option (Int×Int):=
 (fb p0).bind λa=>
 (jL (fA a) (λ(d:Unit)=>(.inl ())) (a).length 0 ()).bind λb=>match b with
  |.inl e=>
   (jL (iO p0 a) (λ(f:Unit)=>(.inl ())) (p0).length 0 ()).bind λc=>match c with
    |.inl g=>
     some (0,0)
    |.inr r=>some r
  |.inr r=>some r
def lY(c:(List qv))(d:Nat)(e:Nat)(again:Int->Option Int)(a:Int):Option Int:=
 (idx c (e:Int)).bind λb=>
 (nM b (d:Int)).bind λf=>
 if f then
  again (na (w64 (a*(w64 (b.TC+1)))) 257)
 else
  again a
def rq(a:(List qv))(b:Nat)(again:Int->Option Int)(c:Int):Option Int:=
 (jL (lY a b) (λ(d:Int)=>d) (a).length 0 1).bind λe=>
 again (na (w64 (c+e)) 257)
def lZ(p0:List zf):Option Int:=
 (fb p0).bind λa=>
 (jL (rq a) (λ(b:Int)=>b) (p0).length 0 0).bind λc=>
 some c
def fc(p0:List zf):Option (Int×Int):=
 if (((p0).length:Int)==0) then
  some (0,10)
 else
  if decide (((p0).length:Int)>64) then
   some (0,11)
  else
   (gU p0).bind λa=>
   if (a.2 !=0) then
    some (a.1,a.2)
   else
    (gV p0).bind λb=>
    if (b.2 !=0) then
     some (b.1,b.2)
    else
     (lZ p0).bind λc=>
     if decide (c>256) then
      some (0,32)
     else
      some (0,0)
def kr(p0:List zf):Option ((List qv)×Int):=
 (fc p0).bind λa=>
 if (a.2 !=0) then
  some (([]:List qv),a.2)
 else
  (fb p0).bind λb=>
  some (b,0)
def cR(p0:zf):Option (Int×Bool):=
 (vV p0).bind λa=>
 if (!a) then
  some (0,false)
 else
  (eV p0.Op).bind λb=>
  (jv b.1 100).bind λc=>
  if c then
   some (p0.D,true)
  else
   some (0,(p0.Op==21))
def cw :Option zg:=
 some (zg.mk 0 18446744073709551615)
def vg(p0:zg):Option zi:=
 some (zi.mk 1 p0 0)
def dj(p1:Int)(e:List zf)(f:Nat)(again:(List (Nat->zi))->Option (List (Nat->zi)))(a:(List (Nat->zi))):Option (List (Nat->zi)):=
 (idx e (f:Int)).bind λg=>
 (cR g).bind λd=>
 if (!d.2) then
  again a
 else
  (idx a p1).bind λb=>
  (ain 8 d.1).bind λc=>
  if ((b c).RS==1) then
   cw.bind λh=>
   (vg h).bind λj=>
   again (a.set (Int.toNat p1) (aset b c j))
  else
   again (a.set (Int.toNat p1) (aset b c (zi.mk 0 (zg.mk 0 0) 0)))
def dl(p0:zj)(p1:Int)(d:Nat)(again:(List (Nat->zi))->Option zj)(b:(List (Nat->zi))):Option zj:=
 (idx p0.loops (d:Int)).bind λa=>
 if (a.Ti !=p1) then
  again b
 else
  (cut p0.Sn.Code a.Ti (w64 (a.At+1))).bind λc=>
  (jL (dj p1 c) (λ(e:(List (Nat->zi)))=>e) (c).length 0 b).bind λf=>
  again f
def xw(p0:zj)(p1:Int):Option zj:=
 (jL (dl p0 p1) (λ(a:(List (Nat->zi)))=>{p0 with came:=a}) (p0.loops).length 0 p0.came).bind λb=>
 some b
def kt(p0:zf):Option Bool:=
 (eV p0.Op).bind λa=>
 ((vV p0).bind λb=>
 if b then
  (jv a.1 115).bind λc=>
  some c
 else
  some false).bind λd=>
 some d
def kV(p0:Int):Option zg:=
 some (zg.mk p0 p0)
def eh(p0:zf)(p1:Nat->zi):Option zi:=
 if (p0.B==8) then
  (kV (vc p0.SN)).bind λa=>
  (vg a).bind λb=>
  some b
 else
  (ain 8 p0.B).bind λc=>
  some (p1 c)
def kX(p0:List zi)(a:Nat)(again:Unit->Option (Unit⊕Int))(c:Unit):Option (Unit⊕Int):=
 (idx p0 (a:Int)).bind λb=>
 if (b.RS !=1) then
  some (.inr 33)
 else
  again ()
def vM(p0:List zi):Option Int:=
 (jL (kX p0) (λ(b:Unit)=>(.inl ())) (p0).length 0 ()).bind λa=>match a with
  |.inl c=>
   some 0
  |.inr r=>some r
def vN(p0:zg):Option Bool:=
 some (decide (p0.Lo<=p0.Hi))
def dR(p0:zg)(p1:zg):Option Bool:=
 ((vN p0).bind λa=>
 if a then
  if decide (p1.Lo<=p0.Lo) then
   some (decide (p0.Hi<=p1.Hi))
  else
   some false
 else
  some false).bind λb=>
 some b
def gD(p0:zi):Option Int:=
 (dR p0.Sr (zg.mk 0 15)).bind λa=>
 if (!a) then
  some 35
 else
  some 0
def nu(p0:List Int)(b:Nat)(again:Unit->Option (Unit⊕Int))(c:Unit):Option (Unit⊕Int):=
 (idx p0 (b:Int)).bind λa=>
 if (a !=0) then
  some (.inr a)
 else
  again ()
def fd(p0:List Int):Option Int:=
 (jL (nu p0) (λ(b:Unit)=>(.inl ())) (p0).length 0 ()).bind λa=>match a with
  |.inl c=>
   some 0
  |.inr r=>some r
def ku(p0:zi)(p1:zi):Option Bool:=
 if (p1.RS==1) then
  (if (p0.RS==1) then
   (dR p0.Sr p1.Sr).bind λa=>
   some a
  else
   some false).bind λb=>
  some b
 else
  if (p1.RS==2) then
   some ((p0.RS==p1.RS)&&(((p0.Sr.Lo==p1.Sr.Lo)&&((p0.Sr.Hi==p1.Sr.Hi)&&true))&&((p0.SE==p1.SE)&&true)))
  else
   some true
def dm(p0:Int):Option (bT×Bool):=
 if (decide (p0<0)||decide (p0>=7)) then
  some ((bT.mk ByteArray.empty ByteArray.empty 0 0 false),false)
 else
  (idx aJ p0).bind λa=>
  some (a,true)
def gW(p0:Int):Option zi:=
 some (zi.mk 1 (zg.mk 0 p0) 0)
def A9(b:bT×Bool)(again:((List zi)×Nat)->Option (List zi))(a:(List zi)×Nat):Option (List zi):=
 if decide (a.2<b.1.TS.size) then
  if ((AU b.1.TS a.2)==104) then
   (room (a.1.length+([(zi.mk 2 (zg.mk 0 0) 0)]).length) 32).bind λe=>
   again ((a.1++[(zi.mk 2 (zg.mk 0 0) 0)]),(nE b.1.TS a.2))
  else
   if ((AU b.1.TS a.2)==115) then
    (gW 15).bind λc=>
    (room (a.1.length+([c]).length) 32).bind λf=>
    again ((a.1++[c]),(nE b.1.TS a.2))
   else
    (gW 18446744073709551615).bind λd=>
    (room (a.1.length+([d]).length) 32).bind λg=>
    again ((a.1++[d]),(nE b.1.TS a.2))
 else
  some a.1
def xY(fu:Nat)(p0:Int):Option (List zi):=
 (dm p0).bind λa=>
 (loop (A9 a) fu (([]:List zi),0)).bind λb=>
 some b
def kY(p1:List zi)(d:(List zi))(b:Nat)(again:Unit->Option (Unit⊕Int))(g:Unit):Option (Unit⊕Int):=
 (idx d (b:Int)).bind λa=>
 (idx p1 (b:Int)).bind λc=>
 if (a.RS !=c.RS) then
  some (.inr 33)
 else
  (if (a.RS==1) then
   (dR c.Sr a.Sr).bind λe=>
   some (!e)
  else
   some false).bind λf=>
  if f then
   some (.inr 35)
  else
   again ()
def fe(fu:Nat)(p0:Int)(p1:List zi):Option Int:=
 (dm p0).bind λb=>
 if (!b.2) then
  some 34
 else
  (xY fu p0).bind λa=>
  if (((a).length:Int) !=((p1).length:Int)) then
   some 2
  else
   (jL (kY p1 a) (λ(d:Unit)=>(.inl ())) (a).length 0 ()).bind λc=>match c with
    |.inl e=>
     some 0
    |.inr r=>some r
def gX(p0:Int):Option (zi×Bool):=
 (dm p0).bind λa=>
 if (!a.2) then
  some ((zi.mk 0 (zg.mk 0 0) 0),false)
 else
  (gW a.1.most).bind λb=>
  some (b,true)
def gt(p0:Int)(p1:Int)(p2:Int):Option (Int×Bool):=
 if (p0==1) then
  some (vc (p1+p2),true)
 else
  if (p0==2) then
   some (vc (p1-p2),true)
  else
   if (p0==3) then
    some (vc (p1*p2),true)
   else
    if (p0==4) then
     if (p2==0) then
      some (0,true)
     else
      (nz p2).bind λa=>
      some (vc (p1.tdiv p2),true)
    else
     if (p0==5) then
      if (p2==0) then
       some (p1,true)
      else
       (nz p2).bind λb=>
       some (p1.tmod p2,true)
     else
      if (p0==6) then
       some (wl .u64 p1 p2,true)
      else
       if (p0==7) then
        some (bOr .u64 p1 p2,true)
       else
        if (p0==8) then
         some (Mq .u64 p1 p2,true)
        else
         if (p0==9) then
          (nn p2).bind λc=>
          some (wm .u64 p1 p2,true)
         else
          if (p0==10) then
           (nn p2).bind λd=>
           some (iI .u64 p1 p2,true)
          else
           some (0,false)
def xU(p0:zg):Option Bool:=
 some (p0.Lo==p0.Hi)
def kZ(p0:zg)(p1:zg):Option zg:=
 (FY p0.Hi p1.Hi 0).bind λa=>
 if decide (a.2>0) then
  cw.bind λb=>
  some b
 else
  some (zg.mk (vc (p0.Lo+p1.Lo)) a.1)
def kx(p0:Int)(p1:Int):Option (Int×Int):=
 some (vc ((vc ((vc ((iI .u64 p0 32)*(iI .u64 p1 32)))+(iI .u64 (vc ((vc ((iI .u64 p0 32)*(wl .u64 p1 4294967295)))+(iI .u64 (vc ((wl .u64 p0 4294967295)*(wl .u64 p1 4294967295))) 32))) 32)))+(iI .u64 (vc ((wl .u64 (vc ((vc ((iI .u64 p0 32)*(wl .u64 p1 4294967295)))+(iI .u64 (vc ((wl .u64 p0 4294967295)*(wl .u64 p1 4294967295))) 32))) 4294967295)+(vc ((wl .u64 p0 4294967295)*(iI .u64 p1 32))))) 32)),vc (p0*p1))
def cx(p0:zg)(p1:zg):Option zg:=
 (kx p0.Hi p1.Hi).bind λa=>
 if decide (a.1>0) then
  cw.bind λb=>
  some b
 else
  some (zg.mk (vc (p0.Lo*p1.Lo)) a.2)
def cy(p0:zg)(p1:zg):Option zg:=
 if (p1.Lo==0) then
  some (zg.mk 0 p0.Hi)
 else
  (nz p1.Hi).bind λa=>
  (nz p1.Lo).bind λb=>
  some (zg.mk (vc (p0.Lo.tdiv p1.Hi)) (vc (p0.Hi.tdiv p1.Lo)))
def gY(p0:zg)(p1:zg):Option zg:=
 if (p1.Lo==0) then
  some (zg.mk 0 p0.Hi)
 else
  if decide (p0.Hi<p1.Lo) then
   some p0
  else
   some (zg.mk 0 (na p0.Hi (vc (p1.Hi-1))))
def gE(p0:Int):Option Int:=
 (if decide (p0>=4294967296) then
  some (iI .u64 p0 32,32)
 else
  some (p0,0)).bind λa=>
 (if decide (a.1>=65536) then
  some (iI .u64 a.1 16,w64 (a.2+16))
 else
  some (a.1,a.2)).bind λb=>
 (if decide (b.1>=256) then
  some (iI .u64 b.1 8,w64 (b.2+8))
 else
  some (b.1,b.2)).bind λc=>
 (uo (⟨[0,1,2,2,3,3,3,3,4,4,4,4,4,4,4,4,5,5,5,5,5,5,5,5,5,5,5,5,5,5,5,5,6,6,6,6,6,6,6,6,6,6,6,6,6,6,6,6,6,6,6,6,6,6,6,6,6,6,6,6,6,6,6,6,7,7,7,7,7,7,7,7,7,7,7,7,7,7,7,7,7,7,7,7,7,7,7,7,7,7,7,7,7,7,7,7,7,7,7,7,7,7,7,7,7,7,7,7,7,7,7,7,7,7,7,7,7,7,7,7,7,7,7,7,7,7,7,7,8,8,8,8,8,8,8,8,8,8,8,8,8,8,8,8,8,8,8,8,8,8,8,8,8,8,8,8,8,8,8,8,8,8,8,8,8,8,8,8,8,8,8,8,8,8,8,8,8,8,8,8,8,8,8,8,8,8,8,8,8,8,8,8,8,8,8,8,8,8,8,8,8,8,8,8,8,8,8,8,8,8,8,8,8,8,8,8,8,8,8,8,8,8,8,8,8,8,8,8,8,8,8,8,8,8,8,8,8,8,8,8,8,8,8,8,8,8,8,8,8,8,8,8,8,8,8,8].toArray⟩) (IntKind.u8.wrap c.1)).bind λd=>
 some (w64 (c.2+(w64 d)))
def fJ(p0:Int):Option Int:=
 (gE p0).bind λa=>
 (nn a).bind λb=>
 some (vc ((wm .u64 1 a)-1))
def gZ(p0:zg)(p1:zg):Option zg:=
 ((xU p1).bind λa=>
 if (!a) then
  some true
 else
  (gE p0.Hi).bind λb=>
  if decide (b>0) then
   if decide (p1.Lo>64) then
    some true
   else
    (gE p0.Hi).bind λc=>
    some (decide ((vc ((vc c)+p1.Lo))>64))
  else
   some false).bind λd=>
 if d then
  cw.bind λe=>
  some e
 else
  (nn p1.Lo).bind λf=>
  (nn p1.Lo).bind λg=>
  some (zg.mk (wm .u64 p0.Lo p1.Lo) (wm .u64 p0.Hi p1.Lo))
def nO(p0:Int)(p1:zg)(p2:zg):Option (zg×Bool):=
 (gt p0 p1.Lo p2.Lo).bind λa=>
 (if (!a.2) then
  some true
 else
  (vN p1).bind λb=>
  if (!b) then
   some true
  else
   (vN p2).bind λc=>
   some (!c)).bind λd=>
 if d then
  some ((zg.mk 0 0),false)
 else
  ((xU p1).bind λe=>
  if e then
   (xU p2).bind λf=>
   some f
  else
   some false).bind λg=>
  if g then
   (kV a.1).bind λh=>
   some (h,true)
  else
   if (p0==1) then
    (kZ p1 p2).bind λj=>
    some (j,true)
   else
    if (p0==2) then
     if decide (p1.Lo<p2.Hi) then
      cw.bind λl=>
      some (l,true)
     else
      some ((zg.mk (vc (p1.Lo-p2.Hi)) (vc (p1.Hi-p2.Lo))),true)
    else
     if (p0==3) then
      (cx p1 p2).bind λn=>
      some (n,true)
     else
      if (p0==4) then
       (cy p1 p2).bind λq=>
       some (q,true)
      else
       if (p0==5) then
        (gY p1 p2).bind λv=>
        some (v,true)
       else
        if (p0==6) then
         some ((zg.mk 0 (na p1.Hi p2.Hi)),true)
        else
         if (p0==7) then
          (fJ (bOr .u64 p1.Hi p2.Hi)).bind λz=>
          some ((zg.mk (pS p1.Lo p2.Lo) z),true)
         else
          if (p0==8) then
           (fJ (bOr .u64 p1.Hi p2.Hi)).bind λA=>
           some ((zg.mk 0 A),true)
          else
           if (p0==9) then
            (gZ p1 p2).bind λB=>
            some (B,true)
           else
            (nn p2.Hi).bind λC=>
            (nn p2.Lo).bind λD=>
            some ((zg.mk (iI .u64 p1.Lo p2.Hi) (iI .u64 p1.Hi p2.Lo)),true)
def eF(p0:zj)(p1:Int)(a:zf×(Nat->zi))(c:Nat)(again:Unit->Option (Unit⊕((Nat->zi)×Int)))(f:Unit):Option (Unit⊕((Nat->zi)×Int)):=
 (ain 8 (c:Int)).bind λb=>
 (idx p0.came (w64 (p1-a.1.D))).bind λd=>
 (ku (a.2 b) (d b)).bind λe=>
 if (!e) then
  some (.inr (a.2,33))
 else
  again ()
def vu(fu:Nat)(p0:zj)(p1:Int):Option ((Nat->zi)×Int):=
 ((idx p0.Sn.Code p1).bind λf=>
 (idx p0.came p1).bind λg=>
 some (f,g)).bind λa=>
 (kt a.1).bind λh=>
 (if h then
  (eh a.1 a.2).bind λj=>
  some j
 else
  some (zi.mk 0 (zg.mk 0 0) 0)).bind λb=>
 (ain 8 a.1.A).bind λc=>
 if (a.1.Op==0) then
  if (b.RS==0) then
   some (a.2,33)
  else
   (ain 8 a.1.D).bind λl=>
   some ((aset a.2 l b),0)
 else
  if (a.1.Op==11) then
   cw.bind λn=>
   (vg n).bind λq=>
   (ain 8 a.1.D).bind λv=>
   (vM ([b])).bind λz=>
   (gD b).bind λB=>
   (fd ([z,B])).bind λC=>
   some ((aset a.2 v q),C)
  else
   if (a.1.Op==12) then
    (vM ([(a.2 c),b])).bind λE=>
    (gD b).bind λF=>
    (fd ([E,F])).bind λG=>
    some (a.2,G)
   else
    if (a.1.Op==13) then
     cw.bind λH=>
     (vg H).bind λI=>
     (ain 8 a.1.D).bind λJ=>
     some ((aset a.2 J I),0)
    else
     if (a.1.Op==14) then
      (ain 8 a.1.D).bind λd=>
      if decide (a.1.SN>=((p0.Sn.Maps).length:Int)) then
       some ((aset a.2 d (zi.mk 2 (zg.mk 0 0) a.1.SN)),35)
      else
       some ((aset a.2 d (zi.mk 2 (zg.mk 0 0) a.1.SN)),0)
     else
      if (a.1.Op==15) then
       some (a.2,0)
      else
       (if (a.1.Op==16) then
        some (a.1.Op==16)
       else
        if (a.1.Op==17) then
         some (a.1.Op==17)
        else
         if (a.1.Op==18) then
          some (a.1.Op==18)
         else
          some (a.1.Op==19)).bind λK=>
       if K then
        (vM ([(a.2 c),b])).bind λL=>
        some (a.2,L)
       else
        if (a.1.Op==20) then
         (vM ([(a.2 c)])).bind λe=>
         if (e !=0) then
          some (a.2,e)
         else
          (jL (eF p0 p1 a) (λ(W:Unit)=>(.inl ())) 8 0 ()).bind λM=>match M with
           |.inl X=>
            some (a.2,0)
           |.inr r=>some r
        else
         if (a.1.Op==21) then
          (xY fu a.1.SN).bind λN=>
          (cut (Hv 8 a.2) 1 (w64 (1+((N).length:Int)))).bind λO=>
          (fe fu a.1.SN O).bind λP=>
          (gX a.1.SN).bind λQ=>
          some ((aset a.2 0 Q.1),P)
         else
          if (a.1.Op==22) then
           (vM ([(a.2 c)])).bind λR=>
           some (a.2,R)
          else
           (nO a.1.Op (a.2 c).Sr b.Sr).bind λS=>
           (vg S.1).bind λT=>
           (ain 8 a.1.D).bind λU=>
           (vM ([(a.2 c),b])).bind λV=>
           some ((aset a.2 U T),V)
def rr(p0:List zg)(c:Nat)(again:zg->Option (zg⊕(zg×Bool)))(b:zg):Option (zg⊕(zg×Bool)):=
 (idx p0 (c:Int)).bind λa=>
 (vN a).bind λd=>
 if (!d) then
  some (.inr ((zg.mk 0 0),false))
 else
  again (zg.mk (na b.Lo a.Lo) (pS b.Hi a.Hi))
def ma(p0:List zg):Option (zg×Bool):=
 (jL (rr p0) (λ(a:zg)=>(.inl a)) (p0).length 0 (zg.mk 18446744073709551615 0)).bind λb=>match b with
  |.inl c=>
   if (((p0).length:Int)==0) then
    some ((zg.mk 0 0),false)
   else
    some (c,true)
  |.inr r=>some r
def fK(p0:zi)(p1:zi):Option zi:=
 if ((p0.RS !=p1.RS)||(p0.SE !=p1.SE)) then
  some (zi.mk 0 (zg.mk 0 0) 0)
 else
  if (p0.RS==1) then
   (ma ([p0.Sr,p1.Sr])).bind λa=>
   (vg a.1).bind λb=>
   some b
  else
   some p0
def dS(p1:Int)(p2:Nat->zi)(d:Nat)(again:zj->Option zj)(a:zj):Option zj:=
 (idx a.came p1).bind λc=>
 (ain 8 (d:Int)).bind λb=>
 (fK (c b) (p2 b)).bind λe=>
 again {a with came:=(a.came.set (Int.toNat p1) (aset c b e))}
def jc(p0:zj)(p1:Int)(p2:Nat->zi):Option zj:=
 (idx p0.any p1).bind λa=>
 if (!a) then
  (idx p0.came p1).bind λd=>
  some {p0 with came:=(p0.came.set (Int.toNat p1) p2),any:=(p0.any.set (Int.toNat p1) true)}
 else
  (jL (dS p1 p2) (λ(b:zj)=>b) 8 0 p0).bind λc=>
  some c
def bp(p0:Int)(p1:Int)(p2:Int):Option (Bool×Bool):=
 if (p0==16) then
  some ((p1==p2),true)
 else
  if (p0==17) then
   some ((p1 !=p2),true)
  else
   if (p0==18) then
    some (decide (p1<p2),true)
   else
    if (p0==19) then
     some (decide (p1>=p2),true)
    else
     some (false,false)
def mc(p0:List zg)(c:Nat)(again:zg->Option (zg⊕(zg×Bool)))(b:zg):Option (zg⊕(zg×Bool)):=
 (idx p0 (c:Int)).bind λa=>
 (vN a).bind λd=>
 if (!d) then
  some (.inr ((zg.mk 0 0),false))
 else
  again (zg.mk (pS b.Lo a.Lo) (na b.Hi a.Hi))
def eG(p0:List zg):Option (zg×Bool):=
 cw.bind λb=>
 (jL (mc p0) (λ(c:zg)=>(.inl c)) (p0).length 0 b).bind λd=>match d with
  |.inl a=>
   (if (((p0).length:Int)==0) then
    some true
   else
    (vN a).bind λe=>
    some (!e)).bind λf=>
   if f then
    some ((zg.mk 0 0),false)
   else
    some (a,true)
  |.inr r=>some r
def dT(p0:Int)(p1:zg)(p2:zg)(p3:Bool):Option (zg×Bool):=
 (bp p0 0 0).bind λd=>
 (if (!d.2) then
  some true
 else
  (vN p1).bind λe=>
  if (!e) then
   some true
  else
   (vN p2).bind λf=>
   some (!f)).bind λg=>
 if g then
  some ((zg.mk 0 0),false)
 else
  (xU p2).bind λh=>
  if (!h) then
   some (p1,true)
  else
   (if ((p0==18)&&p3) then
    some ((p0==18)&&p3)
   else
    if (p0==19) then
     some (!p3)
    else
     some false).bind λj=>
   if j then
    if (p2.Lo==0) then
     some ((zg.mk 0 0),false)
    else
     (eG ([p1,(zg.mk 0 (vc (p2.Lo-1)))])).bind λa=>
     some (a.1,a.2)
   else
    (if (p0==18) then
     some (p0==18)
    else
     some (p0==19)).bind λl=>
    if l then
     (eG ([p1,(zg.mk p2.Lo 18446744073709551615)])).bind λb=>
     some (b.1,b.2)
    else
     (if ((p0==16)&&p3) then
      some ((p0==16)&&p3)
     else
      if (p0==17) then
       some (!p3)
      else
       some false).bind λn=>
     if n then
      (eG ([p1,p2])).bind λc=>
      some (c.1,c.2)
     else
      if ((p1.Lo==p2.Lo)&&((p1.Hi==p2.Hi)&&true)) then
       some ((zg.mk 0 0),false)
      else
       if (p1.Lo==p2.Lo) then
        some ((zg.mk (vc (p1.Lo+1)) p1.Hi),true)
       else
        if (p1.Hi==p2.Lo) then
         some ((zg.mk p1.Lo (vc (p1.Hi-1))),true)
        else
         some (p1,true)
def dU(p1:Int)(p2:Nat->zi)(a:zf)(f:Int×Bool×Bool)(g:zi)(h:Nat)(again:zj->Option zj)(b:zj):Option zj:=
 (idx ([true,false]) (h:Int)).bind λc=>
 (if (!c) then
  some (w64 (p1+1))
 else
  some (w64 (p1+f.1))).bind λj=>
 ((ain 8 a.A).bind λl=>
 (dT a.Op (p2 l).Sr g.Sr c).bind λd=>
 some (d.1,d.2)).bind λe=>
 if e.2 then
  (vg e.1).bind λn=>
  (ain 8 a.A).bind λq=>
  (jc b j (aset p2 q n)).bind λv=>
  again v
 else
  again b
def xV(p0:zj)(p1:Int)(p2:Nat->zi):Option zj:=
 (idx p0.Sn.Code p1).bind λb=>
 (kU b).bind λa=>
 if ((!a.2.1)||decide (a.1<0)) then
  (if a.2.2 then
   (jc p0 (w64 (p1+1)) p2).bind λc=>
   some c
  else
   some p0).bind λd=>
  some d
 else
  if (!a.2.2) then
   (jc p0 (w64 (p1+a.1)) p2).bind λe=>
   some e
  else
   (eh b p2).bind λf=>
   (jL (dU p1 p2 b a f) (λ(g:zj)=>g) 2 0 p0).bind λh=>
   some h
def cz(fu:Nat)(a:Nat)(again:zj->Option (zj⊕((Option zj)×Int×Int)))(b:zj):Option (zj⊕((Option zj)×Int×Int)):=
 (idx b.any (a:Int)).bind λe=>
 if (!e) then
  again b
 else
  (xw b (a:Int)).bind λd=>
  (vu fu d (a:Int)).bind λc=>
  if (c.2 !=0) then
   some (.inr (none,(a:Int),c.2))
  else
   (xV d (a:Int) c.1).bind λf=>
   again f
def jX(fu:Nat)(p0:zD):Option ((Option zj)×Int×Int):=
 (ko p0.Maps).bind λc=>
 if (!c) then
  some (none,0,2)
 else
  (fc p0.Code).bind λa=>
  if (a.2 !=0) then
   some (none,a.1,a.2)
  else
   ((mkLen ((p0.Code).length:Int) 256).bind λd=>
   (mkLen ((p0.Code).length:Int) 1).bind λe=>
   some (zj.mk p0 (List.replicate d (λ_=>(zi.mk 0 (zg.mk 0 0) 0))) (List.replicate e false) ([]:List qv))).bind λb=>
   (kr p0.Code).bind λf=>
   (idx b.any 0).bind λl=>
   (jL (cz fu) (λ(g:zj)=>(.inl g)) (p0.Code).length 0 {b with any:=(b.any.set (Int.toNat 0) true),loops:=f.1}).bind λh=>match h with
    |.inl j=>
     some ((some j),0,0)
    |.inr r=>some r
def vv(fu:Nat)(p0:zD):Option (Int×Int):=
 (jX fu p0).bind λa=>
 aa a.1
  (some (a.2.1,a.2.2))
  (λb=>
  some (a.2.1,a.2.2))
def bW(p0:qM):Option qM:=
 some (qM.mk (λ_=>0))
def fg(fu:Nat)(p0:zD)(p1:qQ)(p2:zl):Option ((Option zr)×Int×zl):=
 (vv fu p0).bind λa=>
 if (a.2 !=0) then
  some (none,a.2,p2)
 else
  (bW p2.SS).bind λb=>
  (ja p0.Maps).bind λc=>
  (zR p0.Code).bind λd=>
  some ((some (zr.mk p1 (zD.mk c d) (λ_=>0) (λ_=>0) 0 0 0)),0,(zl.mk b p2.Sz))
def jV(fu:Nat)(p0:zm)(p1:Int)(p2:Int)(p3:zD):Option (Int×zm):=
 if (p0.RX !=1) then
  some (41,p0)
 else
  (fg fu p3 p0.SC.SI.Sl p0.SK).bind λa=>
  aa a.1
   (if (a.2.1 !=0) then
    some (a.2.1,{p0 with SK:=a.2.2})
   else
    some (0,(zm.mk a.2.2 p0.Tq 2 (bI.mk p0.SC.hook p0.SC.SI p1 p2 p0.SC.calls none))))
   (λb=>
   if (a.2.1 !=0) then
    some (a.2.1,{p0 with SK:=a.2.2})
   else
    some (0,(zm.mk a.2.2 p0.Tq 2 (bI.mk p0.SC.hook p0.SC.SI p1 p2 p0.SC.calls (some b)))))
def vW(p0:zm):Option (Int×Int):=
 some (p0.SC.Sq,p0.SC.prog)
def me(p0:Int):Option (Int×Bool):=
 (dm p0).bind λa=>
 some (a.1.asks,a.1.TJ)
def jY(p0:jo)(p1:Int):Option (Int×Int×jo):=
 if (decide (p1<0)||decide (p1>=16)) then
  some (0,35,p0)
 else
  (ain 16 p1).bind λa=>
  some (((aset p0.counts a (vc ((p0.counts a)+1))) a),0,(jo.mk (aset p0.counts a (vc ((p0.counts a)+1)))))
def jW(fu:Nat)(p0:zr)(p1:Int)(g0:zl):Option (qS×zr×zl):=
 (me p1).bind λc=>
 if c.2 then
  (idx p0.module.Maps (p0.regs 1)).bind λd=>
  (xY fu p1).bind λe=>
  (if decide (((e).length:Int)>2) then
   some (p0.regs 3)
  else
   some 0).bind λf=>
  some ((qS.mk 2 p0.Su (zh.mk d c.1 (p0.regs 2) f) 0),{p0 with state:=1},g0)
 else
  (if (p1==5) then
   (jY g0.Sz (w64 (p0.regs 1))).bind λb=>
   some ({p0 with regs:=(aset p0.regs 0 b.1)},(zl.mk g0.SS b.2.2),(qS.mk 1 p0.Su (zh.mk 0 0 0 0) b.1))
  else
   some ({p0 with regs:=(aset p0.regs 0 0)},g0,(qS.mk 3 p0.Su (zh.mk 0 0 0 0) (p0.regs 1)))).bind λa=>
  some (a.2.2,(zr.mk a.1.Sl a.1.module a.1.regs a.1.LE (w64 (a.1.Su+1)) a.1.steps a.1.state),a.2.1)
def jD(p0:zr)(p1:zf):Option Int:=
 if (p1.B==8) then
  some (vc p1.SN)
 else
  (ain 8 p1.B).bind λa=>
  some (p0.regs a)
def xO(p0:qM)(p1:Int):Option (Int×Int):=
 if (decide (p1<0)||decide (p1>=16)) then
  some (0,35)
 else
  (ain 16 p1).bind λa=>
  some ((p0.Sm a),0)
def xx(p0:qM)(p1:Int)(p2:Int):Option (Int×qM):=
 if (decide (p1<0)||decide (p1>=16)) then
  some (35,p0)
 else
  (ain 16 p1).bind λa=>
  some (0,(qM.mk (aset p0.Sm a p2)))
def jw(p0:zr)(p1:zf)(g0:zl):Option (Int×zr×zl):=
 if (p1.Op==0) then
  (jD p0 p1).bind λe=>
  (ain 8 p1.D).bind λf=>
  some (1,{p0 with regs:=(aset p0.regs f e)},g0)
 else
  if (p1.Op==11) then
   (jD p0 p1).bind λg=>
   (xO g0.SS (w64 g)).bind λh=>
   (ain 8 p1.D).bind λj=>
   some (1,{p0 with regs:=(aset p0.regs j h.1)},g0)
  else
   if (p1.Op==12) then
    (ain 8 p1.A).bind λl=>
    (jD p0 p1).bind λn=>
    (xx g0.SS (w64 n) (p0.regs l)).bind λq=>
    some (1,p0,(zl.mk q.2 g0.Sz))
   else
    if (p1.Op==13) then
     (ain 8 p1.D).bind λa=>
     if (p1.SN==1) then
      some (1,{p0 with regs:=(aset (aset p0.regs a p0.Sl.A) a p0.Sl.B)},g0)
     else
      some (1,{p0 with regs:=(aset p0.regs a p0.Sl.A)},g0)
    else
     if (p1.Op==14) then
      (ain 8 p1.D).bind λv=>
      some (1,{p0 with regs:=(aset p0.regs v (vc p1.SN))},g0)
     else
      if (p1.Op==15) then
       some (w64 (p1.D+1),p0,g0)
      else
       if (p1.Op==20) then
        ((ain 8 p1.A).bind λz=>
        if ((p0.regs z) !=0) then
         (ain 64 p0.Su).bind λC=>
         some (decide ((p0.LE C)<p1.SN))
        else
         some false).bind λE=>
        if E then
         (ain 64 p0.Su).bind λb=>
         some (w64 (0-p1.D),{p0 with LE:=(aset p0.LE b (w64 ((p0.LE b)+1)))},g0)
        else
         (ain 64 p0.Su).bind λF=>
         some (1,{p0 with LE:=(aset p0.LE F 0)},g0)
       else
        (ain 8 p1.A).bind λc=>
        (jD p0 p1).bind λG=>
        (gt p1.Op (p0.regs c) G).bind λd=>
        if d.2 then
         (ain 8 p1.D).bind λH=>
         some (1,{p0 with regs:=(aset p0.regs H d.1)},g0)
        else
         (jD p0 p1).bind λI=>
         (bp p1.Op (p0.regs c) I).bind λJ=>
         if J.1 then
          some (w64 (p1.D+1),p0,g0)
         else
          some (1,p0,g0)
def qJ(fu:Nat)(p0:zr)(g0:zl):Option (qS×zr×zl):=
 if (p0.state==1) then
  some ((qS.mk 5 p0.Su (zh.mk 0 0 0 0) 0),p0,g0)
 else
  if (p0.state==2) then
   (idx p0.module.Code p0.Su).bind λd=>
   (ain 8 d.A).bind λe=>
   some ((qS.mk 6 p0.Su (zh.mk 0 0 0 0) (p0.regs e)),p0,g0)
  else
   (idx p0.module.Code p0.Su).bind λb=>
   if (b.Op==21) then
    (jW fu {p0 with steps:=(w64 (p0.steps+1))} b.SN g0).bind λc=>
    some (c.1,c.2.1,c.2.2)
   else
    if (b.Op==22) then
     (ain 8 b.A).bind λf=>
     some ((qS.mk 4 p0.Su (zh.mk 0 0 0 0) (p0.regs f)),{p0 with steps:=(w64 (p0.steps+1)),state:=2},g0)
    else
     (jw {p0 with steps:=(w64 (p0.steps+1))} b g0).bind λa=>
     some ((qS.mk 1 p0.Su (zh.mk 0 0 0 0) 0),(zr.mk a.2.1.Sl a.2.1.module a.2.1.regs a.2.1.LE (w64 (p0.Su+a.1)) a.2.1.steps a.2.1.state),a.2.2)
def aC(p0:zr):Option Int:=
 some p0.steps
def Ba(p0:List qz)(c:Nat)(again:qz->Option qz)(a:qz):Option qz:=
 (idx p0 (c:Int)).bind λb=>
 again (qz.mk (vc (a.TV+b.TV)) (vc (a.Tl+b.Tl)) (vc (a.TD+b.TD)) (vc (a.Calls+b.Calls)) (vc (a.Sum+b.Sum)))
def oC(p0:List qz):Option qz:=
 (jL (Ba p0) (λ(a:qz)=>a) (p0).length 0 (qz.mk 0 0 0 0 0)).bind λb=>
 some b
def cB(p0:zX)(p1:Int)(p2:Int)(p3:Int)(p4:Int):Option (Int×zX):=
 (fa p1).bind λb=>
 if (!b) then
  some (2,p0)
 else
  (ain 4 p1).bind λa=>
  (oC ([(p0.Sc a),(qz.mk 1 0 p2 p3 p4)])).bind λc=>
  some (0,(zX.mk (aset p0.Sc a c)))
def qG(fu:Nat)(p0:zm):Option (qS×Bool×zm):=
 if (p0.RX !=2) then
  some ((qS.mk 0 0 (zh.mk 0 0 0 0) 0),false,p0)
 else
  p0.SC.TH.bind λb=>
  (qJ fu b p0.SK).bind λa=>
  if (a.1.RS==2) then
   some (a.1,true,(zm.mk a.2.2 p0.Tq 3 (bI.mk p0.SC.hook p0.SC.SI p0.SC.Sq p0.SC.prog (vc (p0.SC.calls+1)) (some a.2.1))))
  else
   if (a.1.RS==4) then
    (aC a.2.1).bind λc=>
    (cB p0.Tq p0.SC.hook (vc c) p0.SC.calls a.1.SJ).bind λd=>
    (bV (zm.mk a.2.2 d.2 p0.RX (bI.mk p0.SC.hook p0.SC.SI p0.SC.Sq p0.SC.prog p0.SC.calls (some a.2.1)))).bind λe=>
    some (a.1,true,e)
   else
    some (a.1,true,{p0 with SK:=a.2.2,SC:=(bI.mk p0.SC.hook p0.SC.SI p0.SC.Sq p0.SC.prog p0.SC.calls (some a.2.1))})
def gf(p0:zE)(p1:List Int)(c:Nat)(again:(Nat->Bool)->Option (Unit⊕(Int×zE)))(b:(Nat->Bool)):Option (Unit⊕(Int×zE)):=
 (idx p1 (c:Int)).bind λa=>
 ((vj p0 a).bind λd=>
 if (!d) then
  some true
 else
  (ain 4 a).bind λe=>
  some (b e)).bind λf=>
 if f then
  some (.inr (2,p0))
 else
  (ain 4 a).bind λg=>
  again (aset b g true)
def gh(p0:zE)(p1:List Int)(a:Nat)(again:Unit->Option (Unit⊕(Int×zE)))(d:Unit):Option (Unit⊕(Int×zE)):=
 (idx p1 (a:Int)).bind λb=>
 (idx p0.in_ b).bind λc=>
 if (c==0) then
  some (.inr (41,p0))
 else
  again ()
def gj(p1:List Int)(c:Nat)(again:zE->Option zE)(a:zE):Option zE:=
 (idx p1 (c:Int)).bind λb=>
 (idx a.in_ b).bind λd=>
 again (zE.mk a.Tt (a.in_.set (Int.toNat b) 0))
def vl(p0:zE)(p1:List Int):Option (Int×zE):=
 (jL (gf p0 p1) (λ(e:(Nat->Bool))=>(.inl ())) (p1).length 0 (λ_=>false)).bind λa=>match a with
  |.inl f=>
   (jL (gh p0 p1) (λ(g:Unit)=>(.inl ())) (p1).length 0 ()).bind λb=>match b with
    |.inl h=>
     (jL (gj p1) (λ(c:zE)=>c) (p1).length 0 p0).bind λd=>
     some (0,d)
    |.inr r=>some r
  |.inr r=>some r
def gF(p0:Int)(p1:zk):Option Int:=
 (if (p0==0) then
  some (p0==0)
 else
  some (p0==4)).bind λa=>
 if a then
  some p1.SJ
 else
  (if (p0==1) then
   some (p0==1)
  else
   some (p0==3)).bind λb=>
  if b then
   if p1.Found then
    some 1
   else
    some 0
  else
   if (p0==2) then
    if (p1.E==0) then
     some 1
    else
     some 0
   else
    some 0
def jE(p0:zr)(p1:zk)(g0:zl):Option (Int×zr):=
 if (p0.state !=1) then
  some (2,p0)
 else
  (idx p0.module.Code p0.Su).bind λa=>
  (gF a.SN p1).bind λb=>
  some (0,{p0 with regs:=(aset p0.regs 0 b),Su:=(w64 (p0.Su+1)),state:=0})
def xn(p0:zm)(p1:zk):Option (Int×zm):=
 if (p0.RX !=3) then
  some (41,p0)
 else
  p0.SC.TH.bind λb=>
  (jE b p1 p0.SK).bind λa=>
  some (a.1,{p0 with RX:=2,SC:=(bI.mk p0.SC.hook p0.SC.SI p0.SC.Sq p0.SC.prog p0.SC.calls (some a.2))})
def cT(p0:za)(again:zH->Option zH)(a:zH):Option zH:=
 (idx p0.RN a.SF).bind λb=>
 (bB b).bind λc=>
 if (c.Tv==0) then
  (nz ((p0.RN).length:Int)).bind λd=>
  again {a with SF:=((w64 (a.SF+1)).tmod ((p0.RN).length:Int))}
 else
  some a
def dy(fu:Nat)(p0:za)(p1:Int):Option za:=
 (zU p0).bind λd=>
 (idx p0.LT (w64 (p1-d))).bind λb=>
 (xv b.RP).bind λe=>
 (jO b.RP).bind λj=>
 if (j==0) then
  if p0.closed then
   (room (p0.Sw.length+([(zd.mk 15 p1 0 0 0 0 0 0 0 0 (zh.mk 0 0 0 0) (zk.mk 0 false 0 false 0 0) 0 0)]).length) 176).bind λL=>
   (bm p0.Sf ([p1])).bind λz=>
   some {p0 with Sf:=z.2,LT:=(p0.LT.set (Int.toNat (w64 (p1-d))) {b with RY:=true}),Sw:=(p0.Sw++[(zd.mk 15 p1 0 0 0 0 0 0 0 0 (zh.mk 0 0 0 0) (zk.mk 0 false 0 false 0 0) 0 0)])}
  else
   (loop (cT p0) fu b).bind λg=>
   (idx p0.RN g.SF).bind λA=>
   (bL A p0.SH).bind λl=>
   (nz ((p0.RN).length:Int)).bind λM=>
   (vR g.RP g.SF l.1).bind λB=>
   (room (p0.Sw.length+([(zd.mk 5 p1 0 0 0 l.1.N g.SF 0 0 0 (zh.mk 0 0 0 0) (zk.mk 0 false 0 false 0 0) 0 0)]).length) 176).bind λO=>
   some {p0 with LT:=(p0.LT.set (Int.toNat (w64 (p1-d))) {g with RP:=B.2,SF:=((w64 (g.SF+1)).tmod ((p0.RN).length:Int))}),RN:=(p0.RN.set (Int.toNat g.SF) l.2.2),Sw:=(p0.Sw++[(zd.mk 5 p1 0 0 0 l.1.N g.SF 0 0 0 (zh.mk 0 0 0 0) (zk.mk 0 false 0 false 0 0) 0 0)])}
 else
  if (j==1) then
   (jl p0.Fn.Si e.1).bind λh=>
   if (!h.2.2) then
    (xN b.RP).bind λC=>
    (room (p0.Sw.length+([(zd.mk 9 p1 0 0 0 e.2.N e.1 0 0 0 (zh.mk 0 0 0 0) (zk.mk 0 false 0 false 0 0) 0 0)]).length) 176).bind λP=>
    some {p0 with LT:=(p0.LT.set (Int.toNat (w64 (p1-d))) {b with RP:=C.2}),Sw:=(p0.Sw++[(zd.mk 9 p1 0 0 0 e.2.N e.1 0 0 0 (zh.mk 0 0 0 0) (zk.mk 0 false 0 false 0 0) 0 0)])}
   else
    (qO p0.Fn h.2.1).bind λD=>
    (vk p0.Fn.Sg (w64 (p1-d))).bind λE=>
    (jV fu b.RP h.1 h.2.1 D.1).bind λF=>
    (room (p0.Sw.length+([(zd.mk 6 p1 0 0 0 e.2.N e.1 h.2.1 h.1 0 (zh.mk 0 0 0 0) (zk.mk 0 false 0 false 0 0) 0 0)]).length) 176).bind λQ=>
    some {p0 with Fn:=(zb.mk p0.Fn.Si p0.Fn.Td E.2.2 p0.Fn.Sc p0.Fn.maps p0.Fn.given p0.Fn.Sj p0.Fn.waiting),LT:=(p0.LT.set (Int.toNat (w64 (p1-d))) {b with RP:=F.2}),Sw:=(p0.Sw++[(zd.mk 6 p1 0 0 0 e.2.N e.1 h.2.1 h.1 0 (zh.mk 0 0 0 0) (zk.mk 0 false 0 false 0 0) 0 0)])}
  else
   if (j==2) then
    (xv b.RP).bind λf=>
    (vW b.RP).bind λc=>
    (qG fu b.RP).bind λa=>
    if (a.1.RS==3) then
     (room (p0.Sw.length+([(zd.mk 8 p1 0 0 0 f.2.N 0 c.2 c.1 a.1.Pc (zh.mk 0 0 0 0) (zk.mk 0 false 0 false 0 0) a.1.SJ 0)]).length) 176).bind λR=>
     some {p0 with LT:=(p0.LT.set (Int.toNat (w64 (p1-d))) {b with RP:=a.2.2}),Sw:=(p0.Sw++[(zd.mk 8 p1 0 0 0 f.2.N 0 c.2 c.1 a.1.Pc (zh.mk 0 0 0 0) (zk.mk 0 false 0 false 0 0) a.1.SJ 0)])}
    else
     if (a.1.RS==2) then
      (aB a.1.Item.SQ ((p0.Fd).length:Int)).bind λv=>
      (idx p0.Fd v).bind λG=>
      (jI G ([(zq.mk p1 0 false a.1.Item)])).bind λH=>
      (room (p0.Sw.length+([(zd.mk 16 p1 0 0 0 f.2.N 0 c.2 c.1 a.1.Pc a.1.Item (zk.mk 0 false 0 false 0 0) a.1.SJ 0)]).length) 176).bind λS=>
      some {p0 with LT:=(p0.LT.set (Int.toNat (w64 (p1-d))) {b with RP:=a.2.2,pc:=a.1.Pc}),Fd:=(p0.Fd.set (Int.toNat v) H.2),Sw:=(p0.Sw++[(zd.mk 16 p1 0 0 0 f.2.N 0 c.2 c.1 a.1.Pc a.1.Item (zk.mk 0 false 0 false 0 0) a.1.SJ 0)])}
     else
      if (a.1.RS==4) then
       (zU {p0 with LT:=(p0.LT.set (Int.toNat (w64 (p1-d))) {b with RP:=a.2.2})}).bind λI=>
       (vl p0.Fn.Sg ([w64 (p1-I)])).bind λJ=>
       (room (p0.Sw.length+([(zd.mk 9 p1 0 0 0 f.2.N f.1 c.2 c.1 a.1.Pc (zh.mk 0 0 0 0) (zk.mk 0 false 0 false 0 0) a.1.SJ 0)]).length) 176).bind λT=>
       some {p0 with Fn:=(zb.mk p0.Fn.Si p0.Fn.Td J.2 p0.Fn.Sc p0.Fn.maps p0.Fn.given p0.Fn.Sj p0.Fn.waiting),LT:=(p0.LT.set (Int.toNat (w64 (p1-d))) {b with RP:=a.2.2}),Sw:=(p0.Sw++[(zd.mk 9 p1 0 0 0 f.2.N f.1 c.2 c.1 a.1.Pc (zh.mk 0 0 0 0) (zk.mk 0 false 0 false 0 0) a.1.SJ 0)])}
      else
       (room (p0.Sw.length+([(zd.mk 7 p1 0 0 0 f.2.N 0 c.2 c.1 a.1.Pc (zh.mk 0 0 0 0) (zk.mk 0 false 0 false 0 0) a.1.SJ 0)]).length) 176).bind λU=>
       some {p0 with LT:=(p0.LT.set (Int.toNat (w64 (p1-d))) {b with RP:=a.2.2}),Sw:=(p0.Sw++[(zd.mk 7 p1 0 0 0 f.2.N 0 c.2 c.1 a.1.Pc (zh.mk 0 0 0 0) (zk.mk 0 false 0 false 0 0) a.1.SJ 0)])}
   else
    if (j==3) then
     (vW b.RP).bind λn=>
     b.SZ.bind λq=>
     (room (p0.Sw.length+([(zd.mk 17 p1 0 0 0 e.2.N 0 n.2 n.1 b.pc (zh.mk 0 0 0 0) q 0 0)]).length) 176).bind λV=>
     (xn b.RP q).bind λK=>
     some {p0 with LT:=(p0.LT.set (Int.toNat (w64 (p1-d))) {b with RP:=K.2,SZ:=none}),Sw:=(p0.Sw++[(zd.mk 17 p1 0 0 0 e.2.N 0 n.2 n.1 b.pc (zh.mk 0 0 0 0) q 0 0)])}
    else
     some p0
def zy(p0:List zp):Option (List zp):=
 (room (([]:List zp).length+p0.length) 16).bind λa=>
 some (([]:List zp)++p0)
def vw(p0:qk):Option (List zp):=
 (zy p0.RU).bind λa=>
 some a
def jx(p0:qi):Option (List zp):=
 match p0 with
 |.inl x=>(vw x).bind λq=>some q
 |.inr x=>(vw x.Th).bind λq=>some q
def fh(p0:zc)(p1:Int):Option ((List zp)×Int):=
 if (decide (p1<0)||decide (p1>=((p0.maps).length:Int))) then
  some (([]:List zp),2)
 else
  (idx p0.maps p1).bind λa=>
  (jx a).bind λb=>
  some (b,0)
def oD(p0:za)(p1:Int)(c:Nat)(again:(List zp)->Option (List zp))(a:(List zp)):Option (List zp):=
 (idx p0.Fd (c:Int)).bind λd=>
 (fh d p1).bind λb=>
 (room (a.length+b.1.length) 16).bind λe=>
 again (a++b.1)
def hP(p0:za)(p1:Int):Option ((List zp)×Int):=
 if (decide (p1<0)||decide (p1>=((p0.Sk.Maps).length:Int))) then
  some (([]:List zp),2)
 else
  (jL (oD p0 p1) (λ(a:(List zp))=>a) (p0.Fd).length 0 ([]:List zp)).bind λb=>
  some (b,0)
def vO(p0:zp)(p1:Int):Option Int:=
 if decide (p0.SQ<p1) then
  some (-1)
 else
  if decide (p0.SQ>p1) then
   some 1
  else
   some 0
def qE(p0:List zp)(p1:Int)(again:(Int×Int)->Option Int)(a:Int×Int):Option Int:=
 if decide (a.1<a.2) then
  (idx p0 (w64 (iI .u64 (vc (w64 (a.1+a.2))) 1))).bind λb=>
  (vO b p1).bind λc=>
  if decide (c<0) then
   again (w64 ((w64 (iI .u64 (vc (w64 (a.1+a.2))) 1))+1),a.2)
  else
   again (a.1,w64 (iI .u64 (vc (w64 (a.1+a.2))) 1))
 else
  some a.1
def zL(fu:Nat)(p0:List zp)(p1:Int):Option (Int×Bool):=
 (loop (qE p0 p1) fu (0,((p0).length:Int))).bind λa=>
 (if decide (a<((p0).length:Int)) then
  (idx p0 a).bind λb=>
  (vO b p1).bind λc=>
  some (c==0)
 else
  some false).bind λd=>
 some (a,d)
def fB(fu:Nat)(p0:qk)(p1:Int):Option (Int×Bool):=
 (zL fu p0.RU p1).bind λa=>
 some (a.1,a.2)
def qf(p0:List zp)(p1 p2:Int):Option (List zp):=Md p0 p1 p2
def qg(p0:List zp)(p1:Int)(p2:List zp):Option ((List zp)×(List zp)):=OB 16 p0 p1 p2
def jP(fu:Nat)(p0:qk)(p1:Int)(p2:Int)(p3:Int):Option (zk×qk):=
 if (decide (p1<0)||decide (p1>=5)) then
  some ((zk.mk 2 false 0 false 0 0),p0)
 else
  (fB fu p0 p2).bind λa=>
  (if (a.2&&(p1 !=1)) then
   (idx p0.RU a.1).bind λe=>
   some (zk.mk 0 a.2 e.SJ false 0 0)
  else
   some (zk.mk 0 a.2 0 false 0 0)).bind λb=>
  if (p1==3) then
   if a.2 then
    (qf p0.RU a.1 (w64 (a.1+1))).bind λf=>
    some (b,(qk.mk p0.cap f))
   else
    some (b,p0)
  else
   (if (p1==2) then
    some (p1==2)
   else
    some (p1==4)).bind λg=>
   if g then
    if ((!a.2)&&(((p0.RU).length:Int)==p0.cap)) then
     some ((zk.mk 40 false 0 false 0 0),p0)
    else
     (if (!a.2) then
      (qg p0.RU a.1 ([(zp.mk p2 0)])).bind λh=>
      some (qk.mk p0.cap h.1)
     else
      some p0).bind λc=>
     (if (p1==4) then
      some (vc (b.SJ+p3),{b with SJ:=(vc (b.SJ+p3))})
     else
      some (p3,b)).bind λd=>
     (idx c.RU a.1).bind λj=>
     some (d.2,(qk.mk c.cap (c.RU.set (Int.toNat a.1) (zp.mk j.SQ d.1))))
   else
    some (b,p0)
def xZ(p0:List Int)(p1:Int)(a:Nat)(again:Unit->Option (Unit⊕Int))(d:Unit):Option (Unit⊕Int):=
 (idx p0 (a:Int)).bind λb=>
 (bJ b p1).bind λc=>
 if c then
  some (.inr (a:Int))
 else
  again ()
def qR(p0:List Int)(p1:Int):Option Int:=
 (jL (xZ p0 p1) (λ(b:Unit)=>(.inl ())) (p0).length 0 ()).bind λa=>match a with
  |.inl c=>
   some (-1)
  |.inr r=>some r
def xP(p1:Int)(again:((List Int)×Int×Int)->Option ((List Int)×Int))(a:(List Int)×Int×Int):Option ((List Int)×Int):=
 if decide (a.2.2<((a.1).length:Int)) then
  (idx a.1 a.2.2).bind λb=>
  (bJ b p1).bind λc=>
  if (!c) then
   (idx a.1 a.2.1).bind λd=>
   again ((a.1.set (Int.toNat a.2.1) b),w64 (a.2.1+1),w64 (a.2.2+1))
  else
   again (a.1,a.2.1,w64 (a.2.2+1))
 else
  some (a.1,a.2.1)
def qK(fu:Nat)(p0:List Int)(p1:Int):Option (List Int):=
 (qR p0 p1).bind λb=>
 if (b==(-1)) then
  some p0
 else
  (loop (xP p1) fu (p0,b,w64 (b+1))).bind λa=>
  (cut a.1 a.2 (a.1.length:Int)).bind λc=>
  (cut (a.1.take (Int.toNat a.2)++List.replicate c.length 0) 0 a.2).bind λd=>
  some d
def xL(fu:Nat)(p0:qw)(p1:Int):Option qw:=
 (qK fu p0.Tm p1).bind λa=>
 some (qw.mk p0.Th a)
def cU(fu:Nat)(p0:qw)(p1:zk):Option (qw×zk):=
 (idx p0.Tm (w64 (((p0.Tm).length:Int)-1))).bind λa=>
 (jP fu p0.Th 3 a 0).bind λb=>
 (xL fu (qw.mk b.2 p0.Tm) a).bind λc=>
 some (c,(zk.mk p1.E p1.Found p1.SJ true a b.1.SJ))
def jF(p0:List Int)(p1:Int)(p2:List Int):Option ((List Int)×(List Int)):=OB 8 p0 p1 p2
def vd(fu:Nat)(p0:qw)(p1:Int):Option qw:=
 (xL fu p0 p1).bind λa=>
 (jF a.Tm 0 ([p1])).bind λb=>
 some (qw.mk a.Th b.1)
def ek(fu:Nat)(p0:qw)(p1:Int)(p2:Int)(p3:Int):Option (zk×qw):=
 (jP fu p0.Th p1 p2 p3).bind λc=>
 (if (c.1.E==40) then
  (cU fu (qw.mk c.2 p0.Tm) (zk.mk 0 false 0 false 0 0)).bind λb=>
  (jP fu b.1.Th p1 p2 p3).bind λd=>
  some ((qw.mk d.2 b.1.Tm),(zk.mk d.1.E d.1.Found d.1.SJ b.2.Ui b.2.Tf b.2.Tg))
 else
  some ((qw.mk c.2 p0.Tm),c.1)).bind λa=>
 if (a.2.E !=0) then
  some (a.2,a.1)
 else
  (if (p1==2) then
   some (p1==2)
  else
   if (p1==4) then
    some (p1==4)
   else
    if (p1==0) then
     some a.2.Found
    else
     some false).bind λe=>
  if e then
   (vd fu a.1 p2).bind λf=>
   some (a.2,f)
  else
   if (p1==3) then
    (xL fu a.1 p2).bind λg=>
    some (a.2,g)
   else
    some (a.2,a.1)
def jG(fu:Nat)(p0:qi)(p1:Int)(p2:Int)(p3:Int):Option (zk×qi):=
 match p0 with
 |.inl x=>(jP fu x p1 p2 p3).bind λq=>some (q.1,(.inl q.2))
 |.inr x=>(ek fu x p1 p2 p3).bind λq=>some (q.1,(.inr q.2))
def jJ(fu:Nat)(p0:zc):Option (bA×Bool×zc):=
 if (((p0.RW).length:Int)==0) then
  some ((bA.mk 0 0 false (zh.mk 0 0 0 0) (zk.mk 0 false 0 false 0 0) ([]:List zp)),false,p0)
 else
  (idx p0.RW 0).bind λa=>
  (cut p0.RW 1 (p0.RW.length:Int)).bind λb=>
  if a.Ts then
   (idx p0.maps a.Item.SE).bind λd=>
   (jx d).bind λe=>
   some ({a with To:=a.Te,SD:=(zk.mk 0 false 0 false 0 0),Pairs:=e},true,{p0 with RW:=b})
  else
   (idx p0.maps a.Item.SE).bind λf=>
   (jG fu f a.Item.Op a.Item.SQ a.Item.SJ).bind λc=>
   some ({a with To:=a.Te,SD:=c.1,Pairs:=([]:List zp)},true,{p0 with maps:=(p0.maps.set (Int.toNat a.Item.SE) c.2),RW:=b})
def cC(p0:zc):Option (Int×zc):=
 if decide (((p0.RW).length:Int)>0) then
  some (42,p0)
 else
  some (0,{p0 with RY:=true})
def cD(fu:Nat)(p0:za)(p1:Int):Option za:=
 (qB p0).bind λc=>
 (idx p0.Fd (w64 (p1-c))).bind λg=>
 (jJ fu g).bind λa=>
 if (!a.2.1) then
  (cC a.2.2).bind λh=>
  (room (p0.Sw.length+([(zd.mk 15 p1 0 0 0 0 0 0 0 0 (zh.mk 0 0 0 0) (zk.mk 0 false 0 false 0 0) 0 0)]).length) 176).bind λn=>
  (bm p0.Sf ([p1])).bind λj=>
  some {p0 with Sf:=j.2,Fd:=(p0.Fd.set (Int.toNat (w64 (p1-c))) h.2),Sw:=(p0.Sw++[(zd.mk 15 p1 0 0 0 0 0 0 0 0 (zh.mk 0 0 0 0) (zk.mk 0 false 0 false 0 0) 0 0)])}
 else
  (zU {p0 with Fd:=(p0.Fd.set (Int.toNat (w64 (p1-c))) a.2.2)}).bind λl=>
  if decide (a.1.To>=l) then
   (zU {p0 with Fd:=(p0.Fd.set (Int.toNat (w64 (p1-c))) a.2.2)}).bind λd=>
   (idx p0.LT (w64 (a.1.To-d))).bind λe=>
   (xv e.RP).bind λf=>
   (room (p0.Sw.length+([(zd.mk 3 p1 a.1.To 0 a.1.TG f.2.N 0 0 0 0 a.1.Item a.1.SD 0 0)]).length) 176).bind λq=>
   some {p0 with LT:=(p0.LT.set (Int.toNat (w64 (a.1.To-d))) {e with SZ:=(some a.1.SD)}),Fd:=(p0.Fd.set (Int.toNat (w64 (p1-c))) a.2.2),Sw:=(p0.Sw++[(zd.mk 3 p1 a.1.To 0 a.1.TG f.2.N 0 0 0 0 a.1.Item a.1.SD 0 0)])}
  else
   (idx p0.or a.1.To).bind λb=>
   if a.1.Ts then
    (idx b.parts a.1.TG).bind λv=>
    some {p0 with or:=(p0.or.set (Int.toNat a.1.To) {b with Sd:=(w64 (b.Sd-1)),parts:=(b.parts.set (Int.toNat a.1.TG) a.1.Pairs)}),Fd:=(p0.Fd.set (Int.toNat (w64 (p1-c))) a.2.2)}
   else
    (idx b.Id.SD a.1.TG).bind λz=>
    (room (p0.Sw.length+([(zd.mk 3 p1 a.1.To b.Su a.1.TG 0 0 0 0 0 a.1.Item a.1.SD 0 0)]).length) 176).bind λA=>
    some {p0 with or:=(p0.or.set (Int.toNat a.1.To) {b with Sd:=(w64 (b.Sd-1)),Id:=(zx.mk b.Id.E b.Id.N (b.Id.SD.set (Int.toNat a.1.TG) a.1.SD) b.Id.Pairs)}),Fd:=(p0.Fd.set (Int.toNat (w64 (p1-c))) a.2.2),Sw:=(p0.Sw++[(zd.mk 3 p1 a.1.To b.Su a.1.TG 0 0 0 0 0 a.1.Item a.1.SD 0 0)])}
def qc(p0:List zB)(p1 p2:Int):Option (List zB):=Md p0 p1 p2
abbrev yD:=Unit⊕(Int×zW)
def fj(p0:zW)(p1:List Int)(a:Nat)(again:Unit->Option yD)(e:Unit):Option yD:=
 (idx p1 (a:Int)).bind λb=>
 (cut p1 0 (a:Int)).bind λc=>
 (zY c b).bind λd=>
 if d then
  some (.inr (2,p0))
 else
  again ()
def fk(p0:zW)(p1:List Int)(a:Nat)(again:Unit->Option yD)(c:Unit):Option yD:=
 (idx p1 (a:Int)).bind λb=>
 if (!(jz p0.held b).isSome) then
  some (.inr (41,p0))
 else
  again ()
def fm(p1:List Int)(b:Nat)(again:zW->Option zW)(a:zW):Option zW:=
 (idx p1 (b:Int)).bind λc=>
 again (zW.mk a.maps (mdel a.held c))
def bM(p0:zW)(p1:List Int):Option (Int×zW):=
 (jL (fj p0 p1) (λ(e:Unit)=>(.inl ())) (p1).length 0 ()).bind λa=>match a with
  |.inl f=>
   (jL (fk p0 p1) (λ(g:Unit)=>(.inl ())) (p1).length 0 ()).bind λb=>match b with
    |.inl h=>
     (jL (fm p1) (λ(c:zW)=>c) (p1).length 0 p0).bind λd=>
     some (0,d)
    |.inr r=>some r
  |.inr r=>some r
def aN(p0:List Int)(p1:List Int)(a:Nat)(again:Unit->Option (Unit⊕Int))(d:Unit):Option (Unit⊕Int):=
 (idx p0 (a:Int)).bind λb=>
 (jh b p1).bind λc=>
 if c then
  some (.inr (a:Int))
 else
  again ()
def jy(p0:List Int)(p1:List Int):Option Int:=
 (jL (aN p0 p1) (λ(b:Unit)=>(.inl ())) (p0).length 0 ()).bind λa=>match a with
  |.inl c=>
   some (-1)
  |.inr r=>some r
def xp(p1:List Int)(again:((List Int)×Int×Int)->Option ((List Int)×Int))(a:(List Int)×Int×Int):Option ((List Int)×Int):=
 if decide (a.2.2<((a.1).length:Int)) then
  (idx a.1 a.2.2).bind λb=>
  (jh b p1).bind λc=>
  if (!c) then
   (idx a.1 a.2.1).bind λd=>
   again ((a.1.set (Int.toNat a.2.1) b),w64 (a.2.1+1),w64 (a.2.2+1))
  else
   again (a.1,a.2.1,w64 (a.2.2+1))
 else
  some (a.1,a.2.1)
def jp(fu:Nat)(p0:List Int)(p1:List Int):Option (List Int):=
 (jy p0 p1).bind λb=>
 if (b==(-1)) then
  some p0
 else
  (loop (xp p1) fu (p0,b,w64 (b+1))).bind λa=>
  (cut a.1 a.2 (a.1.length:Int)).bind λc=>
  (cut (a.1.take (Int.toNat a.2)++List.replicate c.length 0) 0 a.2).bind λd=>
  some d
def vx(p0:zb)(p1:Int)(c:Nat)(again:(List Int)->Option (List Int))(a:(List Int)):Option (List Int):=
 (idx p0.waiting (c:Int)).bind λb=>
 (if decide (((a).length:Int)<p1) then
  (jz p0.Sj b).bind λd=>
  (vK p0.Sg d.SM).bind λe=>
  some e
 else
  some false).bind λf=>
 if f then
  (room (a.length+([b]).length) 8).bind λg=>
  again (a++[b])
 else
  again a
def vy(c:(List Int))(d:Nat)(again:zb->Option zb)(a:zb):Option zb:=
 (idx c (d:Int)).bind λb=>
 (bM a.Td ([b])).bind λe=>
 again {a with Td:=e.2,Sj:=(mdel a.Sj b)}
def jZ(fu:Nat)(p0:zb)(p1:Int):Option ((List Int)×zb):=
 (jL (vx p0 p1) (λ(c:(List Int))=>c) (p0.waiting).length 0 ([]:List Int)).bind λa=>
 (jL (vy a) (λ(d:zb)=>d) (a).length 0 p0).bind λb=>
 (jp fu b.waiting a).bind λe=>
 some (a,{b with waiting:=e})
def jR(p0:za)(p1:Int)(p2:Int)(p3:Int):Option za:=
 (idx p0.or p1).bind λa=>
 some {p0 with or:=(p0.or.set (Int.toNat p1) {a with Sd:=0,Id:=(zx.mk p3 p2 a.Id.SD a.Id.Pairs)})}
def qy(p0:zw)(p1:Int):Option zw:=
 if (p0.e==0) then
  some {p0 with e:=p1}
 else
  some p0
def gk(again:zw->Option zw)(a:zw):Option zw:=
 if (decide (a.Su<3)&&(a.e==0)) then
  (if decide (a.Su>=((a.b).length:Int)) then
   (qy {a with field:=a.Su} 10).bind λd=>
   some d
  else
   (idx a.b a.Su).bind λf=>
   (uo (⟨[84,80,1].toArray⟩) a.Su).bind λg=>
   if (f !=g) then
    (qy {a with field:=a.Su} 12).bind λh=>
    some h
   else
    some {a with field:=a.Su}).bind λc=>
  again {c with Su:=(w64 (c.Su+1))}
 else
  some a
def aO(fu:Nat)(p0:zw):Option zw:=
 (loop gk fu p0).bind λa=>
 some a
def uO(p0:List Int)(a:Nat)(again:Int->Option (Unit⊕(Int×Int×Int)))(c:Int):Option (Unit⊕(Int×Int×Int)):=
 (idx p0 (a:Int)).bind λb=>
 if ((((a:Int)==9)&&decide (b>1))||(decide ((a:Int)>0)&&(b==0))) then
  some (.inr (0,0,12))
 else
  (nn (w64 (7*(a:Int)))).bind λd=>
  if decide (b<128) then
   some (.inr (bOr .u64 c (wm .u64 (vc (wl .u8 b 127)) (w64 (7*(a:Int)))),w64 ((a:Int)+1),0))
  else
   again (bOr .u64 c (wm .u64 (vc (wl .u8 b 127)) (w64 (7*(a:Int)))))
def pE(p0:List Int):Option (Int×Int×Int):=
 (jL (uO p0) (λ(b:Int)=>(.inl ())) (p0).length 0 0).bind λa=>match a with
  |.inl c=>
   some (0,0,10)
  |.inr r=>some r
def qW(p0:zw)(p1:Int)(p2:Int):Option (Int×zw):=
 if (p0.e !=0) then
  some (0,p0)
 else
  (cut p0.b p0.Su (p0.b.length:Int)).bind λc=>
  (pE c).bind λa=>
  if (a.2.2 !=0) then
   (qy (zw.mk p0.b (w64 (p0.Su+a.2.1)) p0.Su p0.e) a.2.2).bind λd=>
   some (0,d)
  else
   if decide (a.1>p1) then
    (qy (zw.mk p0.b (w64 (p0.Su+a.2.1)) p0.Su p0.e) p2).bind λf=>
    some (0,f)
   else
    some (w64 a.1,(zw.mk p0.b (w64 (p0.Su+a.2.1)) p0.Su p0.e))
def ky(p0:List Int):Option (Int×Int×Int):=
 (pE p0).bind λa=>
 some (Mq .i64 (w64 (iI .u64 a.1 1)) (w64 (0-(w64 (wl .u64 a.1 1)))),a.2.1,a.2.2)
def bC(p0:zw):Option (zf×zw):=
 (qW p0 22 12).bind λd=>
 (qW d.2 63 12).bind λf=>
 (qW f.2 63 12).bind λg=>
 (qW g.2 63 12).bind λa=>
 if (a.2.e !=0) then
  some ((zf.mk d.1 f.1 g.1 a.1 0),a.2)
 else
  (cut a.2.b a.2.Su (a.2.b.length:Int)).bind λh=>
  (ky h).bind λc=>
  if (c.2.2 !=0) then
   (qy (zw.mk a.2.b (w64 (a.2.Su+c.2.1)) a.2.Su a.2.e) c.2.2).bind λj=>
   some ((zf.mk d.1 f.1 g.1 a.1 c.1),j)
  else
   (fI ([(zf.mk d.1 f.1 g.1 a.1 c.1)])).bind λl=>
   if (!l) then
    (qy (zw.mk a.2.b (w64 (a.2.Su+c.2.1)) p0.Su a.2.e) 12).bind λn=>
    some ((zf.mk d.1 f.1 g.1 a.1 c.1),n)
   else
    some ((zf.mk d.1 f.1 g.1 a.1 c.1),(zw.mk a.2.b (w64 (a.2.Su+c.2.1)) a.2.Su a.2.e))
def nv(d:Int×zw)(again:(zw×(List Int)×Int)->Option (zw×(List Int)))(a:zw×(List Int)×Int):Option (zw×(List Int)):=
 if decide (a.2.2<d.1) then
  (qW a.1 3 12).bind λb=>
  (zY a.2.1 b.1).bind λf=>
  (if f then
   (qy b.2 12).bind λg=>
   some g
  else
   some b.2).bind λc=>
  if (c.e !=0) then
   some (c,a.2.1)
  else
   (room (a.2.1.length+([b.1]).length) 8).bind λh=>
   again (c,(a.2.1++[b.1]),w64 (a.2.2+1))
 else
  some (a.1,a.2.1)
def nw(c:Int×zw)(again:(zw×(List zf)×Int)->Option (zw×(List zf)))(a:zw×(List zf)×Int):Option (zw×(List zf)):=
 if (decide (a.2.2<c.1)&&(a.1.e==0)) then
  (bC a.1).bind λb=>
  (room (a.2.1.length+([b.1]).length) 40).bind λd=>
  again (b.2,(a.2.1++[b.1]),w64 (a.2.2+1))
 else
  some (a.1,a.2.1)
def dV(fu:Nat)(p0:List Int):Option (zD×Int×Int):=
 (aO fu (zw.mk p0 0 0 0)).bind λh=>
 (qW h 4 11).bind λf=>
 (loop (nv f) fu (f.2,([]:List Int),0)).bind λg=>
 (qW g.1 64 11).bind λc=>
 (if (c.1==0) then
  (qy c.2 12).bind λj=>
  some j
 else
  some c.2).bind λl=>
 (loop (nw c) fu (l,([]:List zf),0)).bind λa=>
 (if ((a.1.e==0)&&decide (a.1.Su<((p0).length:Int))) then
  (qy (zw.mk a.1.b a.1.Su a.1.Su a.1.e) 13).bind λn=>
  some n
 else
  some a.1).bind λd=>
 if (d.e !=0) then
  some ((zD.mk ([]:List Int) ([]:List zf)),d.field,d.e)
 else
  some ((zD.mk g.2 a.2),0,0)
def fq(p0:zW)(p2:List Int)(b:Nat)(again:Unit->Option yD)(f:Unit):Option yD:=
 (idx p2 (b:Int)).bind λa=>
 (if decide (a<0) then
  some true
 else
  if decide (a>=p0.maps) then
   some true
  else
   (cut p2 0 (b:Int)).bind λc=>
   (zY c a).bind λd=>
   some d).bind λe=>
 if e then
  some (.inr (2,p0))
 else
  again ()
def dz(p0:zW)(p1:Int)(p2:List Int):Option (Int×zW):=
 (jL (fq p0 p2) (λ(c:Unit)=>(.inl ())) (p2).length 0 ()).bind λa=>match a with
  |.inl d=>
   if (jz p0.held p1).isSome then
    some (42,p0)
   else
    (ja p2).bind λb=>
    some (0,(zW.mk p0.maps (mput p0.held p1 b)))
  |.inr r=>some r
abbrev yE:=Int×Int×zb
def ak(p0:zb)(a:zD×Int×Int)(b:Nat)(again:Unit->Option (Unit⊕yE))(d:Unit):Option (Unit⊕yE):=
 (idx a.1.Maps (b:Int)).bind λc=>
 if decide (c>=p0.maps) then
  some (.inr (0,41,p0))
 else
  again ()
def jr(fu:Nat)(p0:zb)(p1:List Int):Option yE:=
 (dV fu p1).bind λa=>
 if (a.2.2 !=0) then
  some (0,a.2.2,p0)
 else
  (vv fu a.1).bind λb=>
  if (b.2 !=0) then
   some (0,b.2,p0)
  else
   (jL (ak p0 a) (λ(e:Unit)=>(.inl ())) (a.1.Maps).length 0 ()).bind λc=>match c with
    |.inl f=>
     if decide ((p0.Sj.length:Int)>=16) then
      some (0,40,p0)
     else
      (dz p0.Td (w64 (p0.given+1)) a.1.Maps).bind λd=>
      some (w64 (p0.given+1),0,{p0 with Td:=d.2,given:=(w64 (p0.given+1)),Sj:=(mput p0.Sj (w64 (p0.given+1)) (zS.mk a.1 0))})
    |.inr r=>some r
def aD(p0:xH):Option (Int×xH):=
 some (w64 (p0.last+1),(xH.mk (w64 (p0.last+1))))
def bu(p0:xH):Option Int:=
 some p0.last
def xz(p0:zz)(p1:Int)(p2:Int):Option (Int×Int×zz):=
 (aD p0.SB).bind λa=>
 (idx p0.Sc p1).bind λc=>
 (bu a.2).bind λb=>
 some (b,0,(zz.mk a.2 (p0.Sc.set (Int.toNat p1) (xj.mk a.1 p2))))
def vX(p0:zz)(p1:Int)(p2:Int):Option (Int×Int×zz):=
 (je p0 p1).bind λb=>
 if (!b) then
  some (0,2,p0)
 else
  (jf p0 p1).bind λc=>
  if c then
   some (0,42,p0)
  else
   (xz p0 p1 p2).bind λa=>
   some (a.1,a.2.1,a.2.2)
def jA(p0:zb)(p1:Int)(p2:Int):Option yE:=
 if decide (p1<0) then
  some (0,2,p0)
 else
  if decide (p1>=p0.Sc) then
   some (0,2,p0)
  else
   if (jz p0.Sj p2).isSome then
    (jz p0.Sj p2).bind λb=>
    if (!(b.SM==0)) then
     some (0,41,p0)
    else
     (vX p0.Si p1 p2).bind λa=>
     some (a.1,a.2.1,{p0 with Si:=a.2.2})
   else
    some (0,41,p0)
def xA(p0:za)(p1:zB)(p2:Int)(p3:Int)(p4:Int):Option za:=
 (if (p4==0) then
  (qD p0).bind λa=>
  (room (p0.Sw.length+([(zd.mk 11 a 0 0 0 0 p1.cmd.SG p2 p3 0 (zh.mk 0 0 0 0) (zk.mk 0 false 0 false 0 0) 0 0)]).length) 176).bind λd=>
  some {p0 with Sw:=(p0.Sw++[(zd.mk 11 a 0 0 0 0 p1.cmd.SG p2 p3 0 (zh.mk 0 0 0 0) (zk.mk 0 false 0 false 0 0) 0 0)])}
 else
  some p0).bind λb=>
 (jR b p1.SA p3 p4).bind λc=>
 some c
def bD(p0:zz)(p1:Int)(p2:Int):Option (Int×Int×zz):=
 (je p0 p1).bind λb=>
 if (!b) then
  some (0,2,p0)
 else
  (jf p0 p1).bind λc=>
  if (!c) then
   some (0,41,p0)
  else
   (xz p0 p1 p2).bind λa=>
   some (a.1,a.2.1,a.2.2)
def jQ(p0:zb)(p1:Int)(p2:Int):Option yE:=
 if decide (p1<0) then
  some (0,2,p0)
 else
  if decide (p1>=p0.Sc) then
   some (0,2,p0)
  else
   if (jz p0.Sj p2).isSome then
    (jz p0.Sj p2).bind λb=>
    if (!(b.SM==0)) then
     some (0,41,p0)
    else
     (bD p0.Si p1 p2).bind λa=>
     some (a.1,a.2.1,{p0 with Si:=a.2.2})
   else
    some (0,41,p0)
def fL(p0:zz)(p1:List Int)(a:Nat)(again:Unit->Option (Unit⊕(Int×zz)))(g:Unit):Option (Unit⊕(Int×zz)):=
 (idx p1 (a:Int)).bind λb=>
 ((je p0 b).bind λc=>
 if (!c) then
  some true
 else
  (cut p1 0 (a:Int)).bind λd=>
  (zY d b).bind λe=>
  some e).bind λf=>
 if f then
  some (.inr (2,p0))
 else
  again ()
def fM(p0:zz)(p1:List Int)(a:Nat)(again:Unit->Option (Unit⊕(Int×zz)))(d:Unit):Option (Unit⊕(Int×zz)):=
 (idx p1 (a:Int)).bind λb=>
 (jf p0 b).bind λc=>
 if (!c) then
  some (.inr (41,p0))
 else
  again ()
def fN(p1:List Int)(c:Nat)(again:zz->Option zz)(a:zz):Option zz:=
 (idx p1 (c:Int)).bind λb=>
 (idx a.Sc b).bind λd=>
 again (zz.mk a.SB (a.Sc.set (Int.toNat b) (xj.mk 0 0)))
def xQ(p0:zz)(p1:List Int):Option (Int×zz):=
 (jL (fL p0 p1) (λ(e:Unit)=>(.inl ())) (p1).length 0 ()).bind λa=>match a with
  |.inl f=>
   (jL (fM p0 p1) (λ(g:Unit)=>(.inl ())) (p1).length 0 ()).bind λb=>match b with
    |.inl h=>
     (jL (fN p1) (λ(c:zz)=>c) (p1).length 0 p0).bind λd=>
     some (0,d)
    |.inr r=>some r
  |.inr r=>some r
def gn(p0:zz)(p1:List Int)(a:Nat)(again:(List Int)->Option (List Int))(b:(List Int)):Option (List Int):=
 (idx p0.Sc (a:Int)).bind λc=>
 (if decide (c.Sq>0) then
  (zY p1 c.prog).bind λd=>
  some d
 else
  some false).bind λe=>
 if e then
  (room (b.length+([(a:Int)]).length) 8).bind λf=>
  again (b++[(a:Int)])
 else
  again b
def aP(p0:zz)(p1:List Int):Option (List Int):=
 (jL (gn p0 p1) (λ(a:(List Int))=>a) (p0.Sc).length 0 ([]:List Int)).bind λb=>
 some b
def vA(p0:zE):Option (Int×zE):=
 some (w64 (p0.Tt+1),(zE.mk (w64 (p0.Tt+1)) p0.in_))
def qP(p0:zb)(p1:Int):Option yE:=
 if (!(jz p0.Sj p1).isSome) then
  some (0,41,p0)
 else
  (jz p0.Sj p1).bind λb=>
  if decide (b.SM>0) then
   some (0,42,p0)
  else
   (aP p0.Si ([p1])).bind λc=>
   if decide (((c).length:Int)>0) then
    some (0,42,p0)
   else
    (vA p0.Sg).bind λa=>
    (room (p0.waiting.length+([p1]).length) 8).bind λd=>
    some (a.1,0,{p0 with Sg:=a.2,Sj:=(un p0.Sj p1 (zS.mk b.module a.1)),waiting:=(p0.waiting++[p1])})
def qq(p0:List zZ):Option (List zZ):=
 (room (([]:List zZ).length+p0.length) 24).bind λa=>
 some (([]:List zZ)++p0)
def dB(p0:zt)(g0:zP):Option ((List zZ)×zt):=
 (qq p0.waiting).bind λa=>
 some (a,(zt.mk p0.room true ([]:List zZ) (xG.mk p0.counts.Tp p0.counts.Tw p0.counts.TU (w64 (p0.counts.Tx+((p0.waiting).length:Int))) p0.counts.Tv)))
def dp(p0:za)(p1:zB)(a:Nat)(f:(List zt)×(List zd))(c:(List zZ)×zt)(g:Nat)(again:(List zd)->Option (List zd))(b:(List zd)):Option (List zd):=
 (idx c.1 (g:Int)).bind λd=>
 (qD {p0 with RN:=(f.1.set (Int.toNat (a:Int)) c.2),Sa:=p1.SA,closed:=true,Sw:=b}).bind λe=>
 (room (b.length+([(zd.mk 10 e 0 0 0 d.N (a:Int) 0 0 0 (zh.mk 0 0 0 0) (zk.mk 0 false 0 false 0 0) 0 0)]).length) 176).bind λh=>
 again (b++[(zd.mk 10 e 0 0 0 d.N (a:Int) 0 0 0 (zh.mk 0 0 0 0) (zk.mk 0 false 0 false 0 0) 0 0)])
def dq(p0:za)(p1:zB)(b:Nat)(again:((List zt)×(List zd))->Option za)(a:(List zt)×(List zd)):Option za:=
 (idx a.1 (b:Int)).bind λd=>
 (dB d p0.SH).bind λc=>
 (jL (dp p0 p1 b a c) (λ(e:(List zd))=>e) (c.1).length 0 a.2).bind λf=>
 again ((a.1.set (Int.toNat (b:Int)) c.2),f)
def cV(fu:Nat)(p0:za)(p1:zB):Option za:=
 if (p1.cmd.RS==4) then
  (jr fu p0.Fn p1.cmd.Sn).bind λa=>
  (if (a.2.1==0) then
   (qD {p0 with Fn:=a.2.2}).bind λf=>
   (room (p0.Sw.length+([(zd.mk 12 f 0 0 0 0 0 a.1 0 0 (zh.mk 0 0 0 0) (zk.mk 0 false 0 false 0 0) 0 0)]).length) 176).bind λB=>
   some {p0 with Fn:=a.2.2,Sw:=(p0.Sw++[(zd.mk 12 f 0 0 0 0 0 a.1 0 0 (zh.mk 0 0 0 0) (zk.mk 0 false 0 false 0 0) 0 0)])}
  else
   some {p0 with Fn:=a.2.2}).bind λl=>
  (jR l p1.SA a.1 a.2.1).bind λn=>
  some n
 else
  if (p1.cmd.RS==5) then
   (jA p0.Fn p1.cmd.SG p1.cmd.SV).bind λd=>
   (xA {p0 with Fn:=d.2.2} p1 p1.cmd.SV d.1 d.2.1).bind λq=>
   some q
  else
   if (p1.cmd.RS==6) then
    (jQ p0.Fn p1.cmd.SG p1.cmd.SV).bind λe=>
    (xA {p0 with Fn:=e.2.2} p1 p1.cmd.SV e.1 e.2.1).bind λv=>
    some v
   else
    if (p1.cmd.RS==7) then
     (xQ p0.Fn.Si ([p1.cmd.SG])).bind λg=>
     (xA {p0 with Fn:=(zb.mk g.2 p0.Fn.Td p0.Fn.Sg p0.Fn.Sc p0.Fn.maps p0.Fn.given p0.Fn.Sj p0.Fn.waiting)} p1 0 0 g.1).bind λz=>
     some z
    else
     if (p1.cmd.RS==8) then
      (qP p0.Fn p1.cmd.SV).bind λb=>
      if (b.2.1 !=0) then
       (jR {p0 with Fn:=b.2.2} p1.SA 0 b.2.1).bind λA=>
       some A
      else
       (room (p0.held.length+([{p1 with TB:=b.1}]).length) 144).bind λC=>
       some {p0 with Fn:=b.2.2,held:=(p0.held++[{p1 with TB:=b.1}])}
     else
      if (p1.cmd.RS==9) then
       (room (p0.held.length+([p1]).length) 144).bind λD=>
       some {p0 with held:=(p0.held++[p1])}
      else
       if (p1.cmd.RS==10) then
        (jL (dq p0 p1) (λ(h:(List zt)×(List zd))=>{p0 with RN:=h.1,Sa:=p1.SA,closed:=true,Sw:=h.2}) (p0.RN).length 0 (p0.RN,p0.Sw)).bind λc=>
        (qD c).bind λj=>
        (room (c.Sw.length+([(zd.mk 14 j 0 0 0 0 0 0 0 0 (zh.mk 0 0 0 0) (zk.mk 0 false 0 false 0 0) 0 0)]).length) 176).bind λE=>
        some {c with Sw:=(c.Sw++[(zd.mk 14 j 0 0 0 0 0 0 0 0 (zh.mk 0 0 0 0) (zk.mk 0 false 0 false 0 0) 0 0)])}
       else
        some p0
def dC(fu:Nat)(p0:za):Option za:=
 (xm p0).bind λb=>
 if decide (b>=0) then
  (idx p0.held b).bind λc=>
  (qc p0.held b (w64 (b+1))).bind λd=>
  (if (c.cmd.RS==8) then
   (jZ fu p0.Fn 1).bind λf=>
   (qD {p0 with Fn:=f.2,held:=d}).bind λg=>
   (room (p0.Sw.length+([(zd.mk 13 g 0 0 0 0 0 c.cmd.SV 0 0 (zh.mk 0 0 0 0) (zk.mk 0 false 0 false 0 0) 0 0)]).length) 176).bind λA=>
   some {p0 with Fn:=f.2,held:=d,Sw:=(p0.Sw++[(zd.mk 13 g 0 0 0 0 0 c.cmd.SV 0 0 (zh.mk 0 0 0 0) (zk.mk 0 false 0 false 0 0) 0 0)])}
  else
   some {p0 with held:=d}).bind λl=>
  (jR l c.SA 0 0).bind λn=>
  some n
 else
  if (((p0.RW).length:Int)==0) then
   (jR {p0 with over:=true} p0.Sa 0 0).bind λa=>
   (qD a).bind λe=>
   (room (a.Sw.length+([(zd.mk 15 e 0 0 0 0 0 0 0 0 (zh.mk 0 0 0 0) (zk.mk 0 false 0 false 0 0) 0 0)]).length) 176).bind λB=>
   (bm a.Sf ([e])).bind λq=>
   some {a with Sf:=q.2,Sw:=(a.Sw++[(zd.mk 15 e 0 0 0 0 0 0 0 0 (zh.mk 0 0 0 0) (zk.mk 0 false 0 false 0 0) 0 0)])}
  else
   (idx p0.RW 0).bind λh=>
   (cut p0.RW 1 (p0.RW.length:Int)).bind λj=>
   if p0.closed then
    (jR {p0 with RW:=j} h.SA 0 43).bind λv=>
    some v
   else
    (cV fu {p0 with RW:=j} h).bind λz=>
    some z
def am(fu:Nat)(p0:za)(p1:Int)(p2:Bool):Option (Int×Bool×za):=
 if (!p2) then
  some (p1,p2,p0)
 else
  (zU p0).bind λa=>
  if decide (p1<a) then
   (xT p0 p1).bind λb=>
   some (p1,p2,b)
  else
   (qB p0).bind λc=>
   if decide (p1<c) then
    (dy fu p0 p1).bind λd=>
    some (p1,p2,d)
   else
    (qD p0).bind λe=>
    if decide (p1<e) then
     (cD fu p0 p1).bind λf=>
     some (p1,p2,f)
    else
     (dC fu p0).bind λg=>
     some (p1,p2,g)
def xi(fu:Nat)(p0:za)(p1:Int):Option (Int×Bool×za):=
 (xu p0).bind λc=>
 (dx c.Sf p1).bind λa=>
 (am fu {c with Sf:=a.2.2} a.1 a.2.1).bind λb=>
 some (b.1,b.2.1,b.2.2)
def ft(p0:zo)(c:(List Int))(d:Nat)(again:(Int×Bool)->Option (Int×Bool))(a:Int×Bool):Option (Int×Bool):=
 (idx c (d:Int)).bind λb=>
 (if (!a.2) then
  some true
 else
  (idx p0.RT b).bind λe=>
  (idx p0.RT a.1).bind λf=>
  some (decide (e.Tn<f.Tn))).bind λg=>
 if g then
  again (b,true)
 else
  again (a.1,a.2)
def dD(p0:zo):Option (Int×Bool×zo):=
 (xJ p0).bind λb=>
 (jL (ft p0 b) (λ(c:Int×Bool)=>(c.1,c.2)) (b).length 0 (0,false)).bind λd=>
 if (!d.2) then
  some (0,false,p0)
 else
  (aj p0 d.1).bind λa=>
  some (a.1,a.2.1,a.2.2)
def bN(fu:Nat)(p0:za):Option (Int×Bool×za):=
 (xu p0).bind λc=>
 (dD c.Sf).bind λa=>
 (am fu {c with Sf:=a.2.2} a.1 a.2.1).bind λb=>
 some (b.1,b.2.1,b.2.2)
def xW(fu:Nat)(p1:List Int)(a:Nat)(again:za->Option za)(b:za):Option za:=
 (idx p1 (a:Int)).bind λc=>
 (xi fu b c).bind λd=>
 again d.2.2
def jK(fu:Nat)(again:(za×Bool)->Option za)(a:za×Bool):Option za:=
 if a.2 then
  (bN fu a.1).bind λb=>
  again (b.2.2,b.2.1)
 else
  some a.1
def xI(fu:Nat)(p0:za)(p1:List Int):Option (Int×za):=
 (aL p0.Sf).bind λb=>
 (jL (xW fu p1) (λ(c:za)=>c) (p1).length 0 p0).bind λd=>
 (loop (jK fu) fu (d,true)).bind λa=>
 (aL a.Sf).bind λe=>
 some (w64 (e-b),a)
def zK(p0:List zk):Option (List zk):=
 (room (([]:List zk).length+p0.length) 48).bind λa=>
 some (([]:List zk)++p0)
def jq(p0:za)(p1:Int):Option (List zx):=
 if decide (p1<0)||decide (p1>=(p0.or.length:Int)) then some [] else
 (idx p0.or p1).bind λc=>(room (0+c.Se.length) 64).bind λ_=>(c.Se.foldlM (λ(_:Unit)a=>(zK a.SD).bind λ_=>(zy a.Pairs).bind λ_=>some ()) ()).bind λ_=>some c.Se
def hU(p0:zo):Option (List Int):=
 (ef p0 2).bind λa=>
 some a
def hY(p0:za):Option (List Int):=
 (hU p0.Sf).bind λa=>
 some a
def cW(fu:Nat) :Option Bool:=
 (cO fu (zN.mk 1 1 1 1 ([(jg.mk 0 2)])) ([[(zF.mk 0 (zh.mk 0 2 3 9) ([]:List zh) 0 0 0 (qQ.mk 0 0) ([]:List Int)),(zF.mk 3 (zh.mk 0 0 0 0) ([]:List zh) 0 0 0 (qQ.mk 7 0) ([]:List Int)),(zF.mk 10 (zh.mk 0 0 0 0) ([]:List zh) 0 0 0 (qQ.mk 0 0) ([]:List Int))]])).bind λc=>
 aa c.1
  (some false)
  (λf=>
  if (c.2 !=0) then
   some false
  else
   (xI fu f ([]:List Int)).bind λa=>
   (jq a.2 0).bind λd=>
   (hP a.2 0).bind λb=>
   (hY a.2).bind λg=>
   (if (((d).length:Int)==3) then
    (idx d 1).bind λh=>
    if (h.N==1) then
     if (((b.1).length:Int)==1) then
      (idx b.1 0).bind λe=>
      if ((e.SQ==3)&&((e.SJ==9)&&true)) then
       if (b.2==0) then
        some (((g).length:Int)==3)
       else
        some false
      else
       some false
     else
      some false
    else
     some false
   else
    some false).bind λj=>
   some j)
def xB(p0:zN):Option zN:=
 (room (([]:List jg).length+p0.Maps.length) 16).bind λa=>
 some {p0 with Maps:=(([]:List jg)++p0.Maps)}
def vY(p0:List (List zF))(d:Nat)(again:((List zF)×Int)->Option (List zF))(b:(List zF)×Int):Option (List zF):=
 (idx p0 (d:Int)).bind λc=>
 if decide (b.2<((c).length:Int)) then
  (idx c b.2).bind λa=>
  (room (([]:List zh).length+a.Sy.length) 32).bind λe=>
  (room (([]:List Int).length+a.Sn.length) 1).bind λf=>
  (room (b.1.length+([{a with Sy:=(([]:List zh)++a.Sy),Sn:=(([]:List Int)++a.Sn)}]).length) 128).bind λg=>
  again ((b.1++[{a with Sy:=(([]:List zh)++a.Sy),Sn:=(([]:List Int)++a.Sn)}]),w64 (b.2+1))
 else
  some b.1
abbrev yF:=List (List zF)
def cF(fu:Nat)(p0:List (List zF))(c:Nat)(again:yF->Option yF)(a:yF):Option yF:=
 (loop (vY p0 c) fu (([]:List zF),0)).bind λb=>
 (room (a.length+([b]).length) 24).bind λd=>
 again (a++[b])
def xk(fu:Nat)(p0:List (List zF)):Option yF:=
 (jL (cF fu p0) (λ(a:yF)=>a) (p0).length 0 ([]:List (List zF))).bind λb=>
 some b
def qt(p0:List zd):Option (List zd):=
 (room (([]:List zd).length+p0.length) 176).bind λa=>
 some (([]:List zd)++p0)
def vZ(p0:za):Option (List zd):=
 (qt p0.Sw).bind λa=>
 some a
def dW(p0:List zd)(p1:List zd)(c:Nat)(again:Unit->Option (Unit⊕Bool))(d:Unit):Option (Unit⊕Bool):=
 (idx p0 (c:Int)).bind λa=>
 (idx p1 (c:Int)).bind λb=>
 if (!((a.UB==b.UB)&&((a.Ul==b.Ul)&&((a.Te==b.Te)&&((a.UJ==b.UJ)&&((a.TG==b.TG)&&((a.Sl==b.Sl)&&((a.SG==b.SG)&&((a.SV==b.SV)&&((a.Ud==b.Ud)&&((a.Pc==b.Pc)&&(((a.Item.SE==b.Item.SE)&&((a.Item.Op==b.Item.Op)&&((a.Item.SQ==b.Item.SQ)&&((a.Item.SJ==b.Item.SJ)&&true))))&&(((a.SD.E==b.SD.E)&&((a.SD.Found==b.SD.Found)&&((a.SD.SJ==b.SD.SJ)&&((a.SD.Ui==b.SD.Ui)&&((a.SD.Tf==b.SD.Tf)&&((a.SD.Tg==b.SD.Tg)&&true))))))&&((a.SJ==b.SJ)&&((a.E==b.E)&&true))))))))))))))) then
  some (.inr false)
 else
  again ()
def vP(p0:List zd)(p1:List zd):Option Bool:=
 if (((p0).length:Int) !=((p1).length:Int)) then
  some false
 else
  (jL (dW p0 p1) (λ(b:Unit)=>(.inl ())) (p0).length 0 ()).bind λa=>match a with
   |.inl c=>
    some true
   |.inr r=>some r
def vB(p0:za):Option ((List Int)×za):=
 (xu p0).bind λa=>
 (xJ a.Sf).bind λb=>
 some (b,a)
def dr(p0:List zp)(p1:List zp)(a:Nat)(again:Unit->Option (Unit⊕Bool))(d:Unit):Option (Unit⊕Bool):=
 (idx p0 (a:Int)).bind λb=>
 (idx p1 (a:Int)).bind λc=>
 if (!((b.SQ==c.SQ)&&((b.SJ==c.SJ)&&true))) then
  some (.inr false)
 else
  again ()
def aQ(p0:List zp)(p1:List zp):Option Bool:=
 if (((p0).length:Int) !=((p1).length:Int)) then
  some false
 else
  (jL (dr p0 p1) (λ(b:Unit)=>(.inl ())) (p0).length 0 ()).bind λa=>match a with
   |.inl c=>
    some true
   |.inr r=>some r
def bQ(p0:List zx)(p1:List zx)(d:Nat)(again:Int->Option (Unit⊕Bool))(c:Int):Option (Unit⊕Bool):=
 (idx p0 (d:Int)).bind λe=>
 if decide (c<((e.SD).length:Int)) then
  (idx e.SD c).bind λa=>
  (idx p1 (d:Int)).bind λf=>
  (idx f.SD c).bind λb=>
  if (!((a.E==b.E)&&((a.Found==b.Found)&&((a.SJ==b.SJ)&&((a.Ui==b.Ui)&&((a.Tf==b.Tf)&&((a.Tg==b.Tg)&&true))))))) then
   some (.inr false)
  else
   again (w64 (c+1))
 else
  some (.inl ())
def bR(fu:Nat)(p0:List zx)(p1:List zx)(c:Nat)(again:Unit->Option (Unit⊕Bool))(g:Unit):Option (Unit⊕Bool):=
 ((idx p0 (c:Int)).bind λa=>
 (idx p1 (c:Int)).bind λb=>
 if (a.E !=b.E) then
  some true
 else
  if (a.N !=b.N) then
   some true
  else
   if (((a.SD).length:Int) !=((b.SD).length:Int)) then
    some true
   else
    (aQ a.Pairs b.Pairs).bind λd=>
    some (!d)).bind λe=>
 if e then
  some (.inr false)
 else
  (loop (bQ p0 p1 c) fu 0).bind λf=>match f with
   |.inl h=>
    again ()
   |.inr r=>some (.inr r)
def vC(fu:Nat)(p0:List zx)(p1:List zx):Option Bool:=
 if (((p0).length:Int) !=((p1).length:Int)) then
  some false
 else
  (jL (bR fu p0 p1) (λ(b:Unit)=>(.inl ())) (p0).length 0 ()).bind λa=>match a with
   |.inl c=>
    some true
   |.inr r=>some r
def aR(a:(List Int)×za)(b:Int×Bool×za)(c:Nat)(again:Bool->Option Bool)(d:Bool):Option Bool:=
 if d then
  again true
 else
  (idx a.1 (c:Int)).bind λe=>
  again (e==b.1)
def xa(fu:Nat)(p0:jd)(d:Nat)(again:(za×Int)->Option ((za×Int)⊕Bool))(c:za×Int):Option ((za×Int)⊕Bool):=
 (vB c.1).bind λb=>
 (idx p0.SL (d:Int)).bind λe=>
 (xi fu b.2 e).bind λa=>
 if (!(a.2.1==decide (((b.1).length:Int)>0))) then
  some (.inr false)
 else
  (jL (aR b a) (λ(f:Bool)=>f) (b.1).length 0 (!a.2.1)).bind λg=>
  if (!g) then
   some (.inr false)
  else
   if a.2.1 then
    again (a.2.2,w64 (c.2+1))
   else
    again (a.2.2,c.2)
def jB(fu:Nat)(again:(za×Int×Bool)->Option (za×Int))(a:za×Int×Bool):Option (za×Int):=
 if a.2.2 then
  (bN fu a.1).bind λb=>
  if b.2.1 then
   again (b.2.2,w64 (a.2.1+1),b.2.1)
  else
   again (b.2.2,a.2.1,b.2.1)
 else
  some (a.1,a.2.1)
def aS(fu:Nat)(p0:jd)(c:za×Int)(d:za×Bool)(a:Nat)(again:Unit->Option (Unit⊕Bool))(j:Unit):Option (Unit⊕Bool):=
 (jq d.1 (a:Int)).bind λb=>
 ((idx p0.SO (a:Int)).bind λe=>
 if (((b).length:Int) !=((e).length:Int)) then
  some true
 else
  (jq c.1 (a:Int)).bind λf=>
  (vC fu b f).bind λg=>
  some (!g)).bind λh=>
 if h then
  some (.inr false)
 else
  again ()
def xb(fu:Nat)(p0:jd):Option Bool:=
 (cW fu).bind λl=>
 if (!l) then
  some false
 else
  (xB p0.C).bind λn=>
  (xk fu p0.SO).bind λq=>
  (cO fu n q).bind λb=>
  aa b.1
   ((xB p0.C).bind λv=>
   (xk fu p0.SO).bind λz=>
   (cO fu v z).bind λe=>
   aa e.1
    (some ((b.2 !=0)&&(b.2==e.2)))
    (λL=>
    some false))
   (λA=>
   (xB p0.C).bind λB=>
   (xk fu p0.SO).bind λD=>
   (cO fu B D).bind λE=>
   aa E.1
    (some false)
    (λF=>
    (jL (xa fu p0) (λ(f:za×Int)=>(.inl (f.1,f.2))) (p0.SL).length 0 (F,0)).bind λG=>match G with
     |.inl g=>
      (loop (jB fu) fu (g.1,g.2,true)).bind λc=>
      ((xI fu A p0.SL).bind λa=>
      if (a.1 !=c.2) then
       some (a.2,true)
      else
       (vZ a.2).bind λH=>
       (vZ c.1).bind λI=>
       (vP H I).bind λJ=>
       if (!J) then
        some (a.2,true)
       else
        (vB a.2).bind λd=>
        if (((d.1).length:Int) !=0) then
         some (d.2,true)
        else
         (xI fu d.2 p0.SL).bind λh=>
         some (h.2,(h.1 !=0))).bind λj=>
      if j.2 then
       some false
      else
       (jL (aS fu p0 c j) (λ(M:Unit)=>(.inl ())) (p0.SO).length 0 ()).bind λK=>match K with
        |.inl N=>
         some true
        |.inr r=>some r
     |.inr r=>some r))
end Go.Proofs.YtplmgfkghomelaaGreatDoor
