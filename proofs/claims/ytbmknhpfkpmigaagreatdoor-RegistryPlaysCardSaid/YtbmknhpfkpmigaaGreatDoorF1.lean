/- Texts F1 of this proof. -/
import Derived.Test.YtbmknhpfkpmigaaGreatDoorHole
set_option linter.unusedSimpArgs false
namespace Go.Proofs.YtbmknhpfkpmigaaGreatDoor
open Go.Sx
set_option linter.unusedVariables false
structure qW where
 version:Int
 prog:Int
def zdo (x:qW):List Value:= [.int .i64 x.version,.int .i64 x.prog]
structure xt where
 last:Int
structure zo where
 Versions:xt
 hooks:List qW
def zrm:Rp (List qW):=zhc 207 (zdo) 2 (fun _=>rfl) (by decide)
def zfL:Rp zo:=qU (fun (x:zo) vs=> [.int .i64 x.Versions.last,vs.getD 0 undef]) 2 (fun _ _=>rfl) (fun x=>x.hooks) (zrm)
def vq:Rp zo:=za3 160 zfL
def zeX:Rp (List Int):=zhc 3 (zn .i64) 1 (fun _=>rfl) (by decide)
structure zw where
 maps:Int
 held:List (Int×(List Int))
def zrn:Rp (List (Int×(List Int))):=zkk zeX
def zel:Rp zw:=qU (fun (x:zw) vs=> [.int .i64 x.maps,vs.getD 0 undef]) 2 (fun _ _=>rfl) (fun x=>x.held) (zrn)
def xB:Rp zw:=za3 197 zel
structure zt where
 now:Int
 in_:List Int
def zeN:Rp zt:=qU (fun (x:zt) vs=> [.int .i64 x.now,vs.getD 0 undef]) 2 (fun _ _=>rfl) (fun x=>x.in_) (zeX)
def vB:Rp zt:=za3 199 zeN
structure ze where
 Op:Int
 D:Int
 A:Int
 B:Int
 Imm:Int
def zp (x:ze):List Value:= [.int .i64 x.Op,.int .i64 x.D,.int .i64 x.A,.int .i64 x.B,.int .i64 x.Imm]
structure zg where
 Ms:List Int
 Co:List ze
structure zr where
 mo:zg
 retiring:Int
def zro:Rp (List ze):=zhc 65 (zp) 5 (fun _=>rfl) (by decide)
def zfM:Rp zr:=qU (fun (x:zr) vs=> [vs.getD 0 undef,vs.getD 1 undef,.int .i64 x.retiring]) 3 (fun _ _=>rfl) (fun x=>(x.mo.Ms,x.mo.Co)) (vM zeX zro)
def zeO:Rp zr:=za3 192 zfM
structure za where
 Table:zo
 Refs:zw
 Clock:zt
 hooks:Int
 maps:Int
 given:Int
 progs:List (Int×zr)
 waiting:List Int
def zrp:Rp (List (Int×zr)):=zkk zeO
def jC:Rp za:=qU (fun (x:za) vs=> [vs.getD 0 undef,vs.getD 1 undef,vs.getD 2 undef,.int .i64 x.hooks,.int .i64 x.maps,.int .i64 x.given,vs.getD 3 undef,vs.getD 4 undef]) 8 (fun _ _=>rfl) (fun x=>(x.Table,(x.Refs,(x.Clock,(x.progs,x.waiting))))) (vM vq (vM xB (vM vB (vM zrp zeX))))
def jr:Rp za:=za3 130 jC
structure zk where
 b:List Int
 at_:Int
 field:Int
 e:Int
def zaV (wb:World) (Sb:List Nat):Rp zk:=qU (fun (x:zk) vs=> [vs.getD 0 undef,.int .i64 x.at_,.int .i64 x.field,.int .i64 x.e]) 4 (fun _ _=>rfl) (fun x=>x.b) ((zri wb Sb (zn .u8) 1))
def zcl (wb:World) (Sb:List Nat):Rp zk:=za3 238 (zaV wb Sb)
structure qg where
 name:ByteArray
 fields:ByteArray
def zI (x:qg):List Value:= [.string x.name,.string x.fields]
def vT:List qg:= [(qg.mk (⟨[115,101,116].toArray⟩) (⟨[100,115].toArray⟩)),
 (qg.mk (⟨[97,100,100].toArray⟩) (⟨[100,97,115].toArray⟩)),
 (qg.mk (⟨[115,117,98].toArray⟩) (⟨[100,97,115].toArray⟩)),
 (qg.mk (⟨[109,117,108].toArray⟩) (⟨[100,97,115].toArray⟩)),
 (qg.mk (⟨[100,105,118].toArray⟩) (⟨[100,97,115].toArray⟩)),
 (qg.mk (⟨[114,101,109].toArray⟩) (⟨[100,97,115].toArray⟩)),
 (qg.mk (⟨[97,110,100].toArray⟩) (⟨[100,97,115].toArray⟩)),
 (qg.mk (⟨[111,114].toArray⟩) (⟨[100,97,115].toArray⟩)),
 (qg.mk (⟨[120,111,114].toArray⟩) (⟨[100,97,115].toArray⟩)),
 (qg.mk (⟨[115,104,108].toArray⟩) (⟨[100,97,115].toArray⟩)),
 (qg.mk (⟨[115,104,114].toArray⟩) (⟨[100,97,115].toArray⟩)),
 (qg.mk (⟨[108,111,97,100].toArray⟩) (⟨[100,115].toArray⟩)),
 (qg.mk (⟨[115,116,111,114,101].toArray⟩) (⟨[97,115].toArray⟩)),
 (qg.mk (⟨[102,105,101,108,100].toArray⟩) (⟨[100,102].toArray⟩)),
 (qg.mk (⟨[109,97,112].toArray⟩) (⟨[100,109].toArray⟩)),
 (qg.mk (⟨[106,117,109,112].toArray⟩) (⟨[106].toArray⟩)),
 (qg.mk (⟨[106,101,113].toArray⟩) (⟨[106,97,115].toArray⟩)),
 (qg.mk (⟨[106,110,101].toArray⟩) (⟨[106,97,115].toArray⟩)),
 (qg.mk (⟨[106,108,116].toArray⟩) (⟨[106,97,115].toArray⟩)),
 (qg.mk (⟨[106,103,101].toArray⟩) (⟨[106,97,115].toArray⟩)),
 (qg.mk (⟨[108,111,111,112].toArray⟩) (⟨[98,97,110].toArray⟩)),
 (qg.mk (⟨[99,97,108,108].toArray⟩) (⟨[104].toArray⟩)),
 (qg.mk (⟨[101,120,105,116].toArray⟩) (⟨[97].toArray⟩))]
structure zP where
 Head:Int
 At:Int
 Bound:Int
def jG (x:zP):List Value:= [.int .i64 x.Head,.int .i64 x.At,.int .i64 x.Bound]
structure zc where
 Lo:Int
 Hi:Int
def xv (x:zc):List Value:= [.int .u64 x.Lo,.int .u64 x.Hi]
structure zb where
 Ki:Int
 Sp:zc
 Map:Int
def zi (x:zb):List Value:= [.int .i64 x.Ki,.int .u64 x.Sp.Lo,.int .u64 x.Sp.Hi,.int .i64 x.Map]
structure zf where
 Module:zg
 ca:List (Nat->zb)
 any:List Bool
 loops:List zP
def zrq:Rp (List (Nat->zb)):=zhc 297 (zcG (zi) 8) 32 (fun _=>rfl) (by decide)
def zrr:Rp (List Bool):=zhc 4 (zef) 1 (fun _=>rfl) (by decide)
def zrs:Rp (List zP):=zhc 334 (jG) 3 (fun _=>rfl) (by decide)
def zbP (wb:World) (Sb:List Nat):Rp zf:=qU (fun (x:zf) vs=> [vs.getD 0 undef,vs.getD 1 undef,vs.getD 2 undef,vs.getD 3 undef,vs.getD 4 undef]) 5 (fun _ _=>rfl) (fun x=>(x.Module.Ms,(x.Module.Co,(x.ca,(x.any,x.loops))))) (vM (zri wb Sb (zn .i64) 1) (vM (zri wb Sb (zp) 5) (vM zrq (vM zrr zrs))))
def zbx (wb:World) (Sb:List Nat):Rp zf:=za3 287 (zbP wb Sb)
structure zas where
 name:ByteArray
 wants:ByteArray
 most:Int
 asks:Int
 isAsked:Bool
def qL (x:zas):List Value:= [.string x.name,.string x.wants,.int .u64 x.most,.int .i64 x.asks,.bool x.isAsked]
def zcH:List zas:= [(zas.mk (⟨[103,101,116].toArray⟩) (⟨[104,110].toArray⟩) 18446744073709551615 0 true),
 (zas.mk (⟨[104,97,115].toArray⟩) (⟨[104,110].toArray⟩) 1 1 true),
 (zas.mk (⟨[112,117,116].toArray⟩) (⟨[104,110,110].toArray⟩) 1 2 true),
 (zas.mk (⟨[100,101,108].toArray⟩) (⟨[104,110].toArray⟩) 1 3 true),
 (zas.mk (⟨[97,100,100].toArray⟩) (⟨[104,110,110].toArray⟩) 18446744073709551615 4 true),
 (zas.mk (⟨[109,97,114,107].toArray⟩) (⟨[115].toArray⟩) 18446744073709551615 0 false),
 (zas.mk (⟨[110,111,116,101].toArray⟩) (⟨[110].toArray⟩) 0 0 false)]
structure qa where
 Hook:Int
 Prog:Int
 Version:Int
def vO (x:qa):List Value:= [.int .i64 x.Hook,.int .i64 x.Prog,.int .i64 x.Version]
structure zl where
 Hooks:Int
 Last:Int
 Steps:List qa
def zrt:Rp (List qa):=zhc 209 (vO) 3 (fun _=>rfl) (by decide)
def zb7:Rp zl:=qU (fun (x:zl) vs=> [.int .i64 x.Hooks,.int .i64 x.Last,vs.getD 0 undef]) 3 (fun _ _=>rfl) (fun x=>x.Steps) (zrt)
structure zx where
 Ki:Int
 Worker:Int
def xP (x:zx):List Value:= [.int .i64 x.Ki,.int .i64 x.Worker]
structure zj where
 Workers:Int
 Steps:List zx
def zru:Rp (List zx):=zhc 217 (xP) 2 (fun _=>rfl) (by decide)
def zb8:Rp zj:=qU (fun (x:zj) vs=> [.int .i64 x.Workers,vs.getD 0 undef]) 2 (fun _ _=>rfl) (fun x=>x.Steps) (zru)
structure zm where
 M:zg
 State:Int
 Epoch:Int
def zlr:Rp zm:=qU (fun (x:zm) vs=> [vs.getD 0 undef,vs.getD 1 undef,.int .i64 x.State,.int .i64 x.Epoch]) 4 (fun _ _=>rfl) (fun x=>(x.M.Ms,x.M.Co)) (vM zeX zro)
structure zd where
 Ms:Int
 T:zl
 C:zj
 Progs:List zm
 Line:List Int
def zbQ:Rp zl:=za3 140 zb7
def zan:Rp zj:=za3 144 zb8
def zrv:Rp (List zm):=zq4 167 zlr (by decide)
def qq:Rp zd:=qU (fun (x:zd) vs=> [.int .i64 x.Ms,vs.getD 0 undef,vs.getD 1 undef,vs.getD 2 undef,vs.getD 3 undef]) 5 (fun _ _=>rfl) (fun x=>(x.T,(x.C,(x.Progs,x.Line)))) (vM zbQ (vM zan (vM zrv zeX)))
def xW:Rp zd:=za3 147 qq
def vU:Rp (List zb):=zhc 295 (zi) 4 (fun _=>rfl) (by decide)
structure qD where
 Ki:Int
 A:Int
 B:Int
 Bytes:List Int
def zsj:Rp (List Int):=zhc 5 (zn .u8) 1 (fun _=>rfl) (by decide)
def zqa:Rp qD:=qU (fun (x:qD) vs=> [.int .i64 x.Ki,.int .i64 x.A,.int .i64 x.B,vs.getD 0 undef]) 4 (fun _ _=>rfl) (fun x=>x.Bytes) (zsj)
def zat (p0:List Int) (p1:Int) (a:Nat) (again:Unit->Option (Unit ⊕ Int)) (c:Unit):Option (Unit ⊕ Int):=
 (idx p0 (a:Int)).bind fun b=>
 if (p1==b) then
  some (.inr (a:Int))
 else
  again ()
def xb (p0:List Int) (p1:Int):Option Int:=
 (qf (zat p0 p1) (fun (b:Unit)=>(.inl ())) (p0).length 0 ()).bind fun a=>match a with
  | .inl c=>
   some (-1)
  | .inr r=>some r
def zC (p0:List Int) (p1:Int):Option Bool:=
 (xb p0 p1).bind fun a=>
 some (decide (a>=0))
def ql (p0:Int) (p1:List Int):Option Bool:=
 (zC p1 p0).bind fun a=>
 some a
def zcI (p0:Int):Option ((Option zo)×Int):=
 if (decide (p0<1)||decide (p0>4)) then
  some (none,2)
 else
  (mkLen p0 16).bind fun a=>
  some ((some (zo.mk (xt.mk 0) (List.replicate a (qW.mk 0 0)))),0)
def zc8 (p0:Int):Option ((Option zw)×Int):=
 if (decide (p0<0)||decide (p0>4)) then
  some (none,2)
 else
  some ((some (zw.mk p0 ([]:List (Int×(List Int))))),0)
def za4 (p0:Int):Option ((Option zt)×Int):=
 if (decide (p0<1)||decide (p0>4)) then
  some (none,2)
 else
  (mkLen p0 8).bind fun a=>
  some ((some (zt.mk 1 (List.replicate a 0))),0)
def qy (p0:Int) (p1:Int) (p2:Int):Option ((Option za)×Int):=
 (zcI p0).bind fun a=>
 zdV a.1
  ((zc8 p1).bind fun b=>
  zdV b.1
   ((za4 p2).bind fun d=>
   zdV d.1
    (if (((a.2 != 0)||(b.2 != 0))||(d.2 != 0)) then
     some (none,2)
    else
     none)
    (fun n=>
    if (((a.2 != 0)||(b.2 != 0))||(d.2 != 0)) then
     some (none,2)
    else
     none))
   (fun q=>
   (za4 p2).bind fun e=>
   zdV e.1
    (if (((a.2 != 0)||(b.2 != 0))||(e.2 != 0)) then
     some (none,2)
    else
     none)
    (fun v=>
    if (((a.2 != 0)||(b.2 != 0))||(e.2 != 0)) then
     some (none,2)
    else
     none)))
  (fun h=>
  (zc8 p1).bind fun c=>
  zdV c.1
   ((za4 p2).bind fun f=>
   zdV f.1
    (if (((a.2 != 0)||(c.2 != 0))||(f.2 != 0)) then
     some (none,2)
    else
     none)
    (fun z=>
    if (((a.2 != 0)||(c.2 != 0))||(f.2 != 0)) then
     some (none,2)
    else
     none))
   (fun j=>
   (za4 p2).bind fun g=>
   zdV g.1
    (if (((a.2 != 0)||(c.2 != 0))||(g.2 != 0)) then
     some (none,2)
    else
     none)
    (fun l=>
    if (((a.2 != 0)||(c.2 != 0))||(g.2 != 0)) then
     some (none,2)
    else
     some ((some (za.mk h j l p0 p1 0 ([]:List (Int×zr)) ([]:List Int))),0))))
def zeP :Option (List Int):=
 some ([84,80,1,1,2,2,0,0,0,8,10,22,0,0,0,0]:List Int)
def zu (p0:zk) (p1:Int):Option zk:=
 if (p0.e==0) then
  some (zk.mk p0.b p0.at_ p0.field p1)
 else
  some p0
def zJ (again:zk->Option zk) (a:zk):Option zk:=
 if (decide (a.at_<3)&&(a.e==0)) then
  (if decide (a.at_>=((a.b).length:Int)) then
   (zu (zk.mk a.b a.at_ a.at_ a.e) 10).bind fun d=>
   some d
  else
   (idx a.b a.at_).bind fun f=>
   (zid (⟨[84,80,1].toArray⟩) a.at_).bind fun g=>
   if (f != g) then
    (zu (zk.mk a.b a.at_ a.at_ a.e) 12).bind fun h=>
    some h
   else
    some (zk.mk a.b a.at_ a.at_ a.e)).bind fun c=>
  again (zk.mk c.b (w64 (c.at_+1)) c.field c.e)
 else
  some a
def qE (fu:Nat) (p0:zk):Option zk:=
 (loop zJ fu p0).bind fun a=>
 some a
def zfn (p0:List Int) (a:Nat) (again:Int->Option (Unit ⊕ (Int×Int×Int))) (c:Int):Option (Unit ⊕ (Int×Int×Int)):=
 (idx p0 (a:Int)).bind fun b=>
 if ((((a:Int)==9)&&decide (b>1))||(decide ((a:Int)>0)&&(b==0))) then
  some (.inr (0,0,12))
 else
  (nn (w64 (7*(a:Int)))).bind fun d=>
  if decide (b<128) then
   some (.inr (bOr .u64 c (zgJ .u64 (jy (zex .u8 b 127)) (w64 (7*(a:Int)))),w64 ((a:Int)+1),0))
  else
   again (bOr .u64 c (zgJ .u64 (jy (zex .u8 b 127)) (w64 (7*(a:Int)))))
def zeY (p0:List Int):Option (Int×Int×Int):=
 (qf (zfn p0) (fun (b:Int)=>(.inl ())) (p0).length 0 0).bind fun a=>match a with
  | .inl c=>
   some (0,0,10)
  | .inr r=>some r
def zy (p0:zk) (p1:Int) (p2:Int):Option (Int×zk):=
 if (p0.e != 0) then
  some (0,p0)
 else
  (cut p0.b p0.at_ (p0.b.length:Int)).bind fun c=>
  (zeY c).bind fun a=>
  if (a.2.2 != 0) then
   (zu (zk.mk p0.b (w64 (p0.at_+a.2.1)) p0.at_ p0.e) a.2.2).bind fun d=>
   some (0,d)
  else
   if decide (a.1>p1) then
    (zu (zk.mk p0.b (w64 (p0.at_+a.2.1)) p0.at_ p0.e) p2).bind fun f=>
    some (0,f)
   else
    some (w64 a.1,(zk.mk p0.b (w64 (p0.at_+a.2.1)) p0.at_ p0.e))
def zcp (p0:List Int):Option (Int×Int×Int):=
 (zeY p0).bind fun a=>
 some (zio .i64 (w64 (zb4 .u64 a.1 1)) (w64 (0-(w64 (zex .u64 a.1 1)))),a.2.1,a.2.2)
def zcn (p0:Int):Option (qg×Bool):=
 if (decide (p0<0)||decide (p0>=23)) then
  some ((qg.mk ByteArray.empty ByteArray.empty),false)
 else
  (idx vT p0).bind fun a=>
  some (a,true)
def zbR (p0:Int):Option Bool:=
 some (decide (p0>=0)&&decide (p0<8))
def zbi (p0:Int) (p1:Int) (p2:Int):Option Bool:=
 some (decide (p0>=p1)&&decide (p0<=p2))
def zdZ (p0:ze) (c:qg×Bool) (d:Nat) (again:(Bool×ze)->Option (Bool×ze)) (a:Bool×ze):Option (Bool×ze):=
 (zid c.1.fields (d:Int)).bind fun b=>
 if (b==100) then
  if a.1 then
   (zbR p0.D).bind fun e=>
   again (e,(ze.mk a.2.Op 0 a.2.A a.2.B a.2.Imm))
  else
   again (false,(ze.mk a.2.Op 0 a.2.A a.2.B a.2.Imm))
 else
  if (b==97) then
   if a.1 then
    (zbR p0.A).bind fun f=>
    again (f,(ze.mk a.2.Op a.2.D 0 a.2.B a.2.Imm))
   else
    again (false,(ze.mk a.2.Op a.2.D 0 a.2.B a.2.Imm))
  else
   if (b==115) then
    if (p0.B==8) then
     again (a.1,(ze.mk a.2.Op a.2.D a.2.A 0 0))
    else
     if a.1 then
      (zbR p0.B).bind fun g=>
      again (g,(ze.mk a.2.Op a.2.D a.2.A 0 a.2.Imm))
     else
      again (false,(ze.mk a.2.Op a.2.D a.2.A 0 a.2.Imm))
   else
    if (b==102) then
     if a.1 then
      (zbi p0.Imm 0 1).bind fun h=>
      again (h,(ze.mk a.2.Op a.2.D a.2.A a.2.B 0))
     else
      again (false,(ze.mk a.2.Op a.2.D a.2.A a.2.B 0))
    else
     if (b==109) then
      if a.1 then
       (zbi p0.Imm 0 3).bind fun j=>
       again (j,(ze.mk a.2.Op a.2.D a.2.A a.2.B 0))
      else
       again (false,(ze.mk a.2.Op a.2.D a.2.A a.2.B 0))
     else
      if (b==104) then
       if a.1 then
        (zbi p0.Imm 0 6).bind fun l=>
        again (l,(ze.mk a.2.Op a.2.D a.2.A a.2.B 0))
       else
        again (false,(ze.mk a.2.Op a.2.D a.2.A a.2.B 0))
      else
       if (b==110) then
        if a.1 then
         (zbi p0.Imm 1 255).bind fun n=>
         again (n,(ze.mk a.2.Op a.2.D a.2.A a.2.B 0))
        else
         again (false,(ze.mk a.2.Op a.2.D a.2.A a.2.B 0))
       else
        if (b==106) then
         if a.1 then
          (zbi p0.D 0 63).bind fun q=>
          again (q,(ze.mk a.2.Op 0 a.2.A a.2.B a.2.Imm))
         else
          again (false,(ze.mk a.2.Op 0 a.2.A a.2.B a.2.Imm))
        else
         if (b==98) then
          if a.1 then
           (zbi p0.D 1 63).bind fun v=>
           again (v,(ze.mk a.2.Op 0 a.2.A a.2.B a.2.Imm))
          else
           again (false,(ze.mk a.2.Op 0 a.2.A a.2.B a.2.Imm))
         else
          again (a.1,a.2)
def vC (p0:ze):Option Bool:=
 (zcn p0.Op).bind fun b=>
 if (!b.2) then
  some false
 else
  ((room b.1.fields.size 1).bind fun e=>
  qf (zdZ p0 b) (fun (c:Bool×ze)=>(c.1,c.2)) b.1.fields.size 0 (b.2,(ze.mk 0 p0.D p0.A p0.B p0.Imm))).bind fun a=>
  (if a.1 then
   some ((a.2.Op==0)&&((a.2.D==0)&&((a.2.A==0)&&((a.2.B==0)&&((a.2.Imm==0)&&true)))))
  else
   some false).bind fun d=>
  some d
def zcJ (p0:List ze) (a:Nat) (again:Unit->Option (Unit ⊕ Bool)) (d:Unit):Option (Unit ⊕ Bool):=
 (idx p0 (a:Int)).bind fun b=>
 (vC b).bind fun c=>
 if (!c) then
  some (.inr false)
 else
  again ()
def zby (p0:List ze):Option Bool:=
 (qf (zcJ p0) (fun (b:Unit)=>(.inl ())) (p0).length 0 ()).bind fun a=>match a with
  | .inl c=>
   some true
  | .inr r=>some r
def jc (p0:zk):Option (ze×zk):=
 (zy p0 22 12).bind fun d=>
 (zy d.2 63 12).bind fun f=>
 (zy f.2 63 12).bind fun g=>
 (zy g.2 63 12).bind fun a=>
 if (a.2.e != 0) then
  some ((ze.mk d.1 f.1 g.1 a.1 0),a.2)
 else
  (cut a.2.b a.2.at_ (a.2.b.length:Int)).bind fun h=>
  (zcp h).bind fun c=>
  if (c.2.2 != 0) then
   (zu (zk.mk a.2.b (w64 (a.2.at_+c.2.1)) a.2.at_ a.2.e) c.2.2).bind fun j=>
   some ((ze.mk d.1 f.1 g.1 a.1 c.1),j)
  else
   (zby ([(ze.mk d.1 f.1 g.1 a.1 c.1)])).bind fun l=>
   if (!l) then
    (zu (zk.mk a.2.b (w64 (a.2.at_+c.2.1)) p0.at_ a.2.e) 12).bind fun n=>
    some ((ze.mk d.1 f.1 g.1 a.1 c.1),n)
   else
    some ((ze.mk d.1 f.1 g.1 a.1 c.1),(zk.mk a.2.b (w64 (a.2.at_+c.2.1)) a.2.at_ a.2.e))
def jT (d:Int×zk) (again:(zk×(List Int)×Int)->Option (zk×(List Int))) (a:zk×(List Int)×Int):Option (zk×(List Int)):=
 if decide (a.2.2<d.1) then
  (zy a.1 3 12).bind fun b=>
  (zC a.2.1 b.1).bind fun f=>
  (if f then
   (zu b.2 12).bind fun g=>
   some g
  else
   some b.2).bind fun c=>
  if (c.e != 0) then
   some (c,a.2.1)
  else
   (room (a.2.1.length+([b.1]).length) 8).bind fun h=>
   again (c,(a.2.1++ [b.1]),w64 (a.2.2+1))
 else
  some (a.1,a.2.1)
def qF (c:Int×zk) (again:(zk×(List ze)×Int)->Option (zk×(List ze))) (a:zk×(List ze)×Int):Option (zk×(List ze)):=
 if (decide (a.2.2<c.1)&&(a.1.e==0)) then
  (jc a.1).bind fun b=>
  (room (a.2.1.length+([b.1]).length) 40).bind fun d=>
  again (b.2,(a.2.1++ [b.1]),w64 (a.2.2+1))
 else
  some (a.1,a.2.1)
def xF (fu:Nat) (p0:List Int):Option (zg×Int×Int):=
 (qE fu (zk.mk p0 0 0 0)).bind fun h=>
 (zy h 4 11).bind fun f=>
 (loop (jT f) fu (f.2,([]:List Int),0)).bind fun g=>
 (zy g.1 64 11).bind fun c=>
 (if (c.1==0) then
  (zu c.2 12).bind fun j=>
  some j
 else
  some c.2).bind fun l=>
 (loop (qF c) fu (l,([]:List ze),0)).bind fun a=>
 (if ((a.1.e==0)&&decide (a.1.at_<((p0).length:Int))) then
  (zu (zk.mk a.1.b a.1.at_ a.1.at_ a.1.e) 13).bind fun n=>
  some n
 else
  some a.1).bind fun d=>
 if (d.e != 0) then
  some ((zg.mk ([]:List Int) ([]:List ze)),d.field,d.e)
 else
  some ((zg.mk g.2 a.2),0,0)
def zgf (p0:List Int) (b:Nat) (again:Unit->Option (Unit ⊕ Bool)) (f:Unit):Option (Unit ⊕ Bool):=
 (idx p0 (b:Int)).bind fun a=>
 (if decide (a<0) then
  some true
 else
  if decide (a>=4) then
   some true
  else
   (cut p0 0 (b:Int)).bind fun c=>
   (zC c a).bind fun d=>
   some d).bind fun e=>
 if e then
  some (.inr false)
 else
  again ()
def zdj (p0:List Int):Option Bool:=
 (qf (zgf p0) (fun (b:Unit)=>(.inl ())) (p0).length 0 ()).bind fun a=>match a with
  | .inl c=>
   some (decide (((p0).length:Int)<=4))
  | .inr r=>some r
def zhe (p0:qg) (p1:Int) (a:Nat) (again:Unit->Option (Unit ⊕ Bool)) (c:Unit):Option (Unit ⊕ Bool):=
 (zid p0.fields (a:Int)).bind fun b=>
 if (b==p1) then
  some (.inr true)
 else
  again ()
def qQ (p0:qg) (p1:Int):Option Bool:=
 ((room p0.fields.size 1).bind fun b=>
 qf (zhe p0 p1) (fun (c:Unit)=>(.inl ())) p0.fields.size 0 ()).bind fun a=>match a with
  | .inl d=>
   some false
  | .inr r=>some r
def zeA (p0:ze):Option (Int×Bool×Bool):=
 (vC p0).bind fun b=>
 if (!b) then
  some (0,false,false)
 else
  (zcn p0.Op).bind fun a=>
  (qQ a.1 106).bind fun c=>
  if c then
   some (w64 (p0.D+1),true,(p0.Op != 15))
  else
   (qQ a.1 98).bind fun d=>
   if d then
    some (w64 (0-p0.D),true,true)
   else
    some (0,false,(p0.Op != 22))
def zfN (p0:List ze) (a:Nat) (again:Unit->Option (Unit ⊕ (Int×Int))) (e:Unit):Option (Unit ⊕ (Int×Int)):=
 (idx p0 (a:Int)).bind fun c=>
 (zeA c).bind fun b=>
 (zby ([c])).bind fun d=>
 if (!d) then
  some (.inr ((a:Int),12))
 else
  if (b.2.1&&(decide ((w64 ((a:Int)+b.1))<0)||decide ((w64 ((a:Int)+b.1))>=((p0).length:Int)))) then
   some (.inr ((a:Int),30))
  else
   if (b.2.2&&((a:Int)==(w64 (((p0).length:Int)-1)))) then
    some (.inr ((a:Int),36))
   else
    again ()
def zdp (p0:List ze):Option (Int×Int):=
 (qf (zfN p0) (fun (b:Unit)=>(.inl ())) (p0).length 0 ()).bind fun a=>match a with
  | .inl c=>
   some (0,0)
  | .inr r=>some r
def zgg (p0:List ze) (a:Nat) (again:(List zP)->Option (List zP)) (c:(List zP)):Option (List zP):=
 (idx p0 (a:Int)).bind fun b=>
 if (b.Op==20) then
  (room (c.length+([(zP.mk (w64 ((a:Int)-b.D)) (a:Int) b.Imm)]).length) 24).bind fun d=>
  again (c++ [(zP.mk (w64 ((a:Int)-b.D)) (a:Int) b.Imm)])
 else
  again c
def zcq (p0:List ze):Option (List zP):=
 (qf (zgg p0) (fun (a:(List zP))=>a) (p0).length 0 ([]:List zP)).bind fun b=>
 some b
def zfR (p0:zP) (p1:Int):Option Bool:=
 some (decide (p1>=p0.Head)&&decide (p1<=p0.At))
def zd7 (a:zP) (c:List zP) (d:Nat) (again:Unit->Option (Unit ⊕ (Int×Int))) (e:Unit):Option (Unit ⊕ (Int×Int)):=
 (idx c (d:Int)).bind fun b=>
 if (decide (b.At>=a.Head)&&decide (b.Head<a.Head)) then
  some (.inr (a.At,31))
 else
  again ()
def zcA (a:(List zP)) (b:Nat) (again:Unit->Option (Unit ⊕ (Int×Int))) (f:Unit):Option (Unit ⊕ (Int×Int)):=
 (idx a (b:Int)).bind fun d=>
 (cut a 0 (b:Int)).bind fun c=>
 (qf (zd7 d c) (fun (g:Unit)=>(.inl ())) (c).length 0 ()).bind fun e=>match e with
  | .inl h=>
   again ()
  | .inr r=>some (.inr r)
def zd8 (d:(List zP)) (a:Nat) (b:Int×Bool×Bool) (e:Nat) (again:Unit->Option (Unit ⊕ (Int×Int))) (j:Unit):Option (Unit ⊕ (Int×Int)):=
 (idx d (e:Int)).bind fun c=>
 (if b.2.1 then
  if decide (b.1>0) then
   (zfR c (a:Int)).bind fun f=>
   if (!f) then
    (zfR c (w64 ((a:Int)+b.1))).bind fun g=>
    if g then
     some ((w64 ((a:Int)+b.1)) != c.Head)
    else
     some false
   else
    some false
  else
   some false
 else
  some false).bind fun h=>
 if h then
  some (.inr ((a:Int),31))
 else
  again ()
def zd9 (p0:List ze) (a:(List zP)) (b:Nat) (again:Unit->Option (Unit ⊕ (Int×Int))) (f:Unit):Option (Unit ⊕ (Int×Int)):=
 (idx p0 (b:Int)).bind fun c=>
 (zeA c).bind fun d=>
 (qf (zd8 a b d) (fun (g:Unit)=>(.inl ())) (a).length 0 ()).bind fun e=>match e with
  | .inl h=>
   again ()
  | .inr r=>some (.inr r)
def zdr (p0:List ze):Option (Int×Int):=
 (zcq p0).bind fun a=>
 (qf (zcA a) (fun (d:Unit)=>(.inl ())) (a).length 0 ()).bind fun b=>match b with
  | .inl e=>
   (qf (zd9 p0 a) (fun (f:Unit)=>(.inl ())) (p0).length 0 ()).bind fun c=>match c with
    | .inl g=>
     some (0,0)
    | .inr r=>some r
  | .inr r=>some r
def zeZ (c:(List zP)) (d:Nat) (e:Nat) (again:Int->Option Int) (a:Int):Option Int:=
 (idx c (e:Int)).bind fun b=>
 (zfR b (d:Int)).bind fun f=>
 if f then
  again (zeR (w64 (a*(w64 (b.Bound+1)))) 257)
 else
  again a
def zg3 (a:(List zP)) (b:Nat) (again:Int->Option Int) (c:Int):Option Int:=
 (qf (zeZ a b) (fun (d:Int)=>d) (a).length 0 1).bind fun e=>
 again (zeR (w64 (c+e)) 257)
def ze0 (p0:List ze):Option Int:=
 (zcq p0).bind fun a=>
 (qf (zg3 a) (fun (b:Int)=>b) (p0).length 0 0).bind fun c=>
 some c
def zbj (p0:List ze):Option (Int×Int):=
 if (((p0).length:Int)==0) then
  some (0,10)
 else
  if decide (((p0).length:Int)>64) then
   some (0,11)
  else
   (zdp p0).bind fun a=>
   if (a.2 != 0) then
    some (a.1,a.2)
   else
    (zdr p0).bind fun b=>
    if (b.2 != 0) then
     some (b.1,b.2)
    else
     (ze0 p0).bind fun c=>
     if decide (c>256) then
      some (0,32)
     else
      some (0,0)
def zem (p0:List ze):Option ((List zP)×Int):=
 (zbj p0).bind fun a=>
 if (a.2 != 0) then
  some (([]:List zP),a.2)
 else
  (zcq p0).bind fun b=>
  some (b,0)
def vV (p0:ze):Option (Int×Bool):=
 (vC p0).bind fun a=>
 if (!a) then
  some (0,false)
 else
  (zcn p0.Op).bind fun b=>
  (qQ b.1 100).bind fun c=>
  if c then
   some (p0.D,true)
  else
   some (0,(p0.Op==21))
def za5 :Option zc:=
 some (zc.mk 0 18446744073709551615)
def jH (p0:zc):Option zb:=
 some (zb.mk 1 p0 0)
def xQ (p1:Int) (e:List ze) (f:Nat) (again:(List (Nat->zb))->Option (List (Nat->zb))) (a:(List (Nat->zb))):Option (List (Nat->zb)):=
 (idx e (f:Int)).bind fun g=>
 (vV g).bind fun d=>
 if (!d.2) then
  again a
 else
  (idx a p1).bind fun b=>
  (ain 8 d.1).bind fun c=>
  if ((b c).Ki==1) then
   za5.bind fun h=>
   (jH h).bind fun j=>
   again (a.set (Int.toNat p1) (zcg b c j))
  else
   again (a.set (Int.toNat p1) (zcg b c (zb.mk 0 (zc.mk 0 0) 0)))
def vP (p0:zf) (p1:Int) (d:Nat) (again:(List (Nat->zb))->Option zf) (b:(List (Nat->zb))):Option zf:=
 (idx p0.loops (d:Int)).bind fun a=>
 if (a.Head != p1) then
  again b
 else
  (cut p0.Module.Co a.Head (w64 (a.At+1))).bind fun c=>
  (qf (xQ p1 c) (fun (e:(List (Nat->zb)))=>e) (c).length 0 b).bind fun f=>
  again f
def xk (p0:zf) (p1:Int):Option zf:=
 (qf (vP p0 p1) (fun (a:(List (Nat->zb)))=>(zf.mk p0.Module a p0.any p0.loops)) (p0.loops).length 0 p0.ca).bind fun b=>
 some b
def zen (p0:ze):Option Bool:=
 (zcn p0.Op).bind fun a=>
 ((vC p0).bind fun b=>
 if b then
  (qQ a.1 115).bind fun c=>
  some c
 else
  some false).bind fun d=>
 some d
def zds (p0:Int):Option zc:=
 some (zc.mk p0 p0)
def zbS (p0:ze) (p1:Nat->zb):Option zb:=
 if (p0.B==8) then
  (zds (jy p0.Imm)).bind fun a=>
  (jH a).bind fun b=>
  some b
 else
  (ain 8 p0.B).bind fun c=>
  some (p1 c)
def qh (p0:List zb) (a:Nat) (again:Unit->Option (Unit ⊕ Int)) (c:Unit):Option (Unit ⊕ Int):=
 (idx p0 (a:Int)).bind fun b=>
 if (b.Ki != 1) then
  some (.inr 33)
 else
  again ()
def vr (p0:List zb):Option Int:=
 (qf (qh p0) (fun (b:Unit)=>(.inl ())) (p0).length 0 ()).bind fun a=>match a with
  | .inl c=>
   some 0
  | .inr r=>some r
def vt (p0:zc):Option Bool:=
 some (decide (p0.Lo<=p0.Hi))
def vJ (p0:zc) (p1:zc):Option Bool:=
 ((vt p0).bind fun a=>
 if a then
  if decide (p1.Lo<=p0.Lo) then
   some (decide (p0.Hi<=p1.Hi))
  else
   some false
 else
  some false).bind fun b=>
 some b
def zbT (p0:zb):Option Int:=
 (vJ p0.Sp (zc.mk 0 15)).bind fun a=>
 if (!a) then
  some 35
 else
  some 0
def jd (p0:List Int) (b:Nat) (again:Unit->Option (Unit ⊕ Int)) (c:Unit):Option (Unit ⊕ Int):=
 (idx p0 (b:Int)).bind fun a=>
 if (a != 0) then
  some (.inr a)
 else
  again ()
def zbH (p0:List Int):Option Int:=
 (qf (jd p0) (fun (b:Unit)=>(.inl ())) (p0).length 0 ()).bind fun a=>match a with
  | .inl c=>
   some 0
  | .inr r=>some r
def zcr (p0:zb) (p1:zb):Option Bool:=
 if (p1.Ki==1) then
  (if (p0.Ki==1) then
   (vJ p0.Sp p1.Sp).bind fun a=>
   some a
  else
   some false).bind fun b=>
  some b
 else
  if (p1.Ki==2) then
   some ((p0.Ki==p1.Ki)&&(((p0.Sp.Lo==p1.Sp.Lo)&&((p0.Sp.Hi==p1.Sp.Hi)&&true))&&((p0.Map==p1.Map)&&true)))
  else
   some true
def zea (p0:Int):Option (zas×Bool):=
 if (decide (p0<0)||decide (p0>=7)) then
  some ((zas.mk ByteArray.empty ByteArray.empty 0 0 false),false)
 else
  (idx zcH p0).bind fun a=>
  some (a,true)
def zdt (p0:Int):Option zb:=
 some (zb.mk 1 (zc.mk 0 p0) 0)
def zd0 (b:zas×Bool) (again:((List zb)×Nat)->Option (List zb)) (a:(List zb)×Nat):Option (List zb):=
 if decide (a.2<b.1.wants.size) then
  if ((zjr b.1.wants a.2)==104) then
   (room (a.1.length+([(zb.mk 2 (zc.mk 0 0) 0)]).length) 32).bind fun e=>
   again ((a.1++ [(zb.mk 2 (zc.mk 0 0) 0)]),(zfQ b.1.wants a.2))
  else
   if ((zjr b.1.wants a.2)==115) then
    (zdt 15).bind fun c=>
    (room (a.1.length+([c]).length) 32).bind fun f=>
    again ((a.1++ [c]),(zfQ b.1.wants a.2))
   else
    (zdt 18446744073709551615).bind fun d=>
    (room (a.1.length+([d]).length) 32).bind fun g=>
    again ((a.1++ [d]),(zfQ b.1.wants a.2))
 else
  some a.1
def vW (fu:Nat) (p0:Int):Option (List zb):=
 (zea p0).bind fun a=>
 (loop (zd0 a) fu (([]:List zb),0)).bind fun b=>
 some b
def zau (p1:List zb) (d:(List zb)) (b:Nat) (again:Unit->Option (Unit ⊕ Int)) (g:Unit):Option (Unit ⊕ Int):=
 (idx d (b:Int)).bind fun a=>
 (idx p1 (b:Int)).bind fun c=>
 if (a.Ki != c.Ki) then
  some (.inr 33)
 else
  (if (a.Ki==1) then
   (vJ c.Sp a.Sp).bind fun e=>
   some (!e)
  else
   some false).bind fun f=>
  if f then
   some (.inr 35)
  else
   again ()
def zaQ (fu:Nat) (p0:Int) (p1:List zb):Option Int:=
 (zea p0).bind fun b=>
 if (!b.2) then
  some 34
 else
  (vW fu p0).bind fun a=>
  if (((a).length:Int) != ((p1).length:Int)) then
   some 2
  else
   (qf (zau p1 a) (fun (d:Unit)=>(.inl ())) (a).length 0 ()).bind fun c=>match c with
    | .inl e=>
     some 0
    | .inr r=>some r
def zbI (p0:Int):Option (zb×Bool):=
 (zea p0).bind fun a=>
 if (!a.2) then
  some ((zb.mk 0 (zc.mk 0 0) 0),false)
 else
  (zdt a.1.most).bind fun b=>
  some (b,true)
def zeB (p0:Int) (p1:Int) (p2:Int):Option (Int×Bool):=
 if (p0==1) then
  some (jy (p1+p2),true)
 else
  if (p0==2) then
   some (jy (p1-p2),true)
  else
   if (p0==3) then
    some (jy (p1*p2),true)
   else
    if (p0==4) then
     if (p2==0) then
      some (0,true)
     else
      (nz p2).bind fun a=>
      some (jy (p1.tdiv p2),true)
    else
     if (p0==5) then
      if (p2==0) then
       some (p1,true)
      else
       (nz p2).bind fun b=>
       some (p1.tmod p2,true)
     else
      if (p0==6) then
       some (zex .u64 p1 p2,true)
      else
       if (p0==7) then
        some (bOr .u64 p1 p2,true)
       else
        if (p0==8) then
         some (zio .u64 p1 p2,true)
        else
         if (p0==9) then
          (nn p2).bind fun c=>
          some (zgJ .u64 p1 p2,true)
         else
          if (p0==10) then
           (nn p2).bind fun d=>
           some (zb4 .u64 p1 p2,true)
          else
           some (0,false)
def vK (p0:zc):Option Bool:=
 some (p0.Lo==p0.Hi)
def zfo (p0:zc) (p1:zc):Option zc:=
 (zlW p0.Hi p1.Hi 0).bind fun a=>
 if decide (a.2>0) then
  za5.bind fun b=>
  some b
 else
  some (zc.mk (jy (p0.Lo+p1.Lo)) a.1)
def zeo (p0:Int) (p1:Int):Option (Int×Int):=
 some (jy ((jy ((jy ((zb4 .u64 p0 32)*(zb4 .u64 p1 32)))+(zb4 .u64 (jy ((jy ((zb4 .u64 p0 32)*(zex .u64 p1 4294967295)))+(zb4 .u64 (jy ((zex .u64 p0 4294967295)*(zex .u64 p1 4294967295))) 32))) 32)))+(zb4 .u64 (jy ((zex .u64 (jy ((jy ((zb4 .u64 p0 32)*(zex .u64 p1 4294967295)))+(zb4 .u64 (jy ((zex .u64 p0 4294967295)*(zex .u64 p1 4294967295))) 32))) 4294967295)+(jy ((zex .u64 p0 4294967295)*(zb4 .u64 p1 32))))) 32)),jy (p0*p1))
def zbU (p0:zc) (p1:zc):Option zc:=
 (zeo p0.Hi p1.Hi).bind fun a=>
 if decide (a.1>0) then
  za5.bind fun b=>
  some b
 else
  some (zc.mk (jy (p0.Lo*p1.Lo)) a.2)
def zbV (p0:zc) (p1:zc):Option zc:=
 if (p1.Lo==0) then
  some (zc.mk 0 p0.Hi)
 else
  (nz p1.Hi).bind fun a=>
  (nz p1.Lo).bind fun b=>
  some (zc.mk (jy (p0.Lo.tdiv p1.Hi)) (jy (p0.Hi.tdiv p1.Lo)))
def zep (p0:zc) (p1:zc):Option zc:=
 if (p1.Lo==0) then
  some (zc.mk 0 p0.Hi)
 else
  if decide (p0.Hi<p1.Lo) then
   some p0
  else
   some (zc.mk 0 (zeR p0.Hi (jy (p1.Hi-1))))
def zdk (p0:Int):Option Int:=
 (if decide (p0>=4294967296) then
  some (zb4 .u64 p0 32,32)
 else
  some (p0,0)).bind fun a=>
 (if decide (a.1>=65536) then
  some (zb4 .u64 a.1 16,w64 (a.2+16))
 else
  some (a.1,a.2)).bind fun b=>
 (if decide (b.1>=256) then
  some (zb4 .u64 b.1 8,w64 (b.2+8))
 else
  some (b.1,b.2)).bind fun c=>
 (zid (⟨[0,1,2,2,3,3,3,3,4,4,4,4,4,4,4,4,5,5,5,5,5,5,5,5,5,5,5,5,5,5,5,5,6,6,6,6,6,6,6,6,6,6,6,6,6,6,6,6,6,6,6,6,6,6,6,6,6,6,6,6,6,6,6,6,7,7,7,7,7,7,7,7,7,7,7,7,7,7,7,7,7,7,7,7,7,7,7,7,7,7,7,7,7,7,7,7,7,7,7,7,7,7,7,7,7,7,7,7,7,7,7,7,7,7,7,7,7,7,7,7,7,7,7,7,7,7,7,7,8,8,8,8,8,8,8,8,8,8,8,8,8,8,8,8,8,8,8,8,8,8,8,8,8,8,8,8,8,8,8,8,8,8,8,8,8,8,8,8,8,8,8,8,8,8,8,8,8,8,8,8,8,8,8,8,8,8,8,8,8,8,8,8,8,8,8,8,8,8,8,8,8,8,8,8,8,8,8,8,8,8,8,8,8,8,8,8,8,8,8,8,8,8,8,8,8,8,8,8,8,8,8,8,8,8,8,8,8,8,8,8,8,8,8,8,8,8,8,8,8,8,8,8,8,8,8,8].toArray⟩) (IntKind.u8.wrap c.1)).bind fun d=>
 some (w64 (c.2+(w64 d)))
def zcK (p0:Int):Option Int:=
 (zdk p0).bind fun a=>
 (nn a).bind fun b=>
 some (jy ((zgJ .u64 1 a)-1))
def zdu (p0:zc) (p1:zc):Option zc:=
 ((vK p1).bind fun a=>
 if (!a) then
  some true
 else
  (zdk p0.Hi).bind fun b=>
  if decide (b>0) then
   if decide (p1.Lo>64) then
    some true
   else
    (zdk p0.Hi).bind fun c=>
    some (decide ((jy ((jy c)+p1.Lo))>64))
  else
   some false).bind fun d=>
 if d then
  za5.bind fun e=>
  some e
 else
  (nn p1.Lo).bind fun f=>
  (nn p1.Lo).bind fun g=>
  some (zc.mk (zgJ .u64 p0.Lo p1.Lo) (zgJ .u64 p0.Hi p1.Lo))
def zfS (p0:Int) (p1:zc) (p2:zc):Option (zc×Bool):=
 (zeB p0 p1.Lo p2.Lo).bind fun a=>
 (if (!a.2) then
  some true
 else
  (vt p1).bind fun b=>
  if (!b) then
   some true
  else
   (vt p2).bind fun c=>
   some (!c)).bind fun d=>
 if d then
  some ((zc.mk 0 0),false)
 else
  ((vK p1).bind fun e=>
  if e then
   (vK p2).bind fun f=>
   some f
  else
   some false).bind fun g=>
  if g then
   (zds a.1).bind fun h=>
   some (h,true)
  else
   if (p0==1) then
    (zfo p1 p2).bind fun j=>
    some (j,true)
   else
    if (p0==2) then
     if decide (p1.Lo<p2.Hi) then
      za5.bind fun l=>
      some (l,true)
     else
      some ((zc.mk (jy (p1.Lo-p2.Hi)) (jy (p1.Hi-p2.Lo))),true)
    else
     if (p0==3) then
      (zbU p1 p2).bind fun n=>
      some (n,true)
     else
      if (p0==4) then
       (zbV p1 p2).bind fun q=>
       some (q,true)
      else
       if (p0==5) then
        (zep p1 p2).bind fun v=>
        some (v,true)
       else
        if (p0==6) then
         some ((zc.mk 0 (zeR p1.Hi p2.Hi)),true)
        else
         if (p0==7) then
          (zcK (bOr .u64 p1.Hi p2.Hi)).bind fun z=>
          some ((zc.mk (zeU p1.Lo p2.Lo) z),true)
         else
          if (p0==8) then
           (zcK (bOr .u64 p1.Hi p2.Hi)).bind fun A=>
           some ((zc.mk 0 A),true)
          else
           if (p0==9) then
            (zdu p1 p2).bind fun B=>
            some (B,true)
           else
            (nn p2.Hi).bind fun C=>
            (nn p2.Lo).bind fun D=>
            some ((zc.mk (zb4 .u64 p1.Lo p2.Hi) (zb4 .u64 p1.Hi p2.Lo)),true)
def qw (p0:zf) (p1:Int) (a:ze×(Nat->zb)) (c:Nat) (again:Unit->Option (Unit ⊕ ((Nat->zb)×Int))) (f:Unit):Option (Unit ⊕ ((Nat->zb)×Int)):=
 (ain 8 (c:Int)).bind fun b=>
 (idx p0.ca (w64 (p1-a.1.D))).bind fun d=>
 (zcr (a.2 b) (d b)).bind fun e=>
 if (!e) then
  some (.inr (a.2,33))
 else
  again ()
def ju (fu:Nat) (p0:zf) (p1:Int):Option ((Nat->zb)×Int):=
 ((idx p0.Module.Co p1).bind fun f=>
 (idx p0.ca p1).bind fun g=>
 some (f,g)).bind fun a=>
 (zen a.1).bind fun h=>
 (if h then
  (zbS a.1 a.2).bind fun j=>
  some j
 else
  some (zb.mk 0 (zc.mk 0 0) 0)).bind fun b=>
 (ain 8 a.1.A).bind fun c=>
 if (a.1.Op==0) then
  if (b.Ki==0) then
   some (a.2,33)
  else
   (ain 8 a.1.D).bind fun l=>
   some ((zcg a.2 l b),0)
 else
  if (a.1.Op==11) then
   za5.bind fun n=>
   (jH n).bind fun q=>
   (ain 8 a.1.D).bind fun v=>
   (vr ([b])).bind fun z=>
   (zbT b).bind fun B=>
   (zbH ([z,B])).bind fun C=>
   some ((zcg a.2 v q),C)
  else
   if (a.1.Op==12) then
    (vr ([(a.2 c),b])).bind fun E=>
    (zbT b).bind fun F=>
    (zbH ([E,F])).bind fun G=>
    some (a.2,G)
   else
    if (a.1.Op==13) then
     za5.bind fun H=>
     (jH H).bind fun I=>
     (ain 8 a.1.D).bind fun J=>
     some ((zcg a.2 J I),0)
    else
     if (a.1.Op==14) then
      (ain 8 a.1.D).bind fun d=>
      if decide (a.1.Imm>=((p0.Module.Ms).length:Int)) then
       some ((zcg a.2 d (zb.mk 2 (zc.mk 0 0) a.1.Imm)),35)
      else
       some ((zcg a.2 d (zb.mk 2 (zc.mk 0 0) a.1.Imm)),0)
     else
      if (a.1.Op==15) then
       some (a.2,0)
      else
       (if (a.1.Op==16) then
        some (a.1.Op==16)
       else
        if (a.1.Op==17) then
         some (a.1.Op==17)
        else
         if (a.1.Op==18) then
          some (a.1.Op==18)
         else
          some (a.1.Op==19)).bind fun K=>
       if K then
        (vr ([(a.2 c),b])).bind fun L=>
        some (a.2,L)
       else
        if (a.1.Op==20) then
         (vr ([(a.2 c)])).bind fun e=>
         if (e != 0) then
          some (a.2,e)
         else
          (qf (qw p0 p1 a) (fun (W:Unit)=>(.inl ())) 8 0 ()).bind fun M=>match M with
           | .inl X=>
            some (a.2,0)
           | .inr r=>some r
        else
         if (a.1.Op==21) then
          (vW fu a.1.Imm).bind fun N=>
          (cut (vp 8 a.2) 1 (w64 (1+((N).length:Int)))).bind fun O=>
          (zaQ fu a.1.Imm O).bind fun P=>
          (zbI a.1.Imm).bind fun Q=>
          some ((zcg a.2 0 Q.1),P)
         else
          if (a.1.Op==22) then
           (vr ([(a.2 c)])).bind fun R=>
           some (a.2,R)
          else
           (zfS a.1.Op (a.2 c).Sp b.Sp).bind fun S=>
           (jH S.1).bind fun T=>
           (ain 8 a.1.D).bind fun U=>
           (vr ([(a.2 c),b])).bind fun V=>
           some ((zcg a.2 U T),V)
def zg4 (p0:List zc) (c:Nat) (again:zc->Option (zc ⊕ (zc×Bool))) (b:zc):Option (zc ⊕ (zc×Bool)):=
 (idx p0 (c:Int)).bind fun a=>
 (vt a).bind fun d=>
 if (!d) then
  some (.inr ((zc.mk 0 0),false))
 else
  again (zc.mk (zeR b.Lo a.Lo) (zeU b.Hi a.Hi))
def ze1 (p0:List zc):Option (zc×Bool):=
 (qf (zg4 p0) (fun (a:zc)=>(.inl a)) (p0).length 0 (zc.mk 18446744073709551615 0)).bind fun b=>match b with
  | .inl c=>
   if (((p0).length:Int)==0) then
    some ((zc.mk 0 0),false)
   else
    some (c,true)
  | .inr r=>some r
def zcL (p0:zb) (p1:zb):Option zb:=
 if ((p0.Ki != p1.Ki)||(p0.Map != p1.Map)) then
  some (zb.mk 0 (zc.mk 0 0) 0)
 else
  if (p0.Ki==1) then
   (ze1 ([p0.Sp,p1.Sp])).bind fun a=>
   (jH a.1).bind fun b=>
   some b
  else
   some p0
def jD (p1:Int) (p2:Nat->zb) (d:Nat) (again:zf->Option zf) (a:zf):Option zf:=
 (idx a.ca p1).bind fun c=>
 (ain 8 (d:Int)).bind fun b=>
 (zcL (c b) (p2 b)).bind fun e=>
 again (zf.mk a.Module (a.ca.set (Int.toNat p1) (zcg c b e)) a.any a.loops)
def qb (p0:zf) (p1:Int) (p2:Nat->zb):Option zf:=
 (idx p0.any p1).bind fun a=>
 if (!a) then
  (idx p0.ca p1).bind fun d=>
  some (zf.mk p0.Module (p0.ca.set (Int.toNat p1) p2) (p0.any.set (Int.toNat p1) true) p0.loops)
 else
  (qf (jD p1 p2) (fun (b:zf)=>b) 8 0 p0).bind fun c=>
  some c
def zbJ (p0:Int) (p1:Int) (p2:Int):Option (Bool×Bool):=
 if (p0==16) then
  some ((p1==p2),true)
 else
  if (p0==17) then
   some ((p1 != p2),true)
  else
   if (p0==18) then
    some (decide (p1<p2),true)
   else
    if (p0==19) then
     some (decide (p1>=p2),true)
    else
     some (false,false)
def ze2 (p0:List zc) (c:Nat) (again:zc->Option (zc ⊕ (zc×Bool))) (b:zc):Option (zc ⊕ (zc×Bool)):=
 (idx p0 (c:Int)).bind fun a=>
 (vt a).bind fun d=>
 if (!d) then
  some (.inr ((zc.mk 0 0),false))
 else
  again (zc.mk (zeU b.Lo a.Lo) (zeR b.Hi a.Hi))
def zaG (p0:List zc):Option (zc×Bool):=
 za5.bind fun b=>
 (qf (ze2 p0) (fun (c:zc)=>(.inl c)) (p0).length 0 b).bind fun d=>match d with
  | .inl a=>
   (if (((p0).length:Int)==0) then
    some true
   else
    (vt a).bind fun e=>
    some (!e)).bind fun f=>
   if f then
    some ((zc.mk 0 0),false)
   else
    some (a,true)
  | .inr r=>some r
def xG (p0:Int) (p1:zc) (p2:zc) (p3:Bool):Option (zc×Bool):=
 (zbJ p0 0 0).bind fun d=>
 (if (!d.2) then
  some true
 else
  (vt p1).bind fun e=>
  if (!e) then
   some true
  else
   (vt p2).bind fun f=>
   some (!f)).bind fun g=>
 if g then
  some ((zc.mk 0 0),false)
 else
  (vK p2).bind fun h=>
  if (!h) then
   some (p1,true)
  else
   (if ((p0==18)&&p3) then
    some ((p0==18)&&p3)
   else
    if (p0==19) then
     some (!p3)
    else
     some false).bind fun j=>
   if j then
    if (p2.Lo==0) then
     some ((zc.mk 0 0),false)
    else
     (zaG ([p1,(zc.mk 0 (jy (p2.Lo-1)))])).bind fun a=>
     some (a.1,a.2)
   else
    (if (p0==18) then
     some (p0==18)
    else
     some (p0==19)).bind fun l=>
    if l then
     (zaG ([p1,(zc.mk p2.Lo 18446744073709551615)])).bind fun b=>
     some (b.1,b.2)
    else
     (if ((p0==16)&&p3) then
      some ((p0==16)&&p3)
     else
      if (p0==17) then
       some (!p3)
      else
       some false).bind fun n=>
     if n then
      (zaG ([p1,p2])).bind fun c=>
      some (c.1,c.2)
     else
      if ((p1.Lo==p2.Lo)&&((p1.Hi==p2.Hi)&&true)) then
       some ((zc.mk 0 0),false)
      else
       if (p1.Lo==p2.Lo) then
        some ((zc.mk (jy (p1.Lo+1)) p1.Hi),true)
       else
        if (p1.Hi==p2.Lo) then
         some ((zc.mk p1.Lo (jy (p1.Hi-1))),true)
        else
         some (p1,true)
def qX (p1:Int) (p2:Nat->zb) (a:ze) (f:Int×Bool×Bool) (g:zb) (h:Nat) (again:zf->Option zf) (b:zf):Option zf:=
 (idx ([true,false]) (h:Int)).bind fun c=>
 (if (!c) then
  some (w64 (p1+1))
 else
  some (w64 (p1+f.1))).bind fun j=>
 ((ain 8 a.A).bind fun l=>
 (xG a.Op (p2 l).Sp g.Sp c).bind fun d=>
 some (d.1,d.2)).bind fun e=>
 if e.2 then
  (jH e.1).bind fun n=>
  (ain 8 a.A).bind fun q=>
  (qb b j (zcg p2 q n)).bind fun v=>
  again v
 else
  again b
def xH (p0:zf) (p1:Int) (p2:Nat->zb):Option zf:=
 (idx p0.Module.Co p1).bind fun b=>
 (zeA b).bind fun a=>
 if ((!a.2.1)||decide (a.1<0)) then
  (if a.2.2 then
   (qb p0 (w64 (p1+1)) p2).bind fun c=>
   some c
  else
   some p0).bind fun d=>
  some d
 else
  if (!a.2.2) then
   (qb p0 (w64 (p1+a.1)) p2).bind fun e=>
   some e
  else
   (zbS b p2).bind fun f=>
   (qf (qX p1 p2 b a f) (fun (g:zf)=>g) 2 0 p0).bind fun h=>
   some h
def qc (fu:Nat) (a:Nat) (again:zf->Option (zf ⊕ ((Option zf)×Int×Int))) (b:zf):Option (zf ⊕ ((Option zf)×Int×Int)):=
 (idx b.any (a:Int)).bind fun e=>
 if (!e) then
  again b
 else
  (xk b (a:Int)).bind fun d=>
  (ju fu d (a:Int)).bind fun c=>
  if (c.2 != 0) then
   some (.inr (none,(a:Int),c.2))
  else
   (xH d (a:Int) c.1).bind fun f=>
   again f
def xV (fu:Nat) (p0:zg):Option ((Option zf)×Int×Int):=
 (zdj p0.Ms).bind fun c=>
 if (!c) then
  some (none,0,2)
 else
  (zbj p0.Co).bind fun b=>
  if (b.2 != 0) then
   some (none,b.1,b.2)
  else
   ((mkLen ((p0.Co).length:Int) 256).bind fun d=>
   (mkLen ((p0.Co).length:Int) 1).bind fun e=>
   some (zf.mk p0 (List.replicate d (fun _=>(zb.mk 0 (zc.mk 0 0) 0))) (List.replicate e false) ([]:List zP))).bind fun a=>
   (zem p0.Co).bind fun f=>
   (idx a.any 0).bind fun l=>
   (qf (qc fu) (fun (g:zf)=>(.inl g)) (p0.Co).length 0 (zf.mk a.Module a.ca (a.any.set (Int.toNat 0) true) f.1)).bind fun h=>match h with
    | .inl j=>
     some ((some j),0,0)
    | .inr r=>some r
def xI (fu:Nat) (p0:zg):Option (Int×Int):=
 (xV fu p0).bind fun a=>
 zdV a.1
  (some (a.2.1,a.2.2))
  (fun b=>
  some (a.2.1,a.2.2))
def jl (p0:List Int):Option (List Int):=
 (room (([]:List Int).length+p0.length) 8).bind fun a=>
 some (([]:List Int)++p0)
def zct (p0:zw) (p2:List Int) (b:Nat) (again:Unit->Option (Unit ⊕ (Int×zw))) (f:Unit):Option (Unit ⊕ (Int×zw)):=
 (idx p2 (b:Int)).bind fun a=>
 (if decide (a<0) then
  some true
 else
  if decide (a>=p0.maps) then
   some true
  else
   (cut p2 0 (b:Int)).bind fun c=>
   (zC c a).bind fun d=>
   some d).bind fun e=>
 if e then
  some (.inr (2,p0))
 else
  again ()
def zbz (p0:zw) (p1:Int) (p2:List Int):Option (Int×zw):=
 (qf (zct p0 p2) (fun (c:Unit)=>(.inl ())) (p2).length 0 ()).bind fun a=>match a with
  | .inl d=>
   if (qO p0.held p1).isSome then
    some (42,p0)
   else
    (jl p2).bind fun b=>
    some (0,(zw.mk p0.maps (mput p0.held p1 b)))
  | .inr r=>some r
def qG (p0:za) (a:zg×Int×Int) (b:Nat) (again:Unit->Option (Unit ⊕ (Int×Int×za))) (d:Unit):Option (Unit ⊕ (Int×Int×za)):=
 (idx a.1.Ms (b:Int)).bind fun c=>
 if decide (c>=p0.maps) then
  some (.inr (0,41,p0))
 else
  again ()
def zM (fu:Nat) (p0:za) (p1:List Int):Option (Int×Int×za):=
 (xF fu p1).bind fun a=>
 if (a.2.2 != 0) then
  some (0,a.2.2,p0)
 else
  (xI fu a.1).bind fun b=>
  if (b.2 != 0) then
   some (0,b.2,p0)
  else
   (qf (qG p0 a) (fun (e:Unit)=>(.inl ())) (a.1.Ms).length 0 ()).bind fun c=>match c with
    | .inl f=>
     if decide ((p0.progs.length:Int)>=16) then
      some (0,40,p0)
     else
      (zbz p0.Refs (w64 (p0.given+1)) a.1.Ms).bind fun d=>
      some (w64 (p0.given+1),0,(za.mk p0.Table d.2 p0.Clock p0.hooks p0.maps (w64 (p0.given+1)) (mput p0.progs (w64 (p0.given+1)) (zr.mk a.1 0)) p0.waiting))
    | .inr r=>some r
def zY (p0:zo) (p1:Int):Option Bool:=
 some (decide (p1>=0)&&decide (p1<((p0.hooks).length:Int)))
def qr (p0:zo) (p1:Int):Option Bool:=
 (idx p0.hooks p1).bind fun a=>
 some (decide (a.version>0))
def vQ (p0:xt):Option (Int×xt):=
 some (w64 (p0.last+1),(xt.mk (w64 (p0.last+1))))
def xl (p0:xt):Option Int:=
 some p0.last
def xm (p0:zo) (p1:Int) (p2:Int):Option (Int×Int×zo):=
 (vQ p0.Versions).bind fun a=>
 (idx p0.hooks p1).bind fun c=>
 (xl a.2).bind fun b=>
 some (b,0,(zo.mk a.2 (p0.hooks.set (Int.toNat p1) (qW.mk a.1 p2))))
def xC (p0:zo) (p1:Int) (p2:Int):Option (Int×Int×zo):=
 (zY p0 p1).bind fun b=>
 if (!b) then
  some (0,2,p0)
 else
  (qr p0 p1).bind fun c=>
  if c then
   some (0,42,p0)
  else
   (xm p0 p1 p2).bind fun a=>
   some (a.1,a.2.1,a.2.2)
def zG (p0:za) (p1:Int) (p2:Int):Option (Int×Int×za):=
 if decide (p1<0) then
  some (0,2,p0)
 else
  if decide (p1>=p0.hooks) then
   some (0,2,p0)
  else
   if (qO p0.progs p2).isSome then
    (qO p0.progs p2).bind fun b=>
    if (!(b.retiring==0)) then
     some (0,41,p0)
    else
     (xC p0.Table p1 p2).bind fun a=>
     some (a.1,a.2.1,(za.mk a.2.2 p0.Refs p0.Clock p0.hooks p0.maps p0.given p0.progs p0.waiting))
   else
    some (0,41,p0)
def jm (p0:zw) (p1:Int) (e:Int×(List Int)) (a:(List Int)):Option ((List Int) ⊕ (List Int)):=
 let b:=e.1
 let c:=e.2
 (zC c p1).bind fun d=>
 if d then
  (room (a.length+([b]).length) 8).bind fun f=>
  some (.inl (a++ [b]))
 else
  some (.inl a)
def qM (p0:zw) (p1:Int) (a:(List Int)):Option (List Int):=
 (qA a).bind fun b=>
 some b
def xX (p0:zw) (p1:Int):Option (List Int):=
 zd6 (jm p0 p1) (qM p0 p1) p0.held ([]:List Int)
def vi (p0:zw) (p1:Int):Option (Int×Int):=
 if (decide (p1<0)||decide (p1>=p0.maps)) then
  some (0,2)
 else
  (xX p0 p1).bind fun a=>
  some (((a).length:Int),0)
def jI (fu:Nat) :Option Bool:=
 (qy 2 3 1).bind fun c=>
 zdV c.1
  (some false)
  (fun e=>
  if (c.2 != 0) then
   some false
  else
   zeP.bind fun f=>
   (zM fu e f).bind fun a=>
   if ((a.1 != 1)||(a.2.1 != 0)) then
    some false
   else
    (zG a.2.2 0 1).bind fun b=>
    (vi b.2.2.Refs 2).bind fun d=>
    some ((((b.1==1)&&(b.2.1==0))&&(d.1==1))&&(d.2==0)))
def jU (p0:Int) (p1:Int) (p2:Int):Option ((Option zd)×Int):=
 if (((((decide (p0<1)||decide (p0>4))||decide (p1<0))||decide (p1>4))||decide (p2<1))||decide (p2>4)) then
  some (none,2)
 else
  some ((some (zd.mk p1 (zl.mk p0 0 ([]:List qa)) (zj.mk p2 ([]:List zx)) ([]:List zm) ([]:List Int))),0)
def zaW (p0:List Int) (again:Int->Option (Int ⊕ (Int×Int×Int))) (a:Int):Option (Int ⊕ (Int×Int×Int)):=
 (if decide (a<((p0).length:Int)) then
  (idx p0 a).bind fun b=>
  some (decide (b>=128))
 else
  some false).bind fun c=>
 if c then
  if (a==9) then
   some (.inr (0,0,12))
  else
   again (w64 (a+1))
 else
  some (.inl a)
def vD (p0:List Int) (again:(Int×Int)->Option Int) (a:Int×Int):Option Int:=
 if decide (a.2>=0) then
  (idx p0 a.2).bind fun b=>
  again (jy ((jy (128*a.1))+(jy (b.tmod 128))),w64 (a.2-1))
 else
  some a.1
def za6 (fu:Nat) (p0:List Int):Option (Int×Int×Int):=
 (loop (zaW p0) fu 0).bind fun b=>match b with
  | .inl a=>
   if (a==((p0).length:Int)) then
    some (0,0,10)
   else
    (if (a==9) then
     (idx p0 9).bind fun c=>
     if decide (c>1) then
      some true
     else
      if decide (a>0) then
       (idx p0 a).bind fun d=>
       some (d==0)
      else
       some false
    else
     if decide (a>0) then
      (idx p0 a).bind fun e=>
      some (e==0)
     else
      some false).bind fun f=>
    if f then
     some (0,0,12)
    else
     (loop (vD p0) fu (0,a)).bind fun g=>
     some (g,w64 (a+1),0)
  | .inr r=>some r
def xc (p0:Int) (p1:Int) (p2:List Int) (again:Int->Option (Unit ⊕ Int)) (a:Int):Option (Unit ⊕ Int):=
 if (decide (a<((p2).length:Int))&&(p0==4)) then
  (idx p2 a).bind fun b=>
  if (b==(w64 p1)) then
   some (.inr 12)
  else
   again (w64 (a+1))
 else
  some (.inl ())
def zN (fu:Nat) (p0:Int) (p1:Int) (p2:List Int):Option Int:=
 (((if ((p0==3)&&decide (p1>4)) then
  some ((p0==3)&&decide (p1>4))
 else
  if (p0==5) then
   some (decide (p1>64))
  else
   some false).bind fun a=>
 if a then
  some (.inr 11)
 else
  if ((p0==4)&&decide (p1>3)) then
   if ((p0==4)&&decide (p1>3)) then
    some (.inr 12)
   else
    some (.inl ())
  else
   if ((p0==5)&&(p1==0)) then
    if ((p0==5)&&(p1==0)) then
     some (.inr 12)
    else
     some (.inl ())
   else
    if ((p0==6)&&decide (p1>22)) then
     if ((p0==6)&&decide (p1>22)) then
      some (.inr 12)
     else
      some (.inl ())
    else
     if ((decide (p0>=7)&&decide (p0<=9))&&decide (p1>63)) then
      some (.inr 12)
     else
      some (.inl ())):Option (Unit ⊕ Int)).bind fun b=>match b with
  | .inl d=>
   (loop (xc p0 p1 p2) fu 0).bind fun c=>match c with
    | .inl e=>
     some 0
    | .inr r=>some r
  | .inr r=>some r
def zaH (p0:Int):Option Int:=
 if ((p0.tmod 2)==0) then
  some (w64 (jy (p0.tdiv 2)))
 else
  some (w64 ((w64 (0-(w64 (jy (p0.tdiv 2)))))-1))
def qn (p0:Int):Option Bool:=
 some (decide (p0>=0)&&decide (p0<=7))
def qY (p0:ze):Option Bool:=
 ((qn p0.B).bind fun a=>
 if a then
  if (p0.Imm==0) then
   some true
  else
   some (p0.B==8)
 else
  some (p0.B==8)).bind fun b=>
 some b
def xY (p0:Int):Option Bool:=
 some (decide (p0>=1)&&decide (p0<=10))
def jz (p0:Int):Option Bool:=
 some (decide (p0>=16)&&decide (p0<=19))
def jg (p0:ze):Option Bool:=
 if ((p0.Op==0)||(p0.Op==11)) then
  ((qn p0.D).bind fun a=>
  if a then
   if (p0.A==0) then
    (qY p0).bind fun b=>
    some b
   else
    some false
  else
   some false).bind fun c=>
  some c
 else
  (xY p0.Op).bind fun d=>
  if d then
   ((qn p0.D).bind fun e=>
   if e then
    (qn p0.A).bind fun f=>
    if f then
     (qY p0).bind fun g=>
     some g
    else
     some false
   else
    some false).bind fun h=>
   some h
  else
   if (p0.Op==12) then
    (if (p0.D==0) then
     (qn p0.A).bind fun j=>
     if j then
      (qY p0).bind fun l=>
      some l
     else
      some false
    else
     some false).bind fun n=>
    some n
   else
    if (p0.Op==13) then
     ((qn p0.D).bind fun q=>
     if q then
      if (p0.A==0) then
       if (p0.B==0) then
        if (p0.Imm==0) then
         some true
        else
         some (p0.Imm==1)
       else
        some false
      else
       some false
     else
      some false).bind fun v=>
     some v
    else
     if (p0.Op==14) then
      ((qn p0.D).bind fun z=>
      if z then
       if (p0.A==0) then
        if (p0.B==0) then
         if decide (p0.Imm>=0) then
          some (decide (p0.Imm<=3))
         else
          some false
        else
         some false
       else
        some false
      else
       some false).bind fun C=>
      some C
     else
      if (p0.Op==15) then
       some ((((decide (p0.D>=0)&&decide (p0.D<=63))&&(p0.A==0))&&(p0.B==0))&&(p0.Imm==0))
      else
       (jz p0.Op).bind fun E=>
       if E then
        (if decide (p0.D>=0) then
         if decide (p0.D<=63) then
          (qn p0.A).bind fun F=>
          if F then
           (qY p0).bind fun G=>
           some G
          else
           some false
         else
          some false
        else
         some false).bind fun H=>
        some H
       else
        if (p0.Op==20) then
         (if decide (p0.D>=1) then
          if decide (p0.D<=63) then
           (qn p0.A).bind fun I=>
           if I then
            if (p0.B==0) then
             if decide (p0.Imm>=1) then
              some (decide (p0.Imm<=255))
             else
              some false
            else
             some false
           else
            some false
          else
           some false
         else
          some false).bind fun J=>
         some J
        else
         if (p0.Op==21) then
          some (((((p0.D==0)&&(p0.A==0))&&(p0.B==0))&&decide (p0.Imm>=0))&&decide (p0.Imm<=6))
         else
          if (p0.Op==22) then
           (if (p0.D==0) then
            (qn p0.A).bind fun K=>
            if K then
             if (p0.B==0) then
              some (p0.Imm==0)
             else
              some false
            else
             some false
           else
            some false).bind fun L=>
           some L
          else
           some false
def qm (p0:Int) (p1:Int) (p2:Int):Option Int:=
 if (decide (p0<=4)&&decide (p1>0)) then
  some 4
 else
  if decide (p0<=4) then
   some 5
  else
   if ((p0==10)&&decide (p2>0)) then
    some 6
   else
    some (w64 (p0+1))
def zV (p0:List Int) (again:(Int×Int)->Option ((Int×Int) ⊕ (zg×Int×Int))) (a:Int×Int):Option ((Int×Int) ⊕ (zg×Int×Int)):=
 if decide (a.2<3) then
  if decide (a.1>=((p0).length:Int)) then
   some (.inr ((zg.mk ([]:List Int) ([]:List ze)),a.1,10))
  else
   (idx p0 a.1).bind fun b=>
   (idx ([84,80,1]:List Int) a.2).bind fun c=>
   if (b != c) then
    some (.inr ((zg.mk ([]:List Int) ([]:List ze)),a.1,12))
   else
    again (w64 (a.1+1),w64 (a.2+1))
 else
  some (.inl (a.1,a.2))
def zh (fu:Nat) (p0:List Int) (again:(zg×ze×Int×Int×Int×Int×Int)->Option ((zg×Int) ⊕ (zg×Int×Int))) (a:zg×ze×Int×Int×Int×Int×Int):Option ((zg×Int) ⊕ (zg×Int×Int)):=
 if decide (a.2.2.2.1<11) then
  (cut p0 a.2.2.1 (p0.length:Int)).bind fun f=>
  (za6 fu f).bind fun b=>
  if (b.2.2 != 0) then
   some (.inr ((zg.mk ([]:List Int) ([]:List ze)),a.2.2.1,b.2.2))
  else
   (zN fu a.2.2.2.1 b.1 a.1.Ms).bind fun e=>
   if (e != 0) then
    some (.inr ((zg.mk ([]:List Int) ([]:List ze)),a.2.2.1,e))
   else
    ((if (a.2.2.2.1==3) then
     some (.inl (a.1,a.2.1,w64 b.1,a.2.2.2.2.2.1,a.2.2.2.2.2.2))
    else
     if (a.2.2.2.1==4) then
      (room (a.1.Ms.length+([w64 b.1]).length) 8).bind fun l=>
      some (.inl ((zg.mk (a.1.Ms++ [w64 b.1]) a.1.Co),a.2.1,a.2.2.2.2.1,a.2.2.2.2.2.1,a.2.2.2.2.2.2))
     else
      if (a.2.2.2.1==5) then
       some (.inl (a.1,a.2.1,a.2.2.2.2.1,w64 b.1,a.2.2.2.2.2.2))
      else
       if (a.2.2.2.1==6) then
        some (.inl (a.1,(ze.mk (w64 b.1) 0 0 0 0),a.2.2.2.2.1,a.2.2.2.2.2.1,a.2.2.1))
       else
        if (a.2.2.2.1==7) then
         some (.inl (a.1,(ze.mk a.2.1.Op (w64 b.1) a.2.1.A a.2.1.B a.2.1.Imm),a.2.2.2.2.1,a.2.2.2.2.2.1,a.2.2.2.2.2.2))
        else
         if (a.2.2.2.1==8) then
          some (.inl (a.1,(ze.mk a.2.1.Op a.2.1.D (w64 b.1) a.2.1.B a.2.1.Imm),a.2.2.2.2.1,a.2.2.2.2.2.1,a.2.2.2.2.2.2))
         else
          if (a.2.2.2.1==9) then
           some (.inl (a.1,(ze.mk a.2.1.Op a.2.1.D a.2.1.A (w64 b.1) a.2.1.Imm),a.2.2.2.2.1,a.2.2.2.2.2.1,a.2.2.2.2.2.2))
          else
           if (a.2.2.2.1==10) then
            (zaH b.1).bind fun d=>
            (jg (ze.mk a.2.1.Op a.2.1.D a.2.1.A a.2.1.B d)).bind fun g=>
            if (!g) then
             some (.inr ((zg.mk ([]:List Int) ([]:List ze)),a.2.2.2.2.2.2,12))
            else
             (room (a.1.Co.length+([(ze.mk a.2.1.Op a.2.1.D a.2.1.A a.2.1.B d)]).length) 40).bind fun n=>
             some (.inl ((zg.mk a.1.Ms (a.1.Co++ [(ze.mk a.2.1.Op a.2.1.D a.2.1.A a.2.1.B d)])),(ze.mk a.2.1.Op a.2.1.D a.2.1.A a.2.1.B d),a.2.2.2.2.1,a.2.2.2.2.2.1,a.2.2.2.2.2.2))
           else
            some (.inl (a.1,a.2.1,a.2.2.2.2.1,a.2.2.2.2.2.1,a.2.2.2.2.2.2))):Option ((zg×ze×Int×Int×Int) ⊕ (zg×Int×Int))).bind fun h=>match h with
     | .inl c=>
      (qm a.2.2.2.1 (w64 (c.2.2.1-((c.1.Ms).length:Int))) (w64 (c.2.2.2.1-((c.1.Co).length:Int)))).bind fun j=>
      again (c.1,c.2.1,w64 (a.2.2.1+b.2.1),j,c.2.2.1,c.2.2.2.1,c.2.2.2.2)
     | .inr r=>some (.inr r)
 else
  some (.inl (a.1,a.2.2.1))
def xD (fu:Nat) (p0:List Int):Option (zg×Int×Int):=
 (loop (zV p0) fu (0,0)).bind fun c=>match c with
  | .inl b=>
   (loop (zh fu p0) fu ((zg.mk ([]:List Int) ([]:List ze)),(ze.mk 0 0 0 0 0),b.1,b.2,0,0,0)).bind fun d=>match d with
    | .inl a=>
     if decide (a.2<((p0).length:Int)) then
      some ((zg.mk ([]:List Int) ([]:List ze)),a.2,13)
     else
      some (a.1,0,0)
    | .inr r=>some r
  | .inr r=>some r
def zdv (p0:List Int) (a:Nat) (b:Nat) (again:Unit->Option (Unit ⊕ Bool)) (e:Unit):Option (Unit ⊕ Bool):=
 (idx p0 (b:Int)).bind fun c=>
 (idx p0 (a:Int)).bind fun d=>
 if (c==d) then
  some (.inr false)
 else
  again ()
def zdw (p0:List Int) (a:Nat) (again:Unit->Option (Unit ⊕ Bool)) (e:Unit):Option (Unit ⊕ Bool):=
 ((idx p0 (a:Int)).bind fun b=>
 if decide (b<0) then
  some true
 else
  some (decide (b>3))).bind fun c=>
 if c then
  some (.inr false)
 else
  ((room a 1).bind fun f=>
  qf (zdv p0 a) (fun (g:Unit)=>(.inl ())) a 0 ()).bind fun d=>match d with
   | .inl h=>
    again ()
   | .inr r=>some (.inr r)
def xJ (fu:Nat) (p0:List Int):Option Bool:=
 if decide (((p0).length:Int)>4) then
  some false
 else
  (qf (zdw p0) (fun (b:Unit)=>(.inl ())) (p0).length 0 ()).bind fun a=>match a with
   | .inl c=>
    some true
   | .inr r=>some r
def xK (p0:ze):Option (Int×Bool×Bool):=
 (jg p0).bind fun a=>
 if (!a) then
  some (0,false,false)
 else
  if (p0.Op==15) then
   some (w64 (p0.D+1),true,false)
  else
   (jz p0.Op).bind fun b=>
   if b then
    some (w64 (p0.D+1),true,true)
   else
    if (p0.Op==20) then
     some (w64 (0-p0.D),true,true)
    else
     some (0,false,(p0.Op != 22))
def zcM (b:Nat) (again:((List (List Int))×Int)->Option (List (List Int))) (a:(List (List Int))×Int):Option (List (List Int)):=
 if decide (a.2<=(b:Int)) then
  (idx a.1 a.2).bind fun c=>
  (room (c.length+([(b:Int)]).length) 8).bind fun d=>
  again ((a.1.set (Int.toNat a.2) (c++ [(b:Int)])),w64 (a.2+1))
 else
  some a.1
def zcN (fu:Nat) (p0:List ze) (a:Nat) (again:(List (List Int))->Option (List (List Int))) (b:(List (List Int))):Option (List (List Int)):=
 (idx p0 (a:Int)).bind fun c=>
 if (c.Op != 20) then
  again b
 else
  (loop (zcM a) fu (b,w64 ((a:Int)-c.D))).bind fun d=>
  again d
def vE (fu:Nat) (p0:List ze):Option (List (List Int)):=
 (mkLen ((p0).length:Int) 24).bind fun a=>
 (qf (zcN fu p0) (fun (b:(List (List Int)))=>b) (p0).length 0 (List.replicate a [])).bind fun c=>
 some c
def zd1 (p0:List Int) (p1:Int) (a:Nat) (again:Unit->Option (Unit ⊕ Bool)) (c:Unit):Option (Unit ⊕ Bool):=
 (idx p0 (a:Int)).bind fun b=>
 if (b==p1) then
  some (.inr true)
 else
  again ()
def vj (p0:List Int) (p1:Int):Option Bool:=
 (qf (zd1 p0 p1) (fun (b:Unit)=>(.inl ())) (p0).length 0 ()).bind fun a=>match a with
  | .inl c=>
   some false
  | .inr r=>some r
def zav (p1:List (List Int)) (c:Nat) (d:Nat) (e:Nat) (again:(Int×Bool)->Option (Int×Bool)) (a:Int×Bool):Option (Int×Bool):=
 (idx p1 (e:Int)).bind fun b=>
 (vj b (d:Int)).bind fun f=>
 if f then
  (vj b (c:Int)).bind fun g=>
  if g then
   again (w64 (a.1+1),a.2)
  else
   again (a.1,false)
 else
  again (a.1,a.2)
def zaw (p0:List ze) (p1:List (List Int)) (a:Nat) (b:Nat) (again:Unit->Option (Unit ⊕ (Int×Bool))) (f:Unit):Option (Unit ⊕ (Int×Bool)):=
 (idx p0 (b:Int)).bind fun e=>
 if (e.Op != 20) then
  again ()
 else
  (qf (zav p1 a b) (fun (c:Int×Bool)=>(c.1,c.2)) (p0).length 0 (0,true)).bind fun d=>
  if (decide (d.1>0)&&(!d.2)) then
   some (.inr ((a:Int),true))
  else
   again ()
def zax (p0:List ze) (p1:List (List Int)) (a:Nat) (again:Unit->Option (Unit ⊕ (Int×Bool))) (d:Unit):Option (Unit ⊕ (Int×Bool)):=
 (idx p0 (a:Int)).bind fun b=>
 if (b.Op != 20) then
  again ()
 else
  ((room a 1).bind fun e=>
  qf (zaw p0 p1 a) (fun (f:Unit)=>(.inl ())) a 0 ()).bind fun c=>match c with
   | .inl g=>
    again ()
   | .inr r=>some (.inr r)
def xR (fu:Nat) (p0:List ze) (p1:List (List Int)):Option (Int×Bool):=
 (qf (zax p0 p1) (fun (b:Unit)=>(.inl ())) (p0).length 0 ()).bind fun a=>match a with
  | .inl c=>
   some (0,false)
  | .inr r=>some r
def zay (p0:List ze) (p1:List (List Int)) (a:Nat) (d:Int×Bool×Bool) (again:Int->Option (Unit ⊕ (Int×Bool))) (b:Int):Option (Unit ⊕ (Int×Bool)):=
 (idx p1 (w64 ((a:Int)+d.1))).bind fun e=>
 if decide (b<((e).length:Int)) then
  (idx e b).bind fun c=>
  ((idx p1 (a:Int)).bind fun f=>
  (vj f c).bind fun g=>
  if (!g) then
   (idx p0 c).bind fun h=>
   some ((w64 ((a:Int)+d.1)) != (w64 (c-h.D)))
  else
   some false).bind fun j=>
  if j then
   some (.inr ((a:Int),true))
  else
   again (w64 (b+1))
 else
  some (.inl ())
def zaz (fu:Nat) (p0:List ze) (p1:List (List Int)) (b:Nat) (again:Unit->Option (Unit ⊕ (Int×Bool))) (e:Unit):Option (Unit ⊕ (Int×Bool)):=
 (idx p0 (b:Int)).bind fun c=>
 (xK c).bind fun a=>
 if ((!a.2.1)||decide (a.1<0)) then
  again ()
 else
  (loop (zay p0 p1 b a) fu 0).bind fun d=>match d with
   | .inl f=>
    again ()
   | .inr r=>some (.inr r)
def xS (fu:Nat) (p0:List ze) (p1:List (List Int)):Option (Int×Bool):=
 (qf (zaz fu p0 p1) (fun (b:Unit)=>(.inl ())) (p0).length 0 ()).bind fun a=>match a with
  | .inl c=>
   some (0,false)
  | .inr r=>some r
def zbK (p0:List ze) (p1:List (List Int)) (b:Nat) (again:(Int×Int)->Option Int) (a:Int×Int):Option Int:=
 ((idx p1 (b:Int)).bind fun c=>
 if decide (a.2<((c).length:Int)) then
  some (decide (a.1<=256))
 else
  some false).bind fun d=>
 if d then
  (idx p1 (b:Int)).bind fun e=>
  (idx e a.2).bind fun f=>
  (idx p0 f).bind fun g=>
  again (w64 (a.1*(w64 (g.Imm+1))),w64 (a.2+1))
 else
  some a.1
def zdx (fu:Nat) (p0:List ze) (p1:List (List Int)) (a:Nat) (again:Int->Option Int) (b:Int):Option Int:=
 (loop (zbK p0 p1 a) fu (1,0)).bind fun c=>
 again (w64 (b+c))
def zaI (fu:Nat) (p0:List ze) (p1:List (List Int)):Option Int:=
 (qf (zdx fu p0 p1) (fun (a:Int)=>a) (p0).length 0 0).bind fun b=>
 some b
def zbt (p0:List ze) (a:Nat) (again:Unit->Option (Unit ⊕ (Int×Int))) (e:Unit):Option (Unit ⊕ (Int×Int)):=
 (idx p0 (a:Int)).bind fun c=>
 (jg c).bind fun d=>
 if (!d) then
  some (.inr ((a:Int),12))
 else
  (xK c).bind fun b=>
  if (b.2.1&&(decide ((w64 ((a:Int)+b.1))<0)||decide ((w64 ((a:Int)+b.1))>(w64 (((p0).length:Int)-1))))) then
   some (.inr ((a:Int),30))
  else
   if (b.2.2&&((w64 ((a:Int)+1))==((p0).length:Int))) then
    some (.inr ((a:Int),36))
   else
    again ()
def xZ (fu:Nat) (p0:List ze):Option (Int×Int):=
 if (((p0).length:Int)==0) then
  some (0,10)
 else
  if decide (((p0).length:Int)>64) then
   some (0,11)
  else
   (qf (zbt p0) (fun (f:Unit)=>(.inl ())) (p0).length 0 ()).bind fun d=>match d with
    | .inl g=>
     (vE fu p0).bind fun a=>
     (xR fu p0 a).bind fun b=>
     if b.2 then
      some (b.1,31)
     else
      (xS fu p0 a).bind fun c=>
      if c.2 then
       some (c.1,31)
      else
       (zaI fu p0 a).bind fun e=>
       if decide (e>256) then
        some (0,32)
       else
        some (0,0)
    | .inr r=>some r
def xw (p0:Int) (p1:Int):Option zb:=
 some (zb.mk 1 (zc.mk p0 p1) 0)
def jq (p0:ze) (p1:List zb):Option zb:=
 if (p0.B==8) then
  (xw (jy p0.Imm) (jy p0.Imm)).bind fun a=>
  some a
 else
  (idx p1 p0.B).bind fun b=>
  some b
def zQ (p0:zc):Option Bool:=
 some (!decide (p0.Hi<p0.Lo))
def jE (p0:Int) (p1:Int) (a:Nat) (again:(Int×Int)->Option Int) (b:Int×Int):Option Int:=
 again (bOr .u64 b.1 (zgJ .u64 (zex .u64 (jy ((jy ((zex .u64 (zb4 .u64 p0 (jy (a:Int))) 1)+(zex .u64 (zb4 .u64 p1 (jy (a:Int))) 1)))+b.2)) 1) (jy (a:Int))),zb4 .u64 (jy ((jy ((zex .u64 (zb4 .u64 p0 (jy (a:Int))) 1)+(zex .u64 (zb4 .u64 p1 (jy (a:Int))) 1)))+b.2)) 1)
def qC (p0:Int) (p1:Int):Option Int:=
 (qf (jE p0 p1) (fun (a:Int×Int)=>a.1) 64 0 (0,0)).bind fun b=>
 some b
def va (p0:Int) (p1:Int):Option Int:=
 (qC (zio .u64 18446744073709551615 p1) 1).bind fun a=>
 (qC p0 a).bind fun b=>
 some b
def xd (p1:Int) (b:Nat) (again:(Int×Int)->Option Int) (a:Int×Int):Option Int:=
 (if ((zex .u64 (zb4 .u64 p1 (jy (b:Int))) 1)==1) then
  (qC a.2 a.1).bind fun c=>
  some c
 else
  some a.2).bind fun d=>
 (qC a.1 a.1).bind fun e=>
 again (e,d)
def vX (p0:Int) (p1:Int):Option Int:=
 (qf (xd p1) (fun (a:Int×Int)=>a.2) 64 0 (p0,0)).bind fun b=>
 some b
def xe (p0:Int) (p1:Int) (again:(Int×Int×Int)->Option (Int×Int)) (a:Int×Int×Int):Option (Int×Int):=
 if decide (a.2.2>=0) then
  (nn (jy a.2.2)).bind fun c=>
  if (((zb4 .u64 a.2.1 63)==1)||decide ((bOr .u64 (zgJ .u64 a.2.1 1) (zex .u64 (zb4 .u64 p0 (jy a.2.2)) 1))>=p1)) then
   (va (bOr .u64 (zgJ .u64 a.2.1 1) (zex .u64 (zb4 .u64 p0 (jy a.2.2)) 1)) p1).bind fun b=>
   (nn (jy a.2.2)).bind fun d=>
   again (bOr .u64 a.1 (zgJ .u64 1 (jy a.2.2)),b,w64 (a.2.2-1))
  else
   again (a.1,bOr .u64 (zgJ .u64 a.2.1 1) (zex .u64 (zb4 .u64 p0 (jy a.2.2)) 1),w64 (a.2.2-1))
 else
  some (a.1,a.2.1)
def vY (fu:Nat) (p0:Int) (p1:Int):Option (Int×Int):=
 (loop (xe p0 p1) fu (0,0,63)).bind fun a=>
 some (a.1,a.2)
def jJ (p0:Int) (p2:Int) (again:(Int×Int)->Option Int) (a:Int×Int):Option Int:=
 if (decide (a.2<p2)&&decide (a.1>0)) then
  if (p0==9) then
   (qC a.1 a.1).bind fun b=>
   again (b,jy (a.2+1))
  else
   again (jy (a.1.tdiv 2),jy (a.2+1))
 else
  some a.1
def qx (fu:Nat) (p0:Int) (p1:Int) (p2:Int):Option (Int×Bool):=
 if (p0==1) then
  (qC p1 p2).bind fun c=>
  some (c,true)
 else
  if (p0==2) then
   (va p1 p2).bind fun d=>
   some (d,true)
  else
   if (p0==3) then
    (vX p1 p2).bind fun e=>
    some (e,true)
   else
    (if (p0==4) then
     some (p0==4)
    else
     some (p0==5)).bind fun f=>
    if f then
     (if decide (p2>0) then
      (vY fu p1 p2).bind fun a=>
      some (a.1,a.2)
     else
      some (0,p1)).bind fun b=>
     if (p0==4) then
      some (b.1,true)
     else
      some (b.2,true)
    else
     if (p0==6) then
      some (zio .u64 18446744073709551615 (bOr .u64 (zio .u64 18446744073709551615 p1) (zio .u64 18446744073709551615 p2)),true)
     else
      if (p0==7) then
       some (zio .u64 18446744073709551615 (zex .u64 (zio .u64 18446744073709551615 p1) (zio .u64 18446744073709551615 p2)),true)
      else
       if (p0==8) then
        some (bOr .u64 (zie .u64 p1 p2) (zie .u64 p2 p1),true)
       else
        (if (p0==9) then
         some (p0==9)
        else
         some (p0==10)).bind fun g=>
        if g then
         (loop (jJ p0 p2) fu (p1,0)).bind fun h=>
         some (h,true)
        else
         some (0,false)
def vZ (p0:Int) (p1:Int):Option Bool:=
 (if decide (p0>0) then
  (nz p0).bind fun b=>
  some (decide (p1>(jy (Int.tdiv 18446744073709551615 p0))))
 else
  some false).bind fun a=>
 some a
def vk (p0:Int) (again:Int->Option Int) (a:Int):Option Int:=
 if decide (a<p0) then
  again (jy ((jy (2*a))+1))
 else
  some a
def xL (fu:Nat) (p0:Int):Option Int:=
 (loop (vk p0) fu 0).bind fun a=>
 some a
def xh (p1:Int) (again:(zc×Int)->Option (zc ⊕ (zc×Bool))) (a:zc×Int):Option (zc ⊕ (zc×Bool)):=
 if (decide (a.2<p1)&&decide (a.1.Hi>0)) then
  if decide (a.1.Hi>9223372036854775807) then
   some (.inr ((zc.mk 0 0),false))
  else
   again ((zc.mk (jy (2*a.1.Lo)) (jy (2*a.1.Hi))),jy (a.2+1))
 else
  some (.inl a.1)
def xn (fu:Nat) (p0:zc) (p1:Int):Option (zc×Bool):=
 (loop (xh p1) fu (p0,0)).bind fun a=>match a with
  | .inl b=>
   some (b,true)
  | .inr r=>some r
def vl (p1:Int) (again:(Int×Int)->Option Int) (a:Int×Int):Option Int:=
 if (decide (a.2<p1)&&decide (a.1>0)) then
  again (jy (a.1.tdiv 2),jy (a.2+1))
 else
  some a.1
def vu (fu:Nat) (p0:Int) (p1:Int):Option Int:=
 (loop (vl p1) fu (p0,0)).bind fun a=>
 some a
def zbA (fu:Nat) (p0:Int) (p1:zc) (p2:zc):Option (zc×Bool):=
 (if decide (p0<1) then
  some true
 else
  if decide (p0>10) then
   some true
  else
   (zQ p1).bind fun c=>
   if (!c) then
    some true
   else
    (zQ p2).bind fun d=>
    some (!d)).bind fun e=>
 if e then
  some ((zc.mk 0 0),false)
 else
  if ((p1.Lo==p1.Hi)&&(p2.Lo==p2.Hi)) then
   (qx fu p0 p1.Lo p2.Lo).bind fun a=>
   some ((zc.mk a.1 a.1),true)
  else
   if (p0==1) then
    if decide (p1.Hi>(jy (18446744073709551615-p2.Hi))) then
     some ((zc.mk 0 18446744073709551615),true)
    else
     some ((zc.mk (jy (p1.Lo+p2.Lo)) (jy (p1.Hi+p2.Hi))),true)
   else
    if (p0==2) then
     if decide (p1.Lo<p2.Hi) then
      some ((zc.mk 0 18446744073709551615),true)
     else
      some ((zc.mk (jy (p1.Lo-p2.Hi)) (jy (p1.Hi-p2.Lo))),true)
    else
     if (p0==3) then
      (vZ p1.Hi p2.Hi).bind fun f=>
      if f then
       some ((zc.mk 0 18446744073709551615),true)
      else
       some ((zc.mk (jy (p1.Lo*p2.Lo)) (jy (p1.Hi*p2.Hi))),true)
     else
      if (p0==4) then
       if (p2.Lo==0) then
        some ((zc.mk 0 p1.Hi),true)
       else
        (nz p2.Hi).bind fun n=>
        (nz p2.Lo).bind fun q=>
        some ((zc.mk (jy (p1.Lo.tdiv p2.Hi)) (jy (p1.Hi.tdiv p2.Lo))),true)
      else
       if (p0==5) then
        if (p2.Lo==0) then
         some ((zc.mk 0 p1.Hi),true)
        else
         if decide (p1.Hi<p2.Lo) then
          some (p1,true)
         else
          some ((zc.mk 0 (zeR p1.Hi (jy (p2.Hi-1)))),true)
       else
        if (p0==6) then
         some ((zc.mk 0 (zeR p1.Hi p2.Hi)),true)
        else
         if (p0==7) then
          (xL fu (zeU p1.Hi p2.Hi)).bind fun g=>
          some ((zc.mk (zeU p1.Lo p2.Lo) g),true)
         else
          if (p0==8) then
           (xL fu (zeU p1.Hi p2.Hi)).bind fun h=>
           some ((zc.mk 0 h),true)
          else
           if (p0==9) then
            if (p2.Lo != p2.Hi) then
             some ((zc.mk 0 18446744073709551615),true)
            else
             (xn fu p1 p2.Lo).bind fun b=>
             if (!b.2) then
              some ((zc.mk 0 18446744073709551615),true)
             else
              some (b.1,true)
           else
            (vu fu p1.Lo p2.Hi).bind fun j=>
            (vu fu p1.Hi p2.Lo).bind fun l=>
            some ((zc.mk j l),true)
def zaJ :Option zb:=
 (xw 0 18446744073709551615).bind fun a=>
 some a
def jv (p0:Int):Option zb:=
 some (zb.mk 1 (zc.mk 0 p0) 0)
def zaX (p0:Int):Option (zb×Bool):=
 (if (p0==0) then
  some (p0==0)
 else
  if (p0==4) then
   some (p0==4)
  else
   some (p0==5)).bind fun a=>
 if a then
  (jv 18446744073709551615).bind fun b=>
  some (b,true)
 else
  (if (p0==1) then
   some (p0==1)
  else
   if (p0==2) then
    some (p0==2)
   else
    some (p0==3)).bind fun c=>
  if c then
   (jv 1).bind fun d=>
   some (d,true)
  else
   if (p0==6) then
    (jv 0).bind fun e=>
    some (e,true)
   else
    some ((zb.mk 0 (zc.mk 0 0) 0),false)
def xx (p0:zc) (p1:Int):Option Bool:=
 ((zQ p0).bind fun a=>
 if a then
  if decide (p1>=p0.Lo) then
   some (decide (p1<=p0.Hi))
  else
   some false
 else
  some false).bind fun b=>
 some b
def vF (p0:Int) (p1:zc) (p2:zc) (p3:Bool):Option (zc×Bool):=
 (if decide (p0<16) then
  some true
 else
  if decide (p0>19) then
   some true
  else
   (zQ p1).bind fun a=>
   if (!a) then
    some true
   else
    (zQ p2).bind fun b=>
    some (!b)).bind fun c=>
 if c then
  some ((zc.mk 0 0),false)
 else
  if (p2.Lo != p2.Hi) then
   some (p1,true)
  else
   if (((p0==18)&&p3)||((p0==19)&&(!p3))) then
    if decide (p1.Lo>=p2.Lo) then
     some ((zc.mk 0 0),false)
    else
     some ((zc.mk p1.Lo (zeR p1.Hi (jy (p2.Lo-1)))),true)
   else
    if decide (p0>=18) then
     if decide (p1.Hi<p2.Lo) then
      some ((zc.mk 0 0),false)
     else
      some ((zc.mk (zeU p1.Lo p2.Lo) p1.Hi),true)
    else
     if (((p0==16)&&p3)||((p0==17)&&(!p3))) then
      (xx p1 p2.Lo).bind fun d=>
      if (!d) then
       some ((zc.mk 0 0),false)
      else
       some (p2,true)
     else
      if ((p1.Lo==p2.Lo)&&(p1.Hi==p2.Lo)) then
       some ((zc.mk 0 0),false)
      else
       if (p1.Lo==p2.Lo) then
        some ((zc.mk (jy (p2.Lo+1)) p1.Hi),true)
       else
        if (p1.Hi==p2.Lo) then
         some ((zc.mk p1.Lo (jy (p2.Lo-1))),true)
        else
         some (p1,true)
def qR (fu:Nat) (p0:zg) (p1:Int) (p2:List zb) (p3:Bool):Option ((List zb)×Bool):=
 (idx p0.Co p1).bind fun a=>
 (room (([]:List zb).length+p2.length) 32).bind fun E=>
 if (a.Op==0) then
  (jq a p2).bind fun e=>
  (idx (([]:List zb)++p2) a.D).bind fun F=>
  some (((([]:List zb)++p2).set (Int.toNat a.D) e),true)
 else
  (xY a.Op).bind fun f=>
  if f then
   ((idx p2 a.A).bind fun g=>
   (jq a p2).bind fun h=>
   (zbA fu a.Op g.Sp h.Sp).bind fun j=>
   some j.1).bind fun c=>
   (xw c.Lo c.Hi).bind fun l=>
   (idx (([]:List zb)++p2) a.D).bind fun G=>
   some (((([]:List zb)++p2).set (Int.toNat a.D) l),true)
  else
   if ((a.Op==11)||(a.Op==13)) then
    zaJ.bind fun n=>
    (idx (([]:List zb)++p2) a.D).bind fun H=>
    some (((([]:List zb)++p2).set (Int.toNat a.D) n),true)
   else
    if (a.Op==14) then
     (idx (([]:List zb)++p2) a.D).bind fun I=>
     some (((([]:List zb)++p2).set (Int.toNat a.D) (zb.mk 2 (zc.mk 0 0) a.Imm)),true)
    else
     if (a.Op==21) then
      (zaX a.Imm).bind fun q=>
      (idx (([]:List zb)++p2) 0).bind fun J=>
      some (((([]:List zb)++p2).set (Int.toNat 0) q.1),true)
     else
      (jz a.Op).bind fun v=>
      if v then
       ((idx p2 a.A).bind fun z=>
       (jq a p2).bind fun B=>
       (vF a.Op z.Sp B.Sp p3).bind fun d=>
       some (d.1,d.2)).bind fun b=>
       if (!b.2) then
        some (([]:List zb),false)
       else
        (xw b.1.Lo b.1.Hi).bind fun C=>
        (idx (([]:List zb)++p2) a.A).bind fun K=>
        some (((([]:List zb)++p2).set (Int.toNat a.A) C),true)
      else
       some ((([]:List zb)++p2),true)
def xf (fu:Nat) (p0:zg) (p1:Int) (p2:List (List zb)) (again:((List (List zb))×Int)->Option (List (List zb))) (a:(List (List zb))×Int):Option (List (List zb)):=
 if decide (a.2<p1) then
  (idx p2 a.2).bind fun c=>
  if (((c).length:Int)==0) then
   again (a.1,w64 (a.2+1))
  else
   (idx p0.Co a.2).bind fun g=>
   (xK g).bind fun d=>
   (if (d.2.1&&((w64 (a.2+d.1))==p1)) then
    (qR fu p0 a.2 c true).bind fun e=>
    if e.2 then
     (room (a.1.length+([e.1]).length) 24).bind fun h=>
     some (a.1++ [e.1])
    else
     some a.1
   else
    some a.1).bind fun b=>
   if (d.2.2&&((w64 (a.2+1))==p1)) then
    (qR fu p0 a.2 c false).bind fun f=>
    if f.2 then
     (room (b.length+([f.1]).length) 24).bind fun j=>
     again ((b++ [f.1]),w64 (a.2+1))
    else
     again (b,w64 (a.2+1))
   else
    again (b,w64 (a.2+1))
 else
  some a.1
def zaa (fu:Nat) (p0:zg) (p1:Int) (p2:List (List zb)):Option (List (List zb)):=
 (if (p1==0) then
  (mkLen 8 32).bind fun a=>
  (room (([]:List (List zb)).length+([(List.replicate a (zb.mk 0 (zc.mk 0 0) 0))]).length) 24).bind fun d=>
  some (([]:List (List zb))++ [(List.replicate a (zb.mk 0 (zc.mk 0 0) 0))])
 else
  some ([]:List (List zb))).bind fun b=>
 (loop (xf fu p0 p1 p2) fu (b,0)).bind fun c=>
 some c
def qo (p0:List zc) (c:Nat) (again:zc->Option (zc ⊕ (zc×Bool))) (b:zc):Option (zc ⊕ (zc×Bool)):=
 (idx p0 (c:Int)).bind fun a=>
 (zQ a).bind fun e=>
 if (!e) then
  some (.inr ((zc.mk 0 0),false))
 else
  (if ((c:Int)==0) then
   some true
  else
   some (decide (a.Lo<b.Lo))).bind fun f=>
  (if f then
   some a.Lo
  else
   some b.Lo).bind fun d=>
  (if ((c:Int)==0) then
   some true
  else
   some (decide (a.Hi>b.Hi))).bind fun g=>
  if g then
   again (zc.mk d a.Hi)
  else
   again (zc.mk d b.Hi)
def zaK (p0:List zc):Option (zc×Bool):=
 (qf (qo p0) (fun (a:zc)=>(.inl a)) (p0).length 0 (zc.mk 0 0)).bind fun b=>match b with
  | .inl c=>
   some (c,decide (((p0).length:Int)>0))
  | .inr r=>some r
def jK (p0:List zb) (b:Nat) (again:(List zc)->Option ((List zc) ⊕ zb)) (c:(List zc)):Option ((List zc) ⊕ zb):=
 ((idx p0 (b:Int)).bind fun a=>
 (idx p0 0).bind fun d=>
 if (a.Ki != d.Ki) then
  some true
 else
  if (a.Ki==2) then
   some (a.Map != d.Map)
  else
   some false).bind fun f=>
 if f then
  some (.inr (zb.mk 0 (zc.mk 0 0) 0))
 else
  (idx p0 (b:Int)).bind fun e=>
  (room (c.length+([e.Sp]).length) 16).bind fun g=>
  again (c++ [e.Sp])
def vG (p0:List zb):Option zb:=
 (qf (jK p0) (fun (c:(List zc))=>(.inl c)) (p0).length 0 ([]:List zc)).bind fun d=>match d with
  | .inl e=>
   (idx p0 0).bind fun a=>
   if (a.Ki==1) then
    (zaK e).bind fun b=>
    (xw b.1.Lo b.1.Hi).bind fun f=>
    some f
   else
    some a
  | .inr r=>some r
def vH (p0:ze):Option (Int×Bool):=
 (jg p0).bind fun a=>
 if (!a) then
  some (0,false)
 else
  if ((decide (p0.Op<=11)||(p0.Op==13))||(p0.Op==14)) then
   some (p0.D,true)
  else
   some (0,(p0.Op==21))
def vc (c:(List (List zb))) (d:Nat) (e:Nat) (again:(List zb)->Option (List zb)) (a:(List zb)):Option (List zb):=
 (idx c (e:Int)).bind fun f=>
 (idx f (d:Int)).bind fun b=>
 (room (a.length+([b]).length) 32).bind fun g=>
 again (a++ [b])
def vd (b:(List (List zb))) (a:Nat) (again:(List zb)->Option (List zb)) (c:(List zb)):Option (List zb):=
 (qf (vc b a) (fun (d:(List zb))=>d) (b).length 0 ([]:List zb)).bind fun e=>
 (vG e).bind fun f=>
 (idx c (a:Int)).bind fun g=>
 again (c.set (Int.toNat (a:Int)) f)
def zbk (p0:zg) (d:Nat) (again:((List zb)×Int)->Option (List zb)) (a:(List zb)×Int):Option (List zb):=
 if decide (a.2<=(d:Int)) then
  (idx p0.Co a.2).bind fun e=>
  (vH e).bind fun b=>
  (if b.2 then
   (idx a.1 b.1).bind fun f=>
   some (f.Ki==1)
  else
   some false).bind fun g=>
  (if g then
   zaJ.bind fun h=>
   (idx a.1 b.1).bind fun n=>
   some (a.1.set (Int.toNat b.1) h)
  else
   some a.1).bind fun c=>
  (if b.2 then
   (idx c b.1).bind fun j=>
   some (j.Ki==2)
  else
   some false).bind fun l=>
  if l then
   (idx c b.1).bind fun q=>
   again ((c.set (Int.toNat b.1) (zb.mk 0 (zc.mk 0 0) 0)),w64 (a.2+1))
  else
   again (c,w64 (a.2+1))
 else
  some a.1
def ve (fu:Nat) (p0:zg) (p1:Int) (a:Nat) (again:(List zb)->Option (List zb)) (b:(List zb)):Option (List zb):=
 ((idx p0.Co (a:Int)).bind fun c=>
 if (c.Op != 20) then
  some true
 else
  some ((w64 ((a:Int)-c.D)) != p1)).bind fun d=>
 if d then
  again b
 else
  (loop (zbk p0 a) fu (b,p1)).bind fun e=>
  again e
def zaR (fu:Nat) (p0:zg) (p1:Int) (p2:List (List zb)):Option (List zb):=
 (zaa fu p0 p1 p2).bind fun a=>
 if (((a).length:Int)==0) then
  some ([]:List zb)
 else
  (mkLen 8 32).bind fun b=>
  (qf (vd a) (fun (c:(List zb))=>c) 8 0 (List.replicate b (zb.mk 0 (zc.mk 0 0) 0))).bind fun d=>
  (qf (ve fu p0 p1) (fun (e:(List zb))=>e) (p0.Co).length 0 d).bind fun f=>
  some f
def vI (p0:ze):Option Bool:=
 ((jg p0).bind fun a=>
 if a then
  if decide (p0.Op<=12) then
   some true
  else
   (jz p0.Op).bind fun b=>
   some b
 else
  some false).bind fun c=>
 some c
def zaL (p0:Int):Option (List zb):=
 (if (p0==0) then
  some (p0==0)
 else
  if (p0==1) then
   some (p0==1)
  else
   some (p0==3)).bind fun a=>
 if a then
  (jv 18446744073709551615).bind fun b=>
  some ([(zb.mk 2 (zc.mk 0 0) 0),b])
 else
  (if (p0==2) then
   some (p0==2)
  else
   some (p0==4)).bind fun c=>
  if c then
   (jv 18446744073709551615).bind fun d=>
   (jv 18446744073709551615).bind fun e=>
   some ([(zb.mk 2 (zc.mk 0 0) 0),d,e])
  else
   if (p0==5) then
    (jv 15).bind fun f=>
    some ([f])
   else
    if (p0==6) then
     (jv 18446744073709551615).bind fun g=>
     some ([g])
    else
     some ([]:List zb)
def xE (p0:zc) (p1:zc):Option Bool:=
 ((zQ p0).bind fun a=>
 if a then
  (zQ p1).bind fun b=>
  if b then
   (xx p1 p0.Lo).bind fun c=>
   if c then
    (xx p1 p0.Hi).bind fun d=>
    some d
   else
    some false
  else
   some false
 else
  some false).bind fun e=>
 some e
def zbu (p1:List zb) (d:(List zb)) (b:Nat) (again:Unit->Option (Unit ⊕ Int)) (g:Unit):Option (Unit ⊕ Int):=
 (idx p1 (b:Int)).bind fun c=>
 (idx d (b:Int)).bind fun a=>
 if (c.Ki != a.Ki) then
  some (.inr 33)
 else
  (if (a.Ki==1) then
   (xE c.Sp a.Sp).bind fun e=>
   some (!e)
  else
   some false).bind fun f=>
  if f then
   some (.inr 35)
  else
   again ()
def zab (p0:Int) (p1:List zb):Option Int:=
 if (decide (p0<0)||decide (p0>6)) then
  some 34
 else
  (zaL p0).bind fun a=>
  if (((a).length:Int) != ((p1).length:Int)) then
   some 2
  else
   (qf (zbu p1 a) (fun (c:Unit)=>(.inl ())) (a).length 0 ()).bind fun b=>match b with
    | .inl d=>
     some 0
    | .inr r=>some r
def zaM (p0:zb) (p1:zb):Option Bool:=
 if (p1.Ki==0) then
  some true
 else
  if (p0.Ki != p1.Ki) then
   some false
  else
   if (p1.Ki==1) then
    (xE p0.Sp p1.Sp).bind fun a=>
    some a
   else
    some (p0.Map==p1.Map)
def xo (p2:List zb) (p3:List zb) (a:Nat) (again:Unit->Option (Unit ⊕ Int)) (e:Unit):Option (Unit ⊕ Int):=
 (idx p2 (a:Int)).bind fun b=>
 (idx p3 (a:Int)).bind fun c=>
 (zaM b c).bind fun d=>
 if (!d) then
  some (.inr 33)
 else
  again ()
def xg (p0:zg) (p1:Int) (p2:List zb) (p3:List zb):Option Int:=
 (idx p0.Co p1).bind fun a=>
 (vI a).bind fun c=>
 (if c then
  (jq a p2).bind fun d=>
  some d
 else
  some (zb.mk 0 (zc.mk 0 0) 0)).bind fun b=>
 ((if (a.Op==0) then
  if (b.Ki==0) then
   some (.inr 33)
  else
   some (.inl ())
 else
  if ((a.Op==13)||(a.Op==15)) then
   some (.inl ())
  else
   if (a.Op==14) then
    if decide (a.Imm>=((p0.Ms).length:Int)) then
     some (.inr 35)
    else
     some (.inl ())
   else
    if (a.Op==21) then
     (zaL a.Imm).bind fun e=>
     (cut p2 1 (w64 (1+((e).length:Int)))).bind fun f=>
     (zab a.Imm f).bind fun g=>
     some (.inr g)
    else
     if (a.Op==11) then
      if (b.Ki != 1) then
       some (.inr 33)
      else
       some (.inl ())
     else
      if ((a.Op==20)||(a.Op==22)) then
       (idx p2 a.A).bind fun h=>
       if (h.Ki != 1) then
        some (.inr 33)
       else
        some (.inl ())
      else
       ((idx p2 a.A).bind fun j=>
       if (j.Ki != 1) then
        some true
       else
        some (b.Ki != 1)).bind fun l=>
       if l then
        some (.inr 33)
       else
        some (.inl ())):Option (Unit ⊕ Int)).bind fun n=>match n with
  | .inl v=>
   if (((a.Op==11)||(a.Op==12))&&decide (b.Sp.Hi>15)) then
    some 35
   else
    if (a.Op==20) then
     (qf (xo p2 p3) (fun (z:Unit)=>(.inl ())) 8 0 ()).bind fun q=>match q with
      | .inl B=>
       some 0
      | .inr r=>some r
    else
     some 0
  | .inr r=>some r
def qS (fu:Nat) (p0:zg) (b:Nat) (again:(List (List zb))->Option ((List (List zb)) ⊕ ((List (List zb))×Int×Int))) (c:(List (List zb))):Option ((List (List zb)) ⊕ ((List (List zb))×Int×Int)):=
 (zaR fu p0 (b:Int) c).bind fun a=>
 (room (c.length+([a]).length) 24).bind fun h=>
 if (((a).length:Int)==0) then
  again (c++ [a])
 else
  (idx p0.Co (b:Int)).bind fun d=>
  if (d.Op==20) then
   (idx (c++ [a]) (w64 ((b:Int)-d.D))).bind fun g=>
   (apart (w64 ((b:Int)-d.D)) (c.length:Int)).bind fun j=>
   (xg p0 (b:Int) a g).bind fun e=>
   if (e != 0) then
    some (.inr (([]:List (List zb)),(b:Int),e))
   else
    again (c++ [a])
  else
   (xg p0 (b:Int) a a).bind fun f=>
   if (f != 0) then
    some (.inr (([]:List (List zb)),(b:Int),f))
   else
    again (c++ [a])
def xz (fu:Nat) (p0:zg):Option ((List (List zb))×Int×Int):=
 (xJ fu p0.Ms).bind fun b=>
 if (!b) then
  some (([]:List (List zb)),0,2)
 else
  (xZ fu p0.Co).bind fun a=>
  if (a.2 != 0) then
   some (([]:List (List zb)),a.1,a.2)
  else
   (qf (qS fu p0) (fun (c:(List (List zb)))=>(.inl c)) (p0.Co).length 0 ([]:List (List zb))).bind fun d=>match d with
    | .inl e=>
     some (e,0,0)
    | .inr r=>some r
def jO (p0:zd) (a:zg×Int×Int) (b:Nat) (again:Unit->Option (Unit ⊕ (Int×Int×zd))) (d:Unit):Option (Unit ⊕ (Int×Int×zd)):=
 (idx a.1.Ms (b:Int)).bind fun c=>
 if decide (c>=p0.Ms) then
  some (.inr (0,41,p0))
 else
  again ()
def jP (p0:zd) (again:(Int×Int)->Option Int) (a:Int×Int):Option Int:=
 if decide (a.2<((p0.Progs).length:Int)) then
  (idx p0.Progs a.2).bind fun b=>
  if decide (b.State<2) then
   again (w64 (a.1+1),w64 (a.2+1))
  else
   again (a.1,w64 (a.2+1))
 else
  some a.1
def qH (fu:Nat) (p0:zd) (p1:List Int):Option (Int×Int×zd):=
 (xD fu p1).bind fun a=>
 if (a.2.2 != 0) then
  some (0,a.2.2,p0)
 else
  (xz fu a.1).bind fun b=>
  if (b.2.2 != 0) then
   some (0,b.2.2,p0)
  else
   (qf (jO p0 a) (fun (e:Unit)=>(.inl ())) (a.1.Ms).length 0 ()).bind fun c=>match c with
    | .inl f=>
     (loop (jP p0) fu (0,0)).bind fun d=>
     if decide (d>=16) then
      some (0,40,p0)
     else
      (room (p0.Progs.length+([(zm.mk a.1 0 0)]).length) 64).bind fun g=>
      some ((((p0.Progs++ [(zm.mk a.1 0 0)])).length:Int),0,(zd.mk p0.Ms p0.T p0.C (p0.Progs++ [(zm.mk a.1 0 0)]) p0.Line))
    | .inr r=>some r
def zT (p0:zd) (p1:Int):Option Int:=
 if (decide (p1<1)||decide (p1>((p0.Progs).length:Int))) then
  some 2
 else
  (idx p0.Progs (w64 (p1-1))).bind fun a=>
  some a.State
def zaY (p0:zl) (p1:Int) (again:Int->Option (Unit ⊕ (Int×Int×Bool))) (b:Int):Option (Unit ⊕ (Int×Int×Bool)):=
 if decide (b>=0) then
  (idx p0.Steps b).bind fun a=>
  if (a.Hook==p1) then
   some (.inr (a.Version,a.Prog,decide (a.Version>0)))
  else
   again (w64 (b-1))
 else
  some (.inl ())
def zW (fu:Nat) (p0:zl) (p1:Int):Option (Int×Int×Bool):=
 (loop (zaY p0 p1) fu (w64 (((p0.Steps).length:Int)-1))).bind fun a=>match a with
  | .inl b=>
   some (0,0,false)
  | .inr r=>some r
def jL (fu:Nat) (p0:zl) (p1:Int) (p2:Int) (p3:Bool):Option (Int×Int×zl):=
 if (decide (p1<0)||decide (p1>=p0.Hooks)) then
  some (0,2,p0)
 else
  (zW fu p0 p1).bind fun a=>
  if (a.2.2&&(!p3)) then
   some (0,42,p0)
  else
   if ((!a.2.2)&&p3) then
    some (0,41,p0)
   else
    (room (p0.Steps.length+([(qa.mk p1 p2 (w64 (p0.Last+1)))]).length) 24).bind fun b=>
    some (w64 (p0.Last+1),0,(zl.mk p0.Hooks (w64 (p0.Last+1)) (p0.Steps++ [(qa.mk p1 p2 (w64 (p0.Last+1)))])))
def zR (fu:Nat) (p0:zd) (p1:Int) (p2:Int) (p3:Bool):Option (Int×Int×zd):=
 (if decide (p1<0) then
  some true
 else
  some (decide (p1>=p0.T.Hooks))).bind fun b=>
 if b then
  some (0,2,p0)
 else
  (zT p0 p2).bind fun c=>
  if (c != 0) then
   some (0,41,p0)
  else
   (jL fu p0.T p1 p2 p3).bind fun a=>
   some (a.1,a.2.1,(zd.mk p0.Ms a.2.2 p0.C p0.Progs p0.Line))
def vv (p0:zo) (p1:Int) (p2:Int):Option (Int×Int×zo):=
 (zY p0 p1).bind fun b=>
 if (!b) then
  some (0,2,p0)
 else
  (qr p0 p1).bind fun c=>
  if (!c) then
   some (0,41,p0)
  else
   (xm p0 p1 p2).bind fun a=>
   some (a.1,a.2.1,a.2.2)
def qi (p0:za) (p1:Int) (p2:Int):Option (Int×Int×za):=
 if decide (p1<0) then
  some (0,2,p0)
 else
  if decide (p1>=p0.hooks) then
   some (0,2,p0)
  else
   if (qO p0.progs p2).isSome then
    (qO p0.progs p2).bind fun b=>
    if (!(b.retiring==0)) then
     some (0,41,p0)
    else
     (vv p0.Table p1 p2).bind fun a=>
     some (a.1,a.2.1,(za.mk a.2.2 p0.Refs p0.Clock p0.hooks p0.maps p0.given p0.progs p0.waiting))
   else
    some (0,41,p0)
def za7 (p0:zo) (p1:List Int) (a:Nat) (again:Unit->Option (Unit ⊕ (Int×zo))) (g:Unit):Option (Unit ⊕ (Int×zo)):=
 (idx p1 (a:Int)).bind fun b=>
 ((zY p0 b).bind fun c=>
 if (!c) then
  some true
 else
  (cut p1 0 (a:Int)).bind fun d=>
  (zC d b).bind fun e=>
  some e).bind fun f=>
 if f then
  some (.inr (2,p0))
 else
  again ()
def zcO (p0:zo) (p1:List Int) (a:Nat) (again:Unit->Option (Unit ⊕ (Int×zo))) (d:Unit):Option (Unit ⊕ (Int×zo)):=
 (idx p1 (a:Int)).bind fun b=>
 (qr p0 b).bind fun c=>
 if (!c) then
  some (.inr (41,p0))
 else
  again ()
def zcP (p1:List Int) (c:Nat) (again:zo->Option zo) (a:zo):Option zo:=
 (idx p1 (c:Int)).bind fun b=>
 (idx a.hooks b).bind fun d=>
 again (zo.mk a.Versions (a.hooks.set (Int.toNat b) (qW.mk 0 0)))
def jV (p0:zo) (p1:List Int):Option (Int×zo):=
 (qf (za7 p0 p1) (fun (e:Unit)=>(.inl ())) (p1).length 0 ()).bind fun a=>match a with
  | .inl f=>
   (qf (zcO p0 p1) (fun (g:Unit)=>(.inl ())) (p1).length 0 ()).bind fun b=>match b with
    | .inl h=>
     (qf (zcP p1) (fun (c:zo)=>c) (p1).length 0 p0).bind fun d=>
     some (0,d)
    | .inr r=>some r
  | .inr r=>some r
def zdy (p0:zl) (p1:List Int) (a:Nat) (b:Nat) (again:Unit->Option (Unit ⊕ (Int×zl))) (e:Unit):Option (Unit ⊕ (Int×zl)):=
 (idx p1 (b:Int)).bind fun c=>
 (idx p1 (a:Int)).bind fun d=>
 if (c==d) then
  some (.inr (2,p0))
 else
  again ()
def vm (p0:zl) (p1:List Int) (a:Nat) (again:Unit->Option (Unit ⊕ (Int×zl))) (e:Unit):Option (Unit ⊕ (Int×zl)):=
 ((idx p1 (a:Int)).bind fun b=>
 if decide (b<0) then
  some true
 else
  if decide (b>=p0.Hooks) then
   some true
  else
   some (decide ((a:Int)>4))).bind fun c=>
 if c then
  some (.inr (2,p0))
 else
  ((room a 1).bind fun f=>
  qf (zdy p0 p1 a) (fun (g:Unit)=>(.inl ())) a 0 ()).bind fun d=>match d with
   | .inl h=>
    again ()
   | .inr r=>some (.inr r)
def za8 (fu:Nat) (p0:zl) (p1:List Int) (a:Nat) (again:Unit->Option (Unit ⊕ (Int×zl))) (d:Unit):Option (Unit ⊕ (Int×zl)):=
 (idx p1 (a:Int)).bind fun b=>
 (zW fu p0 b).bind fun c=>
 if (!c.2.2) then
  some (.inr (41,p0))
 else
  again ()
def za9 (p1:List Int) (c:Nat) (again:zl->Option zl) (a:zl):Option zl:=
 (idx p1 (c:Int)).bind fun b=>
 (room (a.Steps.length+([(qa.mk b 0 0)]).length) 24).bind fun d=>
 again (zl.mk a.Hooks a.Last (a.Steps++ [(qa.mk b 0 0)]))
def qt (fu:Nat) (p0:zl) (p1:List Int):Option (Int×zl):=
 (qf (vm p0 p1) (fun (e:Unit)=>(.inl ())) (p1).length 0 ()).bind fun a=>match a with
  | .inl f=>
   (qf (za8 fu p0 p1) (fun (g:Unit)=>(.inl ())) (p1).length 0 ()).bind fun b=>match b with
    | .inl h=>
     (qf (za9 p1) (fun (c:zl)=>c) (p1).length 0 p0).bind fun d=>
     some (0,d)
    | .inr r=>some r
  | .inr r=>some r
def zcY (p0:zo) (p1:List Int) (a:Nat) (again:(List Int)->Option (List Int)) (b:(List Int)):Option (List Int):=
 (idx p0.hooks (a:Int)).bind fun c=>
 (if decide (c.version>0) then
  (zC p1 c.prog).bind fun d=>
  some d
 else
  some false).bind fun e=>
 if e then
  (room (b.length+([(a:Int)]).length) 8).bind fun f=>
  again (b++ [(a:Int)])
 else
  again b
def zac (p0:zo) (p1:List Int):Option (List Int):=
 (qf (zcY p0 p1) (fun (a:(List Int))=>a) (p0.hooks).length 0 ([]:List Int)).bind fun b=>
 some b
def xp (p0:zt):Option (Int×zt):=
 some (w64 (p0.now+1),(zt.mk (w64 (p0.now+1)) p0.in_))
def jM (p0:za) (p1:Int):Option (Int×Int×za):=
 if (!(qO p0.progs p1).isSome) then
  some (0,41,p0)
 else
  (qO p0.progs p1).bind fun b=>
  if decide (b.retiring>0) then
   some (0,42,p0)
  else
   (zac p0.Table ([p1])).bind fun c=>
   if decide (((c).length:Int)>0) then
    some (0,42,p0)
   else
    (xp p0.Clock).bind fun a=>
    (room (p0.waiting.length+([p1]).length) 8).bind fun d=>
    some (a.1,0,(za.mk p0.Table p0.Refs a.2 p0.hooks p0.maps p0.given (zf7 p0.progs p1 (zr.mk b.mo a.1)) (p0.waiting++ [p1])))
def zbn (p1:List Int) (a:Int×Int×Bool) (b:Nat) (again:Bool->Option Bool) (c:Bool):Option Bool:=
 if c then
  again true
 else
  (idx p1 (b:Int)).bind fun d=>
  again (d==a.2.1)
def zbo (fu:Nat) (p0:zl) (p1:List Int) (again:((List Int)×Int)->Option (List Int)) (a:(List Int)×Int):Option (List Int):=
 if decide (a.2<p0.Hooks) then
  (zW fu p0 a.2).bind fun b=>
  (qf (zbn p1 b) (fun (c:Bool)=>c) (p1).length 0 false).bind fun d=>
  if (b.2.2&&d) then
   (room (a.1.length+([a.2]).length) 8).bind fun e=>
   again ((a.1++ [a.2]),w64 (a.2+1))
  else
   again (a.1,w64 (a.2+1))
 else
  some a.1
def jW (fu:Nat) (p0:zl) (p1:List Int):Option (List Int):=
 (loop (zbo fu p0 p1) fu (([]:List Int),0)).bind fun a=>
 some a
def zbW (p0:zj) (again:(Int×Int)->Option Int) (a:Int×Int):Option Int:=
 if decide (a.2<((p0.Steps).length:Int)) then
  (idx p0.Steps a.2).bind fun b=>
  if (b.Ki==3) then
   again (w64 (a.1+1),w64 (a.2+1))
  else
   again (a.1,w64 (a.2+1))
 else
  some a.1
def qZ (fu:Nat) (p0:zj):Option Int:=
 (loop (zbW p0) fu (1,0)).bind fun a=>
 some a
def qI (fu:Nat) (p0:zj):Option (Int×zj):=
 (room (p0.Steps.length+([(zx.mk 3 0)]).length) 16).bind fun b=>
 (qZ fu (zj.mk p0.Workers (p0.Steps++ [(zx.mk 3 0)]))).bind fun a=>
 some (a,(zj.mk p0.Workers (p0.Steps++ [(zx.mk 3 0)])))
def ja (fu:Nat) (p0:zd) (p1:Int):Option (Int×Int×zd):=
 (zT p0 p1).bind fun b=>
 if (b==2) then
  some (0,41,p0)
 else
  ((zT p0 p1).bind fun c=>
  if (c==1) then
   some true
  else
   (jW fu p0.T ([p1])).bind fun d=>
   some (decide (((d).length:Int)>0))).bind fun e=>
  if e then
   some (0,42,p0)
  else
   (qI fu p0.C).bind fun a=>
   (idx p0.Progs (w64 (p1-1))).bind fun f=>
   (room (p0.Line.length+([p1]).length) 8).bind fun g=>
   some (a.1,0,(zd.mk p0.Ms p0.T a.2 (p0.Progs.set (Int.toNat (w64 (p1-1))) (zm.mk f.M 1 a.1)) (p0.Line++ [p1])))
def zdz (p0:zt) (p1:Int) (b:Nat) (again:Unit->Option (Unit ⊕ Bool)) (c:Unit):Option (Unit ⊕ Bool):=
 (idx p0.in_ (b:Int)).bind fun a=>
 if ((a != 0)&&decide (a<p1)) then
  some (.inr false)
 else
  again ()
def vw (p0:zt) (p1:Int):Option Bool:=
 (qf (zdz p0 p1) (fun (b:Unit)=>(.inl ())) (p0.in_).length 0 ()).bind fun a=>match a with
  | .inl c=>
   some true
  | .inr r=>some r
def zcu (p0:zw) (p1:List Int) (a:Nat) (again:Unit->Option (Unit ⊕ (Int×zw))) (e:Unit):Option (Unit ⊕ (Int×zw)):=
 (idx p1 (a:Int)).bind fun b=>
 (cut p1 0 (a:Int)).bind fun c=>
 (zC c b).bind fun d=>
 if d then
  some (.inr (2,p0))
 else
  again ()
def zcv (p0:zw) (p1:List Int) (a:Nat) (again:Unit->Option (Unit ⊕ (Int×zw))) (c:Unit):Option (Unit ⊕ (Int×zw)):=
 (idx p1 (a:Int)).bind fun b=>
 if (!(qO p0.held b).isSome) then
  some (.inr (41,p0))
 else
  again ()
def zcw (p1:List Int) (b:Nat) (again:zw->Option zw) (a:zw):Option zw:=
 (idx p1 (b:Int)).bind fun c=>
 again (zw.mk a.maps (mdel a.held c))
def vL (p0:zw) (p1:List Int):Option (Int×zw):=
 (qf (zcu p0 p1) (fun (e:Unit)=>(.inl ())) (p1).length 0 ()).bind fun a=>match a with
  | .inl f=>
   (qf (zcv p0 p1) (fun (g:Unit)=>(.inl ())) (p1).length 0 ()).bind fun b=>match b with
    | .inl h=>
     (qf (zcw p1) (fun (c:zw)=>c) (p1).length 0 p0).bind fun d=>
     some (0,d)
    | .inr r=>some r
  | .inr r=>some r
def xq (p0:List Int) (p1:List Int) (a:Nat) (again:Unit->Option (Unit ⊕ Int)) (d:Unit):Option (Unit ⊕ Int):=
 (idx p0 (a:Int)).bind fun b=>
 (ql b p1).bind fun c=>
 if c then
  some (.inr (a:Int))
 else
  again ()
def jQ (p0:List Int) (p1:List Int):Option Int:=
 (qf (xq p0 p1) (fun (b:Unit)=>(.inl ())) (p0).length 0 ()).bind fun a=>match a with
  | .inl c=>
   some (-1)
  | .inr r=>some r
def zK (p1:List Int) (again:((List Int)×Int×Int)->Option ((List Int)×Int)) (a:(List Int)×Int×Int):Option ((List Int)×Int):=
 if decide (a.2.2<((a.1).length:Int)) then
  (idx a.1 a.2.2).bind fun b=>
  (ql b p1).bind fun c=>
  if (!c) then
   (idx a.1 a.2.1).bind fun d=>
   again ((a.1.set (Int.toNat a.2.1) b),w64 (a.2.1+1),w64 (a.2.2+1))
  else
   again (a.1,a.2.1,w64 (a.2.2+1))
 else
  some (a.1,a.2.1)
def zS (fu:Nat) (p0:List Int) (p1:List Int):Option (List Int):=
 (jQ p0 p1).bind fun b=>
 if (b==(-1)) then
  some p0
 else
  (loop (zK p1) fu (p0,b,w64 (b+1))).bind fun a=>
  (cut a.1 a.2 (a.1.length:Int)).bind fun c=>
  (cut (a.1.take (Int.toNat a.2)++List.replicate c.length 0) 0 a.2).bind fun d=>
  some d
def qd (p0:za) (p1:Int) (c:Nat) (again:(List Int)->Option (List Int)) (a:(List Int)):Option (List Int):=
 (idx p0.waiting (c:Int)).bind fun b=>
 (if decide (((a).length:Int)<p1) then
  (qO p0.progs b).bind fun d=>
  (vw p0.Clock d.retiring).bind fun e=>
  some e
 else
  some false).bind fun f=>
 if f then
  (room (a.length+([b]).length) 8).bind fun g=>
  again (a++ [b])
 else
  again a
def qe (c:(List Int)) (d:Nat) (again:za->Option za) (a:za):Option za:=
 (idx c (d:Int)).bind fun b=>
 (vL a.Refs ([b])).bind fun e=>
 again (za.mk a.Table e.2 a.Clock a.hooks a.maps a.given (mdel a.progs b) a.waiting)
def zL (fu:Nat) (p0:za) (p1:Int):Option ((List Int)×za):=
 (qf (qd p0 p1) (fun (c:(List Int))=>c) (p0.waiting).length 0 ([]:List Int)).bind fun b=>
 (qf (qe b) (fun (d:za)=>d) (b).length 0 p0).bind fun a=>
 (zS fu a.waiting b).bind fun e=>
 some (b,(za.mk a.Table a.Refs a.Clock a.hooks a.maps a.given a.progs e))
def zb9 (p0:zj) (p1:Int) (again:(Int×Int×Int)->Option Int) (a:Int×Int×Int):Option Int:=
 if decide (a.2.2<((p0.Steps).length:Int)) then
  (idx p0.Steps a.2.2).bind fun b=>
  if (b.Ki==3) then
   again (w64 (a.1+1),a.2.1,w64 (a.2.2+1))
  else
   if ((b.Worker==p1)&&(b.Ki==1)) then
    again (a.1,a.1,w64 (a.2.2+1))
   else
    if (b.Worker==p1) then
     again (a.1,0,w64 (a.2.2+1))
    else
     again (a.1,a.2.1,w64 (a.2.2+1))
 else
  some a.2.1
def jn (fu:Nat) (p0:zj) (p1:Int):Option (Int×Bool):=
 (loop (zb9 p0 p1) fu (1,0,0)).bind fun a=>
 some (a,decide (a>0))
def xu (fu:Nat) (p0:zj) (p1:Int) (again:Int->Option (Unit ⊕ Bool)) (a:Int):Option (Unit ⊕ Bool):=
 if decide (a<p0.Workers) then
  (jn fu p0 a).bind fun b=>
  if (b.2&&decide (b.1<p1)) then
   some (.inr false)
  else
   again (w64 (a+1))
 else
  some (.inl ())
def xi (fu:Nat) (p0:zj) (p1:Int):Option Bool:=
 (loop (xu fu p0 p1) fu 0).bind fun a=>match a with
  | .inl b=>
   some true
  | .inr r=>some r
def zao (fu:Nat) (p1:Int) (again:(zd×(List Int)×(List Int)×Int)->Option (zd×(List Int)×(List Int))) (a:zd×(List Int)×(List Int)×Int):Option (zd×(List Int)×(List Int)):=
 if decide (a.2.2.2<((a.1.Line).length:Int)) then
  (idx a.1.Line a.2.2.2).bind fun b=>
  (idx a.1.Progs (w64 (b-1))).bind fun c=>
  (xi fu a.1.C c.Epoch).bind fun d=>
  if (d&&decide (((a.2.1).length:Int)<p1)) then
   (room (a.2.1.length+([b]).length) 8).bind fun e=>
   again ((zd.mk a.1.Ms a.1.T a.1.C (a.1.Progs.set (Int.toNat (w64 (b-1))) (zm.mk c.M 2 c.Epoch)) a.1.Line),(a.2.1++ [b]),a.2.2.1,w64 (a.2.2.2+1))
  else
   (room (a.2.2.1.length+([b]).length) 8).bind fun f=>
   again (a.1,a.2.1,(a.2.2.1++ [b]),w64 (a.2.2.2+1))
 else
  some (a.1,a.2.1,a.2.2.1)
def qv (fu:Nat) (p0:zd) (p1:Int):Option ((List Int)×zd):=
 (loop (zao fu p1) fu (p0,([]:List Int),([]:List Int),0)).bind fun a=>
 some (a.2.1,(zd.mk a.1.Ms a.1.T a.1.C a.1.Progs a.2.2))
def zdA (p0:List Int) (p1:List Int) (a:Nat) (again:Unit->Option (Unit ⊕ Bool)) (d:Unit):Option (Unit ⊕ Bool):=
 (idx p0 (a:Int)).bind fun b=>
 (idx p1 (a:Int)).bind fun c=>
 if (b != c) then
  some (.inr false)
 else
  again ()
def xM (p0:List Int) (p1:List Int):Option Bool:=
 if (((p0).length:Int) != ((p1).length:Int)) then
  some false
 else
  (qf (zdA p0 p1) (fun (b:Unit)=>(.inl ())) (p0).length 0 ()).bind fun a=>match a with
   | .inl c=>
    some true
   | .inr r=>some r
def vf (p0:zt) (p1:Int):Option Bool:=
 some (decide (p1>=0)&&decide (p1<((p0.in_).length:Int)))
def zad (p0:zt) (p1:Int):Option (Int×Int×zt):=
 (vf p0 p1).bind fun a=>
 if (!a) then
  some (0,2,p0)
 else
  (idx p0.in_ p1).bind fun b=>
  if (b != 0) then
   some (0,42,p0)
  else
   some (p0.now,0,(zt.mk p0.now (p0.in_.set (Int.toNat p1) p0.now)))
def jX (fu:Nat) (p0:zj) (p1:Int):Option (Int×Int×zj):=
 if (decide (p1<0)||decide (p1>=p0.Workers)) then
  some (0,2,p0)
 else
  (jn fu p0 p1).bind fun a=>
  if a.2 then
   some (0,42,p0)
  else
   (room (p0.Steps.length+([(zx.mk 1 p1)]).length) 16).bind fun c=>
   (qZ fu (zj.mk p0.Workers (p0.Steps++ [(zx.mk 1 p1)]))).bind fun b=>
   some (b,0,(zj.mk p0.Workers (p0.Steps++ [(zx.mk 1 p1)])))
def zcZ (p0:zt) (p1:List Int) (c:Nat) (again:(Nat->Bool)->Option (Unit ⊕ (Int×zt))) (b:(Nat->Bool)):Option (Unit ⊕ (Int×zt)):=
 (idx p1 (c:Int)).bind fun a=>
 ((vf p0 a).bind fun d=>
 if (!d) then
  some true
 else
  (ain 4 a).bind fun e=>
  some (b e)).bind fun f=>
 if f then
  some (.inr (2,p0))
 else
  (ain 4 a).bind fun g=>
  again (zcg b g true)
def zc0 (p0:zt) (p1:List Int) (a:Nat) (again:Unit->Option (Unit ⊕ (Int×zt))) (d:Unit):Option (Unit ⊕ (Int×zt)):=
 (idx p1 (a:Int)).bind fun b=>
 (idx p0.in_ b).bind fun c=>
 if (c==0) then
  some (.inr (41,p0))
 else
  again ()
def zc1 (p1:List Int) (c:Nat) (again:zt->Option zt) (a:zt):Option zt:=
 (idx p1 (c:Int)).bind fun b=>
 (idx a.in_ b).bind fun d=>
 again (zt.mk a.now (a.in_.set (Int.toNat b) 0))
def zaf (p0:zt) (p1:List Int):Option (Int×zt):=
 (qf (zcZ p0 p1) (fun (e:(Nat->Bool))=>(.inl ())) (p1).length 0 (fun _=>false)).bind fun a=>match a with
  | .inl f=>
   (qf (zc0 p0 p1) (fun (g:Unit)=>(.inl ())) (p1).length 0 ()).bind fun b=>match b with
    | .inl h=>
     (qf (zc1 p1) (fun (c:zt)=>c) (p1).length 0 p0).bind fun d=>
     some (0,d)
    | .inr r=>some r
  | .inr r=>some r
def zdU (p0:zj) (p1:List Int) (a:Nat) (b:Nat) (again:Unit->Option (Unit ⊕ (Int×zj))) (e:Unit):Option (Unit ⊕ (Int×zj)):=
 (idx p1 (b:Int)).bind fun c=>
 (idx p1 (a:Int)).bind fun d=>
 if (c==d) then
  some (.inr (2,p0))
 else
  again ()
def zbp (p0:zj) (p1:List Int) (a:Nat) (again:Unit->Option (Unit ⊕ (Int×zj))) (e:Unit):Option (Unit ⊕ (Int×zj)):=
 ((idx p1 (a:Int)).bind fun b=>
 if decide (b<0) then
  some true
 else
  some (decide (b>=p0.Workers))).bind fun c=>
 if c then
  some (.inr (2,p0))
 else
  ((room a 1).bind fun f=>
  qf (zdU p0 p1 a) (fun (g:Unit)=>(.inl ())) a 0 ()).bind fun d=>match d with
   | .inl h=>
    again ()
   | .inr r=>some (.inr r)
def zbq (fu:Nat) (p0:zj) (p1:List Int) (a:Nat) (again:Unit->Option (Unit ⊕ (Int×zj))) (d:Unit):Option (Unit ⊕ (Int×zj)):=
 (idx p1 (a:Int)).bind fun b=>
 (jn fu p0 b).bind fun c=>
 if (!c.2) then
  some (.inr (41,p0))
 else
  again ()
def zbr (p1:List Int) (c:Nat) (again:zj->Option zj) (a:zj):Option zj:=
 (idx p1 (c:Int)).bind fun b=>
 (room (a.Steps.length+([(zx.mk 2 b)]).length) 16).bind fun d=>
 again (zj.mk a.Workers (a.Steps++ [(zx.mk 2 b)]))
def jY (fu:Nat) (p0:zj) (p1:List Int):Option (Int×zj):=
 (qf (zbp p0 p1) (fun (e:Unit)=>(.inl ())) (p1).length 0 ()).bind fun a=>match a with
  | .inl f=>
   (qf (zbq fu p0 p1) (fun (g:Unit)=>(.inl ())) (p1).length 0 ()).bind fun b=>match b with
    | .inl h=>
     (qf (zbr p1) (fun (c:zj)=>c) (p1).length 0 p0).bind fun d=>
     some (0,d)
    | .inr r=>some r
  | .inr r=>some r
def xT (again:((List Int)×Int)->Option Unit) (a:(List Int)×Int):Option Unit:=
 if decide (a.2<((a.1).length:Int)) then
  (idx a.1 a.2).bind fun b=>
  again ((a.1.set (Int.toNat a.2) 0),w64 (a.2+1))
 else
  some ()
def zag (fu:Nat) (p0:za) (p1:zd) (p2:qD):Option (Bool×za×zd):=
 if (p2.Ki==0) then
  (room (([]:List Int).length+p2.Bytes.length) 1).bind fun K=>
  (zM fu p0 (([]:List Int)++p2.Bytes)).bind fun a=>
  (qH fu p1 p2.Bytes).bind fun b=>
  (loop xT fu ((([]:List Int)++p2.Bytes),0)).bind fun L=>
  some (((sEq (strOfNums (([]:List Int)++p2.Bytes)) (strOfNums p2.Bytes)&&(a.1==b.1))&&(a.2.1==b.2.1)),a.2.2,b.2.2)
 else
  if (p2.Ki==1) then
   (zG p0 p2.A p2.B).bind fun c=>
   (zR fu p1 p2.A p2.B false).bind fun d=>
   some (((c.1==d.1)&&(c.2.1==d.2.1)),c.2.2,d.2.2)
  else
   if (p2.Ki==2) then
    (qi p0 p2.A p2.B).bind fun e=>
    (zR fu p1 p2.A p2.B true).bind fun f=>
    some (((e.1==f.1)&&(e.2.1==f.2.1)),e.2.2,f.2.2)
   else
    if (p2.Ki==3) then
     ((jV p0.Table ([p2.A])).bind fun v=>
     (qt fu p1.T ([p2.A])).bind fun z=>
     some ((v.1==z.1),(za.mk v.2 p0.Refs p0.Clock p0.hooks p0.maps p0.given p0.progs p0.waiting),(zd.mk p1.Ms z.2 p1.C p1.Progs p1.Line))).bind fun g=>
     some (g.1,g.2.1,g.2.2)
    else
     if (p2.Ki==4) then
      (jM p0 p2.B).bind fun h=>
      (ja fu p1 p2.B).bind fun j=>
      some (((h.1==j.1)&&(h.2.1==j.2.1)),h.2.2,j.2.2)
     else
      if (p2.Ki==5) then
       (zL fu p0 p2.A).bind fun D=>
       (qv fu p1 p2.A).bind fun E=>
       (xM D.1 E.1).bind fun J=>
       some (J,D.2,E.2)
      else
       if (p2.Ki==6) then
        (zad p0.Clock p2.A).bind fun l=>
        (jX fu p1.C p2.A).bind fun n=>
        some (((l.1==n.1)&&(l.2.1==n.2.1)),(za.mk p0.Table p0.Refs l.2.2 p0.hooks p0.maps p0.given p0.progs p0.waiting),(zd.mk p1.Ms p1.T n.2.2 p1.Progs p1.Line))
       else
        if (p2.Ki==7) then
         ((zaf p0.Clock ([p2.A])).bind fun F=>
         (jY fu p1.C ([p2.A])).bind fun G=>
         some ((F.1==G.1),(za.mk p0.Table p0.Refs F.2 p0.hooks p0.maps p0.given p0.progs p0.waiting),(zd.mk p1.Ms p1.T G.2 p1.Progs p1.Line))).bind fun q=>
         some (q.1,q.2.1,q.2.2)
        else
         (xp p0.Clock).bind fun H=>
         (qI fu p1.C).bind fun I=>
         some ((H.1==I.1),(za.mk p0.Table p0.Refs H.2 p0.hooks p0.maps p0.given p0.progs p0.waiting),(zd.mk p1.Ms p1.T I.2 p1.Progs p1.Line))
def qJ (p0:za) (e:Int×zr) (a:(List Int)):Option ((List Int) ⊕ (List Int)):=
 let b:=e.1
 let c:=e.2
 if (c.retiring==0) then
  (room (a.length+([b]).length) 8).bind fun d=>
  some (.inl (a++ [b]))
 else
  some (.inl a)
def zX (p0:za) (a:(List Int)):Option (List Int):=
 (qA a).bind fun b=>
 some b
def qP (p0:za):Option (List Int):=
 zd6 (qJ p0) (zX p0) p0.progs ([]:List Int)
def zaZ (p0:zd) (again:((List Int)×Int)->Option (List Int)) (a:(List Int)×Int):Option (List Int):=
 if decide (a.2<((p0.Progs).length:Int)) then
  (idx p0.Progs a.2).bind fun b=>
  if (b.State==0) then
   (room (a.1.length+([w64 (a.2+1)]).length) 8).bind fun c=>
   again ((a.1++ [w64 (a.2+1)]),w64 (a.2+1))
  else
   again (a.1,w64 (a.2+1))
 else
  some a.1
def jw (fu:Nat) (p0:zd):Option (List Int):=
 (loop (zaZ p0) fu (([]:List Int),0)).bind fun a=>
 some a
def jh (p0:za):Option (List Int):=
 (jl p0.waiting).bind fun a=>
 some a
def zca (p0:zt):Option Int:=
 some p0.now
def xN (p0:zd) (p1:Int) (c:Int×Int) (again:(Int×Int)->Option Int) (a:Int×Int):Option Int:=
 (idx p0.Progs c.2).bind fun b=>
 if decide (a.2<((b.M.Ms).length:Int)) then
  (if decide (b.State<2) then
   (idx b.M.Ms a.2).bind fun d=>
   some (d==p1)
  else
   some false).bind fun e=>
  if e then
   again (w64 (a.1+1),w64 (a.2+1))
  else
   again (a.1,w64 (a.2+1))
 else
  some a.1
def zaN (fu:Nat) (p0:zd) (p1:Int) (again:(Int×Int)->Option Int) (a:Int×Int):Option Int:=
 if decide (a.2<((p0.Progs).length:Int)) then
  (loop (xN p0 p1 a) fu (a.1,0)).bind fun b=>
  again (b,w64 (a.2+1))
 else
  some a.1
def jk (fu:Nat) (p0:zd) (p1:Int):Option Int:=
 (loop (zaN fu p0 p1) fu (0,0)).bind fun a=>
 some a
def vn (p0:zo) (p1:Int):Option (Int×Int×Bool):=
 ((zY p0 p1).bind fun b=>
 if (!b) then
  some true
 else
  (qr p0 p1).bind fun c=>
  some (!c)).bind fun d=>
 if d then
  some (0,0,false)
 else
  (idx p0.hooks p1).bind fun a=>
  some (a.version,a.prog,true)
def zU (p0:List ze):Option (List ze):=
 (room (([]:List ze).length+p0.length) 40).bind fun a=>
 some (([]:List ze)++p0)
def jN (p0:za) (p1:Int):Option (zg×Bool):=
 if (!(qO p0.progs p1).isSome) then
  some ((zg.mk ([]:List Int) ([]:List ze)),false)
 else
  (qO p0.progs p1).bind fun a=>
  (jl a.mo.Ms).bind fun b=>
  (zU a.mo.Co).bind fun c=>
  some ((zg.mk b c),true)
def zdB (p0:zg) (p1:zg) (a:Nat) (again:Unit->Option (Unit ⊕ Bool)) (d:Unit):Option (Unit ⊕ Bool):=
 (idx p0.Ms (a:Int)).bind fun b=>
 (idx p1.Ms (a:Int)).bind fun c=>
 if (b != c) then
  some (.inr false)
 else
  again ()
def zdC (p0:zg) (p1:zg) (c:Nat) (again:Unit->Option (Unit ⊕ Bool)) (d:Unit):Option (Unit ⊕ Bool):=
 (idx p0.Co (c:Int)).bind fun a=>
 (idx p1.Co (c:Int)).bind fun b=>
 if (!((a.Op==b.Op)&&((a.D==b.D)&&((a.A==b.A)&&((a.B==b.B)&&((a.Imm==b.Imm)&&true)))))) then
  some (.inr false)
 else
  again ()
def xO (p0:zg) (p1:zg):Option Bool:=
 if ((((p0.Ms).length:Int) != ((p1.Ms).length:Int))||(((p0.Co).length:Int) != ((p1.Co).length:Int))) then
  some false
 else
  (qf (zdB p0 p1) (fun (c:Unit)=>(.inl ())) (p0.Ms).length 0 ()).bind fun a=>match a with
   | .inl d=>
    (qf (zdC p0 p1) (fun (e:Unit)=>(.inl ())) (p0.Co).length 0 ()).bind fun b=>match b with
     | .inl f=>
      some true
     | .inr r=>some r
   | .inr r=>some r
def zc2 (fu:Nat) (p0:za) (p1:zd) (again:Int->Option (Unit ⊕ Bool)) (a:Int):Option (Unit ⊕ Bool):=
 if decide (a<p1.Ms) then
  (vi p0.Refs a).bind fun b=>
  ((jk fu p1 a).bind fun c=>
  if (b.1 != c) then
   some true
  else
   some (b.2 != 0)).bind fun d=>
  if d then
   some (.inr false)
  else
   again (w64 (a+1))
 else
  some (.inl ())
def zc3 (fu:Nat) (p0:za) (p1:zd) (again:Int->Option (Unit ⊕ Bool)) (a:Int):Option (Unit ⊕ Bool):=
 if decide (a<p1.T.Hooks) then
  (vn p0.Table a).bind fun b=>
  (zW fu p1.T a).bind fun c=>
  if (((b.1 != c.1)||(b.2.1 != c.2.1))||(!(b.2.2==c.2.2))) then
   some (.inr false)
  else
   again (w64 (a+1))
 else
  some (.inl ())
def zc4 (p0:za) (p1:zd) (again:Int->Option (Unit ⊕ Bool)) (a:Int):Option (Unit ⊕ Bool):=
 if (decide (a<=(w64 (((p1.Progs).length:Int)+1)))&&decide (a<12)) then
  (jN p0 a).bind fun b=>
  (if decide (a>=1) then
   if decide (a<=((p1.Progs).length:Int)) then
    (idx p1.Progs (w64 (a-1))).bind fun c=>
    some (decide (c.State<2))
   else
    some false
  else
   some false).bind fun d=>
  (if (!(b.2==d)) then
   some true
  else
   if b.2 then
    (idx p1.Progs (w64 (a-1))).bind fun e=>
    (xO b.1 e.M).bind fun f=>
    if (!f) then
     some true
    else
     if (!b.2) then
      (xO b.1 (zg.mk ([]:List Int) ([]:List ze))).bind fun g=>
      some (!g)
     else
      some false
   else
    if (!b.2) then
     (xO b.1 (zg.mk ([]:List Int) ([]:List ze))).bind fun h=>
     some (!h)
    else
     some false).bind fun j=>
  if j then
   some (.inr false)
  else
   again (w64 (a+1))
 else
  some (.inl ())
def zah (fu:Nat) (p0:za) (p1:zd):Option Bool:=
 ((qP p0).bind fun a=>
 (jw fu p1).bind fun b=>
 (xM a b).bind fun c=>
 if (!c) then
  some true
 else
  (jh p0).bind fun d=>
  (xM d p1.Line).bind fun e=>
  if (!e) then
   some true
  else
   (xl p0.Table.Versions).bind fun f=>
   if (f != p1.T.Last) then
    some true
   else
    (zca p0.Clock).bind fun g=>
    (qZ fu p1.C).bind fun h=>
    some (g != h)).bind fun j=>
 if j then
  some false
 else
  (loop (zc2 fu p0 p1) fu 0).bind fun l=>match l with
   | .inl v=>
    (loop (zc3 fu p0 p1) fu 0).bind fun n=>match n with
     | .inl z=>
      (loop (zc4 p0 p1) fu 0).bind fun q=>match q with
       | .inl A=>
        some true
       | .inr r=>some r
     | .inr r=>some r
   | .inr r=>some r
def za0 (fu:Nat) (p2:List qD) (again:(za×zd×Int)->Option (Unit ⊕ Bool)) (b:za×zd×Int):Option (Unit ⊕ Bool):=
 if (decide (b.2.2<((p2).length:Int))&&decide (b.2.2<120)) then
  ((idx p2 b.2.2).bind fun d=>
  (zag fu b.1 b.2.1 d).bind fun a=>
  if (!a.1) then
   some (a.2.1,a.2.2,true)
  else
   (zah fu a.2.1 a.2.2).bind fun e=>
   some (a.2.1,a.2.2,(!e))).bind fun c=>
  if c.2.2 then
   some (.inr false)
  else
   again (c.1,c.2.1,w64 (b.2.2+1))
 else
  some (.inl ())
def zc9 (p2:List qD) (again:Unit->Option (Unit ⊕ Bool)) (a:Unit):Option (Unit ⊕ Bool):=
 if (decide (0<((p2).length:Int))||false) then
  (idx p2 0).bind fun b=>
  none
 else
  some (.inl ())
def qK (fu:Nat) (p0:Int) (p1:Int) (p2:List qD):Option Bool:=
 (jI fu).bind fun f=>
 if (!f) then
  some false
 else
  (qy p0 p1 2).bind fun a=>
  zdV a.1
   ((jU p0 p1 2).bind fun b=>
   zdV b.1
    (if (b.2 != 0) then
     some (a.2==b.2)
    else
     some false)
    (fun n=>
    if (b.2 != 0) then
     some (a.2==b.2)
    else
     some false))
   (fun g=>
   (jU p0 p1 2).bind fun c=>
   zdV c.1
    (if (c.2 != 0) then
     some false
    else
     if (a.2 != 0) then
      some false
     else
      (loop (zc9 p2) fu ()).bind fun h=>match h with
       | .inl q=>
        (qy p0 p1 0).bind fun d=>
        zdV d.1
         (some (d.2==2))
         (fun v=>
         some false)
       | .inr r=>some r)
    (fun j=>
    if (c.2 != 0) then
     some false
    else
     if (a.2 != 0) then
      some false
     else
      (loop (za0 fu p2) fu (g,j,0)).bind fun l=>match l with
       | .inl z=>
        (qy p0 p1 0).bind fun e=>
        zdV e.1
         (some (e.2==2))
         (fun A=>
         some false)
       | .inr r=>some r))
end Go.Proofs.YtbmknhpfkpmigaaGreatDoor
