/- Texts F1 of this proof. -/
import Derived.Test.YtbmknhpfkpmigaaGreatDoorEng4
set_option linter.unusedSimpArgs false
namespace Go.Proofs.YtbmknhpfkpmigaaGreatDoor
open Go.Sx
set_option linter.unusedVariables false
structure qb where
 wo : Nat -> Int
structure zY where
 cn : Nat -> Int
structure zk where
 Wo : qb
 Ct : zY
def zK (x : zk) : List Value := [.int .u64 (x.Wo.wo 0), .int .u64 (x.Wo.wo 1), .int .u64 (x.Wo.wo 2), .int .u64 (x.Wo.wo 3), .int .u64 (x.Wo.wo 4), .int .u64 (x.Wo.wo 5), .int .u64 (x.Wo.wo 6), .int .u64 (x.Wo.wo 7), .int .u64 (x.Wo.wo 8), .int .u64 (x.Wo.wo 9), .int .u64 (x.Wo.wo 10), .int .u64 (x.Wo.wo 11), .int .u64 (x.Wo.wo 12), .int .u64 (x.Wo.wo 13), .int .u64 (x.Wo.wo 14), .int .u64 (x.Wo.wo 15), .int .u64 (x.Ct.cn 0), .int .u64 (x.Ct.cn 1), .int .u64 (x.Ct.cn 2), .int .u64 (x.Ct.cn 3), .int .u64 (x.Ct.cn 4), .int .u64 (x.Ct.cn 5), .int .u64 (x.Ct.cn 6), .int .u64 (x.Ct.cn 7), .int .u64 (x.Ct.cn 8), .int .u64 (x.Ct.cn 9), .int .u64 (x.Ct.cn 10), .int .u64 (x.Ct.cn 11), .int .u64 (x.Ct.cn 12), .int .u64 (x.Ct.cn 13), .int .u64 (x.Ct.cn 14), .int .u64 (x.Ct.cn 15)]
def zoY : Rp zk := ziZ (zK) 32 (fun _ => rfl)
def zdx : Rp zk := zbl 111 zoY
structure zu where
 Runs : Int
 Missed : Int
 Steps : Int
 Calls : Int
 Sum : Int
def vX (x : zu) : List Value := [.int .u64 x.Runs, .int .u64 x.Missed, .int .u64 x.Steps, .int .u64 x.Calls, .int .u64 x.Sum]
structure zt where
 hooks : Nat -> zu
def zaz (x : zt) : List Value := [.int .u64 (x.hooks 0).Runs, .int .u64 (x.hooks 0).Missed, .int .u64 (x.hooks 0).Steps, .int .u64 (x.hooks 0).Calls, .int .u64 (x.hooks 0).Sum, .int .u64 (x.hooks 1).Runs, .int .u64 (x.hooks 1).Missed, .int .u64 (x.hooks 1).Steps, .int .u64 (x.hooks 1).Calls, .int .u64 (x.hooks 1).Sum, .int .u64 (x.hooks 2).Runs, .int .u64 (x.hooks 2).Missed, .int .u64 (x.hooks 2).Steps, .int .u64 (x.hooks 2).Calls, .int .u64 (x.hooks 2).Sum, .int .u64 (x.hooks 3).Runs, .int .u64 (x.hooks 3).Missed, .int .u64 (x.hooks 3).Steps, .int .u64 (x.hooks 3).Calls, .int .u64 (x.hooks 3).Sum]
def zoZ : Rp zt := ziZ (zaz) 20 (fun _ => rfl)
def zdT : Rp zt := zbl 176 zoZ
structure qw where
 A : Int
 B : Int
def zfn (x : qw) : List Value := [.int .u64 x.A, .int .u64 x.B]
structure zc where
 Op : Int
 D : Int
 A : Int
 B : Int
 Imm : Int
def zo (x : zc) : List Value := [.int .i64 x.Op, .int .i64 x.D, .int .i64 x.A, .int .i64 x.B, .int .i64 x.Imm]
structure zj where
 Ms : List Int
 Co : List zc
structure zh where
 Ev : qw
 mo : zj
 rg : Nat -> Int
 tu : Nat -> Int
 at_ : Int
 sp : Int
 sa : Int
def zgf : Rp (List Int) := zik 3 (zw .i64) 1 (fun _ => rfl) (by decide)
def znY : Rp (List zc) := zik 65 (zo) 5 (fun _ => rfl) (by decide)
def vi (fx : Value) : Rp zh := jC (fun (x : zh) vs => [.int .u64 x.Ev.A, .int .u64 x.Ev.B, vs.getD 0 undef, vs.getD 1 undef, fx, .int .u64 (x.rg 0), .int .u64 (x.rg 1), .int .u64 (x.rg 2), .int .u64 (x.rg 3), .int .u64 (x.rg 4), .int .u64 (x.rg 5), .int .u64 (x.rg 6), .int .u64 (x.rg 7), .int .i64 (x.tu 0), .int .i64 (x.tu 1), .int .i64 (x.tu 2), .int .i64 (x.tu 3), .int .i64 (x.tu 4), .int .i64 (x.tu 5), .int .i64 (x.tu 6), .int .i64 (x.tu 7), .int .i64 (x.tu 8), .int .i64 (x.tu 9), .int .i64 (x.tu 10), .int .i64 (x.tu 11), .int .i64 (x.tu 12), .int .i64 (x.tu 13), .int .i64 (x.tu 14), .int .i64 (x.tu 15), .int .i64 (x.tu 16), .int .i64 (x.tu 17), .int .i64 (x.tu 18), .int .i64 (x.tu 19), .int .i64 (x.tu 20), .int .i64 (x.tu 21), .int .i64 (x.tu 22), .int .i64 (x.tu 23), .int .i64 (x.tu 24), .int .i64 (x.tu 25), .int .i64 (x.tu 26), .int .i64 (x.tu 27), .int .i64 (x.tu 28), .int .i64 (x.tu 29), .int .i64 (x.tu 30), .int .i64 (x.tu 31), .int .i64 (x.tu 32), .int .i64 (x.tu 33), .int .i64 (x.tu 34), .int .i64 (x.tu 35), .int .i64 (x.tu 36), .int .i64 (x.tu 37), .int .i64 (x.tu 38), .int .i64 (x.tu 39), .int .i64 (x.tu 40), .int .i64 (x.tu 41), .int .i64 (x.tu 42), .int .i64 (x.tu 43), .int .i64 (x.tu 44), .int .i64 (x.tu 45), .int .i64 (x.tu 46), .int .i64 (x.tu 47), .int .i64 (x.tu 48), .int .i64 (x.tu 49), .int .i64 (x.tu 50), .int .i64 (x.tu 51), .int .i64 (x.tu 52), .int .i64 (x.tu 53), .int .i64 (x.tu 54), .int .i64 (x.tu 55), .int .i64 (x.tu 56), .int .i64 (x.tu 57), .int .i64 (x.tu 58), .int .i64 (x.tu 59), .int .i64 (x.tu 60), .int .i64 (x.tu 61), .int .i64 (x.tu 62), .int .i64 (x.tu 63), .int .i64 x.at_, .int .i64 x.sp, .int .i64 x.sa]) 80 (fun _ _ => rfl) (fun x => (x.mo.Ms, x.mo.Co)) (xj zgf znY)
structure jg where
 N : Int
 Ev : qw
def zeX (x : jg) : List Value := [.int .i64 x.N, .int .u64 x.Ev.A, .int .u64 x.Ev.B]
structure xF where
 hook : Int
 event : jg
 version : Int
 prog : Int
 calls : Int
 machine : Option zh
structure zg where
 Scratch : zk
 Stats : zt
 mode_ : Int
 job : xF
def zbm : Rp zg := jC (fun (x : zg) vs => [vs.getD 0 undef, vs.getD 1 undef, .int .i64 x.mode_, .int .i64 x.job.hook, .int .i64 x.job.event.N, .int .u64 x.job.event.Ev.A, .int .u64 x.job.event.Ev.B, .int .i64 x.job.version, .int .i64 x.job.prog, .int .u64 x.job.calls, vs.getD 2 undef]) 11 (fun _ _ => rfl) (fun x => (x.Scratch, x.Stats, x.job.machine)) (zmF zdx zdT (fun fx => (zlc 226 (vi fx))) 1 (fun _ => rfl))
def qF : Rp zg := zbl 84 zbm
structure qc where
 name : ByteArray
 fields : ByteArray
def zJ (x : qc) : List Value := [.string x.name, .string x.fields]
def zaf : List qc := [(qc.mk (⟨[115, 101, 116].toArray⟩) (⟨[100, 115].toArray⟩)),
 (qc.mk (⟨[97, 100, 100].toArray⟩) (⟨[100, 97, 115].toArray⟩)),
 (qc.mk (⟨[115, 117, 98].toArray⟩) (⟨[100, 97, 115].toArray⟩)),
 (qc.mk (⟨[109, 117, 108].toArray⟩) (⟨[100, 97, 115].toArray⟩)),
 (qc.mk (⟨[100, 105, 118].toArray⟩) (⟨[100, 97, 115].toArray⟩)),
 (qc.mk (⟨[114, 101, 109].toArray⟩) (⟨[100, 97, 115].toArray⟩)),
 (qc.mk (⟨[97, 110, 100].toArray⟩) (⟨[100, 97, 115].toArray⟩)),
 (qc.mk (⟨[111, 114].toArray⟩) (⟨[100, 97, 115].toArray⟩)),
 (qc.mk (⟨[120, 111, 114].toArray⟩) (⟨[100, 97, 115].toArray⟩)),
 (qc.mk (⟨[115, 104, 108].toArray⟩) (⟨[100, 97, 115].toArray⟩)),
 (qc.mk (⟨[115, 104, 114].toArray⟩) (⟨[100, 97, 115].toArray⟩)),
 (qc.mk (⟨[108, 111, 97, 100].toArray⟩) (⟨[100, 115].toArray⟩)),
 (qc.mk (⟨[115, 116, 111, 114, 101].toArray⟩) (⟨[97, 115].toArray⟩)),
 (qc.mk (⟨[102, 105, 101, 108, 100].toArray⟩) (⟨[100, 102].toArray⟩)),
 (qc.mk (⟨[109, 97, 112].toArray⟩) (⟨[100, 109].toArray⟩)),
 (qc.mk (⟨[106, 117, 109, 112].toArray⟩) (⟨[106].toArray⟩)),
 (qc.mk (⟨[106, 101, 113].toArray⟩) (⟨[106, 97, 115].toArray⟩)),
 (qc.mk (⟨[106, 110, 101].toArray⟩) (⟨[106, 97, 115].toArray⟩)),
 (qc.mk (⟨[106, 108, 116].toArray⟩) (⟨[106, 97, 115].toArray⟩)),
 (qc.mk (⟨[106, 103, 101].toArray⟩) (⟨[106, 97, 115].toArray⟩)),
 (qc.mk (⟨[108, 111, 111, 112].toArray⟩) (⟨[98, 97, 110].toArray⟩)),
 (qc.mk (⟨[99, 97, 108, 108].toArray⟩) (⟨[104].toArray⟩)),
 (qc.mk (⟨[101, 120, 105, 116].toArray⟩) (⟨[97].toArray⟩))]
structure zP where
 Head : Int
 At : Int
 Bound : Int
def jK (x : zP) : List Value := [.int .i64 x.Head, .int .i64 x.At, .int .i64 x.Bound]
structure zb where
 Lo : Int
 Hi : Int
def xx (x : zb) : List Value := [.int .u64 x.Lo, .int .u64 x.Hi]
structure za where
 Ki : Int
 Sp : zb
 Map : Int
def zl (x : za) : List Value := [.int .i64 x.Ki, .int .u64 x.Sp.Lo, .int .u64 x.Sp.Hi, .int .i64 x.Map]
structure zf where
 Module : zj
 ca : List (Nat -> za)
 any : List Bool
 loops : List zP
def zo0 : Rp (List (Nat -> za)) := zik 297 (zby (zl) 8) 32 (fun _ => rfl) (by decide)
def zo1 : Rp (List Bool) := zik 4 (zc6) 1 (fun _ => rfl) (by decide)
def zo2 : Rp (List zP) := zik 334 (jK) 3 (fun _ => rfl) (by decide)
def za8 (wb : World) (Sb : List Nat) : Rp zf := jC (fun (x : zf) vs => [vs.getD 0 undef, vs.getD 1 undef, vs.getD 2 undef, vs.getD 3 undef, vs.getD 4 undef]) 5 (fun _ _ => rfl) (fun x => (x.Module.Ms, (x.Module.Co, (x.ca, (x.any, x.loops))))) (xj (zmK wb Sb (zw .i64) 1) (xj (zmK wb Sb (zo) 5) (xj zo0 (xj zo1 zo2))))
def zaV (wb : World) (Sb : List Nat) : Rp zf := zbl 287 (za8 wb Sb)
structure vY where
 name : ByteArray
 wants : ByteArray
 most : Int
 asks : Int
 isAsked : Bool
def zM (x : vY) : List Value := [.string x.name, .string x.wants, .int .u64 x.most, .int .i64 x.asks, .bool x.isAsked]
def zaq : List vY := [(vY.mk (⟨[103, 101, 116].toArray⟩) (⟨[104, 110].toArray⟩) 18446744073709551615 0 true),
 (vY.mk (⟨[104, 97, 115].toArray⟩) (⟨[104, 110].toArray⟩) 1 1 true),
 (vY.mk (⟨[112, 117, 116].toArray⟩) (⟨[104, 110, 110].toArray⟩) 1 2 true),
 (vY.mk (⟨[100, 101, 108].toArray⟩) (⟨[104, 110].toArray⟩) 1 3 true),
 (vY.mk (⟨[97, 100, 100].toArray⟩) (⟨[104, 110, 110].toArray⟩) 18446744073709551615 4 true),
 (vY.mk (⟨[109, 97, 114, 107].toArray⟩) (⟨[115].toArray⟩) 18446744073709551615 0 false),
 (vY.mk (⟨[110, 111, 116, 101].toArray⟩) (⟨[110].toArray⟩) 0 0 false)]
def zd9 (fx : Value) : Rp zh := zbl 226 (vi fx)
structure qr where
 Map : Int
 Op : Int
 Key : Int
 Val : Int
structure zA where
 Ki : Int
 Pc : Int
 It : qr
 Val : Int
structure zp where
 Ki : Int
 At : Int
 N : Int
def xX (x : zp) : List Value := [.int .i64 x.Ki, .int .i64 x.At, .int .u64 x.N]
structure zi where
 Ak : List zp
def zpX : Rp (List zp) := zik 183 (xX) 3 (fun _ => rfl) (by decide)
def zfo : Rp zi := jC (fun (x : zi) vs => [vs.getD 0 undef]) 1 (fun _ _ => rfl) (fun x => x.Ak) (zpX)
structure zm where
 Hook : Int
 Missed : Bool
 Steps : Int
 Calls : Int
 Result : Int
def zB (x : zm) : List Value := [.int .i64 x.Hook, .bool x.Missed, .int .u64 x.Steps, .int .u64 x.Calls, .int .u64 x.Result]
structure ze where
 M : zj
 E : qw
 Rg : List Int
 Tu : List Int
 At : Int
 Steps : Int
 Mode : Int
def zo3 : Rp (List Int) := zik 29 (zw .u64) 1 (fun _ => rfl) (by decide)
def zo4 : Rp (List Int) := zik 2 (zw .i64) 1 (fun _ => rfl) (by decide)
def xY (wb : World) (Sb : List Nat) (fx : Value) : Rp ze := jC (fun (x : ze) vs => [vs.getD 0 undef, vs.getD 1 undef, .int .u64 x.E.A, .int .u64 x.E.B, fx, vs.getD 2 undef, vs.getD 3 undef, .int .i64 x.At, .int .i64 x.Steps, .int .i64 x.Mode]) 10 (fun _ _ => rfl) (fun x => (x.M.Ms, (x.M.Co, (x.Rg, x.Tu)))) (xj (zmK wb Sb (zw .i64) 1) (xj (zmK wb Sb (zo) 5) (xj zo3 zo4)))
structure zd where
 Book : zi
 Told : List zm
 Mode : Int
 Hook : Int
 Ev : jg
 Version : Int
 Prog : Int
 Calls : Int
 M : Option ze
def zag : Rp zi := zbl 90 zfo
def zpY : Rp (List zm) := zik 185 (zB) 5 (fun _ => rfl) (by decide)
def zbj (wb : World) (Sb : List Nat) : Rp zd := jC (fun (x : zd) vs => [vs.getD 0 undef, vs.getD 1 undef, .int .i64 x.Mode, .int .i64 x.Hook, .int .i64 x.Ev.N, .int .u64 x.Ev.Ev.A, .int .u64 x.Ev.Ev.B, .int .i64 x.Version, .int .i64 x.Prog, .int .i64 x.Calls, vs.getD 2 undef]) 11 (fun _ _ => rfl) (fun x => (x.Book, x.Told, x.M)) (zmF zag zpY (fun fx => (zlc 233 (xY wb Sb fx))) 1 (fun _ => rfl))
def xi (wb : World) (Sb : List Nat) : Rp zd := zbl 94 (zbj wb Sb)
def vI : Rp (List za) := zik 295 (zl) 4 (fun _ => rfl) (by decide)
def zcE (wb : World) (Sb : List Nat) (fx : Value) : Rp ze := zbl 233 (xY wb Sb fx)
structure xz where
 E : Int
 Found : Bool
 Val : Int
 Out : Bool
 OutKey : Int
 OutVal : Int
def zgE (x : xz) : List Value := [.int .i64 x.E, .bool x.Found, .int .u64 x.Val, .bool x.Out, .int .u64 x.OutKey, .int .u64 x.OutVal]
structure zR where
 Ki : Int
 Hook : Int
 Version : Int
 Prog : Int
 Q : jg
 M : zj
 Res : xz
def zkv : Rp zR := jC (fun (x : zR) vs => [.int .i64 x.Ki, .int .i64 x.Hook, .int .i64 x.Version, .int .i64 x.Prog, .int .i64 x.Q.N, .int .u64 x.Q.Ev.A, .int .u64 x.Q.Ev.B, vs.getD 0 undef, vs.getD 1 undef, .int .i64 x.Res.E, .bool x.Res.Found, .int .u64 x.Res.Val, .bool x.Res.Out, .int .u64 x.Res.OutKey, .int .u64 x.Res.OutVal]) 15 (fun _ _ => rfl) (fun x => (x.M.Ms, x.M.Co)) (xj zgf znY)
def zbn (p0 : List Int) (p1 : Int) (a : Nat) (again : Unit -> Option (Unit ⊕ Int)) (c : Unit) : Option (Unit ⊕ Int) :=
 (idx p0 (a : Int)).bind fun b =>
 if (p1 == b) then
  some (.inr (a : Int))
 else
  again ()
def vG (p0 : List Int) (p1 : Int) : Option Int :=
 (qQ (zbn p0 p1) (fun (b : Unit) => (.inl ())) (p0).length 0 ()).bind fun a => match a with
  | .inl c =>
   some (-1)
  | .inr r => some r
def jh (p0 : List Int) (p1 : Int) : Option Bool :=
 (vG p0 p1).bind fun a =>
 some (decide (a >= 0))
def zaP (p0 : Int) (p1 : List Int) : Option Bool :=
 (jh p1 p0).bind fun a =>
 some a
def ze4  : Option zk :=
 some (zk.mk (qb.mk (fun _ => 0)) (zY.mk (fun _ => 0)))
def zgF  : Option zt :=
 some (zt.mk (fun _ => (zu.mk 0 0 0 0 0)))
def zbD  : Option zg :=
 ze4.bind fun a =>
 zgF.bind fun b =>
 some (zg.mk a b 0 (xF.mk 0 (jg.mk 0 (qw.mk 0 0)) 0 0 0 none))
def jY (p0 : zg) (p1 : Int) (p2 : jg) : Option (Int × zg) :=
 if (decide (p1 < 0) || decide (p1 >= 4)) then
  some (2, p0)
 else
  if (p0.mode_ != 0) then
   some (42, p0)
  else
   some (0, (zg.mk p0.Scratch p0.Stats 1 (xF.mk p1 p2 0 0 0 none)))
def jZ (p0 : zg) : Option Int :=
 some p0.mode_
def zfp (p0 : List Int) (b : Nat) (again : Unit -> Option (Unit ⊕ Bool)) (f : Unit) : Option (Unit ⊕ Bool) :=
 (idx p0 (b : Int)).bind fun a =>
 (if decide (a < 0) then
  some true
 else
  if decide (a >= 4) then
   some true
  else
   (cut p0 0 (b : Int)).bind fun c =>
   (jh c a).bind fun d =>
   some d).bind fun e =>
 if e then
  some (.inr false)
 else
  again ()
def zcd (p0 : List Int) : Option Bool :=
 (qQ (zfp p0) (fun (b : Unit) => (.inl ())) (p0).length 0 ()).bind fun a => match a with
  | .inl c =>
   some (decide (((p0).length : Int) <= 4))
  | .inr r => some r
def zbz (p0 : Int) : Option (qc × Bool) :=
 if (decide (p0 < 0) || decide (p0 >= 23)) then
  some ((qc.mk ByteArray.empty ByteArray.empty), false)
 else
  (idx zaf p0).bind fun a =>
  some (a, true)
def za9 (p0 : Int) : Option Bool :=
 some (decide (p0 >= 0) && decide (p0 < 8))
def zaK (p0 : Int) (p1 : Int) (p2 : Int) : Option Bool :=
 some (decide (p0 >= p1) && decide (p0 <= p2))
def zcO (p0 : zc) (c : qc × Bool) (d : Nat) (again : (Bool × zc) -> Option (Bool × zc)) (a : Bool × zc) : Option (Bool × zc) :=
 (zhG c.1.fields (d : Int)).bind fun b =>
 if (b == 100) then
  if a.1 then
   (za9 p0.D).bind fun e =>
   again (e, (zc.mk a.2.Op 0 a.2.A a.2.B a.2.Imm))
  else
   again (false, (zc.mk a.2.Op 0 a.2.A a.2.B a.2.Imm))
 else
  if (b == 97) then
   if a.1 then
    (za9 p0.A).bind fun f =>
    again (f, (zc.mk a.2.Op a.2.D 0 a.2.B a.2.Imm))
   else
    again (false, (zc.mk a.2.Op a.2.D 0 a.2.B a.2.Imm))
  else
   if (b == 115) then
    if (p0.B == 8) then
     again (a.1, (zc.mk a.2.Op a.2.D a.2.A 0 0))
    else
     if a.1 then
      (za9 p0.B).bind fun g =>
      again (g, (zc.mk a.2.Op a.2.D a.2.A 0 a.2.Imm))
     else
      again (false, (zc.mk a.2.Op a.2.D a.2.A 0 a.2.Imm))
   else
    if (b == 102) then
     if a.1 then
      (zaK p0.Imm 0 1).bind fun h =>
      again (h, (zc.mk a.2.Op a.2.D a.2.A a.2.B 0))
     else
      again (false, (zc.mk a.2.Op a.2.D a.2.A a.2.B 0))
    else
     if (b == 109) then
      if a.1 then
       (zaK p0.Imm 0 3).bind fun j =>
       again (j, (zc.mk a.2.Op a.2.D a.2.A a.2.B 0))
      else
       again (false, (zc.mk a.2.Op a.2.D a.2.A a.2.B 0))
     else
      if (b == 104) then
       if a.1 then
        (zaK p0.Imm 0 6).bind fun l =>
        again (l, (zc.mk a.2.Op a.2.D a.2.A a.2.B 0))
       else
        again (false, (zc.mk a.2.Op a.2.D a.2.A a.2.B 0))
      else
       if (b == 110) then
        if a.1 then
         (zaK p0.Imm 1 255).bind fun n =>
         again (n, (zc.mk a.2.Op a.2.D a.2.A a.2.B 0))
        else
         again (false, (zc.mk a.2.Op a.2.D a.2.A a.2.B 0))
       else
        if (b == 106) then
         if a.1 then
          (zaK p0.D 0 63).bind fun q =>
          again (q, (zc.mk a.2.Op 0 a.2.A a.2.B a.2.Imm))
         else
          again (false, (zc.mk a.2.Op 0 a.2.A a.2.B a.2.Imm))
        else
         if (b == 98) then
          if a.1 then
           (zaK p0.D 1 63).bind fun v =>
           again (v, (zc.mk a.2.Op 0 a.2.A a.2.B a.2.Imm))
          else
           again (false, (zc.mk a.2.Op 0 a.2.A a.2.B a.2.Imm))
         else
          again (a.1, a.2)
def vn (p0 : zc) : Option Bool :=
 (zbz p0.Op).bind fun b =>
 if (!b.2) then
  some false
 else
  ((room b.1.fields.size 1).bind fun e =>
  qQ (zcO p0 b) (fun (c : Bool × zc) => (c.1, c.2)) b.1.fields.size 0 (b.2, (zc.mk 0 p0.D p0.A p0.B p0.Imm))).bind fun a =>
  (if a.1 then
   some ((a.2.Op == 0) && ((a.2.D == 0) && ((a.2.A == 0) && ((a.2.B == 0) && ((a.2.Imm == 0) && true)))))
  else
   some false).bind fun d =>
  some d
def zgg (p0 : qc) (p1 : Int) (a : Nat) (again : Unit -> Option (Unit ⊕ Bool)) (c : Unit) : Option (Unit ⊕ Bool) :=
 (zhG p0.fields (a : Int)).bind fun b =>
 if (b == p1) then
  some (.inr true)
 else
  again ()
def qN (p0 : qc) (p1 : Int) : Option Bool :=
 ((room p0.fields.size 1).bind fun b =>
 qQ (zgg p0 p1) (fun (c : Unit) => (.inl ())) p0.fields.size 0 ()).bind fun a => match a with
  | .inl d =>
   some false
  | .inr r => some r
def zdy (p0 : zc) : Option (Int × Bool × Bool) :=
 (vn p0).bind fun b =>
 if (!b) then
  some (0, false, false)
 else
  (zbz p0.Op).bind fun a =>
  (qN a.1 106).bind fun c =>
  if c then
   some (w64 (p0.D + 1), true, (p0.Op != 15))
  else
   (qN a.1 98).bind fun d =>
   if d then
    some (w64 (0 - p0.D), true, true)
   else
    some (0, false, (p0.Op != 22))
def zgb (p0 : List zc) (a : Nat) (again : Unit -> Option (Unit ⊕ Bool)) (d : Unit) : Option (Unit ⊕ Bool) :=
 (idx p0 (a : Int)).bind fun b =>
 (vn b).bind fun c =>
 if (!c) then
  some (.inr false)
 else
  again ()
def zea (p0 : List zc) : Option Bool :=
 (qQ (zgb p0) (fun (b : Unit) => (.inl ())) (p0).length 0 ()).bind fun a => match a with
  | .inl c =>
   some true
  | .inr r => some r
def zeY (p0 : List zc) (a : Nat) (again : Unit -> Option (Unit ⊕ (Int × Int))) (e : Unit) : Option (Unit ⊕ (Int × Int)) :=
 (idx p0 (a : Int)).bind fun c =>
 (zdy c).bind fun b =>
 (zea ([c])).bind fun d =>
 if (!d) then
  some (.inr ((a : Int), 12))
 else
  if (b.2.1 && (decide ((w64 ((a : Int) + b.1)) < 0) || decide ((w64 ((a : Int) + b.1)) >= ((p0).length : Int)))) then
   some (.inr ((a : Int), 30))
  else
   if (b.2.2 && ((a : Int) == (w64 (((p0).length : Int) - 1)))) then
    some (.inr ((a : Int), 36))
   else
    again ()
def zch (p0 : List zc) : Option (Int × Int) :=
 (qQ (zeY p0) (fun (b : Unit) => (.inl ())) (p0).length 0 ()).bind fun a => match a with
  | .inl c =>
   some (0, 0)
  | .inr r => some r
def zfq (p0 : List zc) (a : Nat) (again : (List zP) -> Option (List zP)) (c : (List zP)) : Option (List zP) :=
 (idx p0 (a : Int)).bind fun b =>
 if (b.Op == 20) then
  (room (c.length + ([(zP.mk (w64 ((a : Int) - b.D)) (a : Int) b.Imm)]).length) 24).bind fun d =>
  again (c ++ [(zP.mk (w64 ((a : Int) - b.D)) (a : Int) b.Imm)])
 else
  again c
def zbE (p0 : List zc) : Option (List zP) :=
 (qQ (zfq p0) (fun (a : (List zP)) => a) (p0).length 0 ([] : List zP)).bind fun b =>
 some b
def ze5 (p0 : zP) (p1 : Int) : Option Bool :=
 some (decide (p1 >= p0.Head) && decide (p1 <= p0.At))
def zcV (a : zP) (c : List zP) (d : Nat) (again : Unit -> Option (Unit ⊕ (Int × Int))) (e : Unit) : Option (Unit ⊕ (Int × Int)) :=
 (idx c (d : Int)).bind fun b =>
 if (decide (b.At >= a.Head) && decide (b.Head < a.Head)) then
  some (.inr (a.At, 31))
 else
  again ()
def zbL (a : (List zP)) (b : Nat) (again : Unit -> Option (Unit ⊕ (Int × Int))) (f : Unit) : Option (Unit ⊕ (Int × Int)) :=
 (idx a (b : Int)).bind fun d =>
 (cut a 0 (b : Int)).bind fun c =>
 (qQ (zcV d c) (fun (g : Unit) => (.inl ())) (c).length 0 ()).bind fun e => match e with
  | .inl h =>
   again ()
  | .inr r => some (.inr r)
def zcW (d : (List zP)) (a : Nat) (b : Int × Bool × Bool) (e : Nat) (again : Unit -> Option (Unit ⊕ (Int × Int))) (j : Unit) : Option (Unit ⊕ (Int × Int)) :=
 (idx d (e : Int)).bind fun c =>
 (if b.2.1 then
  if decide (b.1 > 0) then
   (ze5 c (a : Int)).bind fun f =>
   if (!f) then
    (ze5 c (w64 ((a : Int) + b.1))).bind fun g =>
    if g then
     some ((w64 ((a : Int) + b.1)) != c.Head)
    else
     some false
   else
    some false
  else
   some false
 else
  some false).bind fun h =>
 if h then
  some (.inr ((a : Int), 31))
 else
  again ()
def zcX (p0 : List zc) (a : (List zP)) (b : Nat) (again : Unit -> Option (Unit ⊕ (Int × Int))) (f : Unit) : Option (Unit ⊕ (Int × Int)) :=
 (idx p0 (b : Int)).bind fun c =>
 (zdy c).bind fun d =>
 (qQ (zcW a b d) (fun (g : Unit) => (.inl ())) (a).length 0 ()).bind fun e => match e with
  | .inl h =>
   again ()
  | .inr r => some (.inr r)
def zci (p0 : List zc) : Option (Int × Int) :=
 (zbE p0).bind fun a =>
 (qQ (zbL a) (fun (d : Unit) => (.inl ())) (a).length 0 ()).bind fun b => match b with
  | .inl e =>
   (qQ (zcX p0 a) (fun (f : Unit) => (.inl ())) (p0).length 0 ()).bind fun c => match c with
    | .inl g =>
     some (0, 0)
    | .inr r => some r
  | .inr r => some r
def zeb (c : (List zP)) (d : Nat) (e : Nat) (again : Int -> Option Int) (a : Int) : Option Int :=
 (idx c (e : Int)).bind fun b =>
 (ze5 b (d : Int)).bind fun f =>
 if f then
  again (zb3 (w64 (a * (w64 (b.Bound + 1)))) 257)
 else
  again a
def zgc (a : (List zP)) (b : Nat) (again : Int -> Option Int) (c : Int) : Option Int :=
 (qQ (zeb a b) (fun (d : Int) => d) (a).length 0 1).bind fun e =>
 again (zb3 (w64 (c + e)) 257)
def zec (p0 : List zc) : Option Int :=
 (zbE p0).bind fun a =>
 (qQ (zgc a) (fun (b : Int) => b) (p0).length 0 0).bind fun c =>
 some c
def zaL (p0 : List zc) : Option (Int × Int) :=
 if (((p0).length : Int) == 0) then
  some (0, 10)
 else
  if decide (((p0).length : Int) > 64) then
   some (0, 11)
  else
   (zch p0).bind fun a =>
   if (a.2 != 0) then
    some (a.1, a.2)
   else
    (zci p0).bind fun b =>
    if (b.2 != 0) then
     some (b.1, b.2)
    else
     (zec p0).bind fun c =>
     if decide (c > 256) then
      some (0, 32)
     else
      some (0, 0)
def zc9 (p0 : List zc) : Option ((List zP) × Int) :=
 (zaL p0).bind fun a =>
 if (a.2 != 0) then
  some (([] : List zP), a.2)
 else
  (zbE p0).bind fun b =>
  some (b, 0)
def vk (p0 : zc) : Option (Int × Bool) :=
 (vn p0).bind fun a =>
 if (!a) then
  some (0, false)
 else
  (zbz p0.Op).bind fun b =>
  (qN b.1 100).bind fun c =>
  if c then
   some (p0.D, true)
  else
   some (0, (p0.Op == 21))
def zaA  : Option zb :=
 some (zb.mk 0 18446744073709551615)
def jL (p0 : zb) : Option za :=
 some (za.mk 1 p0 0)
def xe (p1 : Int) (e : List zc) (f : Nat) (again : (List (Nat -> za)) -> Option (List (Nat -> za))) (a : (List (Nat -> za))) : Option (List (Nat -> za)) :=
 (idx e (f : Int)).bind fun g =>
 (vk g).bind fun d =>
 if (!d.2) then
  again a
 else
  (idx a p1).bind fun b =>
  (ain 8 d.1).bind fun c =>
  if ((b c).Ki == 1) then
   zaA.bind fun h =>
   (jL h).bind fun j =>
   again (a.set (Int.toNat p1) (jf b c j))
  else
   again (a.set (Int.toNat p1) (jf b c (za.mk 0 (zb.mk 0 0) 0)))
def xJ (p0 : zf) (p1 : Int) (d : Nat) (again : (List (Nat -> za)) -> Option zf) (b : (List (Nat -> za))) : Option zf :=
 (idx p0.loops (d : Int)).bind fun a =>
 if (a.Head != p1) then
  again b
 else
  (cut p0.Module.Co a.Head (w64 (a.At + 1))).bind fun c =>
  (qQ (xe p1 c) (fun (e : (List (Nat -> za))) => e) (c).length 0 b).bind fun f =>
  again f
def jk (p0 : zf) (p1 : Int) : Option zf :=
 (qQ (xJ p0 p1) (fun (a : (List (Nat -> za))) => (zf.mk p0.Module a p0.any p0.loops)) (p0.loops).length 0 p0.ca).bind fun b =>
 some b
def zda (p0 : zc) : Option Bool :=
 (zbz p0.Op).bind fun a =>
 ((vn p0).bind fun b =>
 if b then
  (qN a.1 115).bind fun c =>
  some c
 else
  some false).bind fun d =>
 some d
def zcj (p0 : Int) : Option zb :=
 some (zb.mk p0 p0)
def zba (p0 : zc) (p1 : Nat -> za) : Option za :=
 if (p0.B == 8) then
  (zcj (qf p0.Imm)).bind fun a =>
  (jL a).bind fun b =>
  some b
 else
  (ain 8 p0.B).bind fun c =>
  some (p1 c)
def zU (p0 : List za) (a : Nat) (again : Unit -> Option (Unit ⊕ Int)) (c : Unit) : Option (Unit ⊕ Int) :=
 (idx p0 (a : Int)).bind fun b =>
 if (b.Ki != 1) then
  some (.inr 33)
 else
  again ()
def xG (p0 : List za) : Option Int :=
 (qQ (zU p0) (fun (b : Unit) => (.inl ())) (p0).length 0 ()).bind fun a => match a with
  | .inl c =>
   some 0
  | .inr r => some r
def vl (p0 : zb) : Option Bool :=
 some (decide (p0.Lo <= p0.Hi))
def vA (p0 : zb) (p1 : zb) : Option Bool :=
 ((vl p0).bind fun a =>
 if a then
  if decide (p1.Lo <= p0.Lo) then
   some (decide (p0.Hi <= p1.Hi))
  else
   some false
 else
  some false).bind fun b =>
 some b
def zbb (p0 : za) : Option Int :=
 (vA p0.Sp (zb.mk 0 15)).bind fun a =>
 if (!a) then
  some 35
 else
  some 0
def jc (p0 : List Int) (b : Nat) (again : Unit -> Option (Unit ⊕ Int)) (c : Unit) : Option (Unit ⊕ Int) :=
 (idx p0 (b : Int)).bind fun a =>
 if (a != 0) then
  some (.inr a)
 else
  again ()
def za4 (p0 : List Int) : Option Int :=
 (qQ (jc p0) (fun (b : Unit) => (.inl ())) (p0).length 0 ()).bind fun a => match a with
  | .inl c =>
   some 0
  | .inr r => some r
def zbF (p0 : za) (p1 : za) : Option Bool :=
 if (p1.Ki == 1) then
  (if (p0.Ki == 1) then
   (vA p0.Sp p1.Sp).bind fun a =>
   some a
  else
   some false).bind fun b =>
  some b
 else
  if (p1.Ki == 2) then
   some ((p0.Ki == p1.Ki) && (((p0.Sp.Lo == p1.Sp.Lo) && ((p0.Sp.Hi == p1.Sp.Hi) && true)) && ((p0.Map == p1.Map) && true)))
  else
   some true
def xZ (p0 : Int) : Option (vY × Bool) :=
 if (decide (p0 < 0) || decide (p0 >= 7)) then
  some ((vY.mk ByteArray.empty ByteArray.empty 0 0 false), false)
 else
  (idx zaq p0).bind fun a =>
  some (a, true)
def zck (p0 : Int) : Option za :=
 some (za.mk 1 (zb.mk 0 p0) 0)
def zcP (b : vY × Bool) (again : ((List za) × Nat) -> Option (List za)) (a : (List za) × Nat) : Option (List za) :=
 if decide (a.2 < b.1.wants.size) then
  if ((zil b.1.wants a.2) == 104) then
   (room (a.1.length + ([(za.mk 2 (zb.mk 0 0) 0)]).length) 32).bind fun e =>
   again ((a.1 ++ [(za.mk 2 (zb.mk 0 0) 0)]), (ze3 b.1.wants a.2))
  else
   if ((zil b.1.wants a.2) == 115) then
    (zck 15).bind fun c =>
    (room (a.1.length + ([c]).length) 32).bind fun f =>
    again ((a.1 ++ [c]), (ze3 b.1.wants a.2))
   else
    (zck 18446744073709551615).bind fun d =>
    (room (a.1.length + ([d]).length) 32).bind fun g =>
    again ((a.1 ++ [d]), (ze3 b.1.wants a.2))
 else
  some a.1
def qO (fu : Nat) (p0 : Int) : Option (List za) :=
 (xZ p0).bind fun a =>
 (loop (zcP a) fu (([] : List za), 0)).bind fun b =>
 some b
def vo (p1 : List za) (d : (List za)) (b : Nat) (again : Unit -> Option (Unit ⊕ Int)) (g : Unit) : Option (Unit ⊕ Int) :=
 (idx d (b : Int)).bind fun a =>
 (idx p1 (b : Int)).bind fun c =>
 if (a.Ki != c.Ki) then
  some (.inr 33)
 else
  (if (a.Ki == 1) then
   (vA c.Sp a.Sp).bind fun e =>
   some (!e)
  else
   some false).bind fun f =>
  if f then
   some (.inr 35)
  else
   again ()
def vm (fu : Nat) (p0 : Int) (p1 : List za) : Option Int :=
 (xZ p0).bind fun b =>
 if (!b.2) then
  some 34
 else
  (qO fu p0).bind fun a =>
  if (((a).length : Int) != ((p1).length : Int)) then
   some 2
  else
   (qQ (vo p1 a) (fun (d : Unit) => (.inl ())) (a).length 0 ()).bind fun c => match c with
    | .inl e =>
     some 0
    | .inr r => some r
def zaB (p0 : Int) : Option (za × Bool) :=
 (xZ p0).bind fun a =>
 if (!a.2) then
  some ((za.mk 0 (zb.mk 0 0) 0), false)
 else
  (zck a.1.most).bind fun b =>
  some (b, true)
def zb7 (p0 : Int) (p1 : Int) (p2 : Int) : Option (Int × Bool) :=
 if (p0 == 1) then
  some (qf (p1 + p2), true)
 else
  if (p0 == 2) then
   some (qf (p1 - p2), true)
  else
   if (p0 == 3) then
    some (qf (p1 * p2), true)
   else
    if (p0 == 4) then
     if (p2 == 0) then
      some (0, true)
     else
      (nz p2).bind fun a =>
      some (qf (p1.tdiv p2), true)
    else
     if (p0 == 5) then
      if (p2 == 0) then
       some (p1, true)
      else
       (nz p2).bind fun b =>
       some (p1.tmod p2, true)
     else
      if (p0 == 6) then
       some (ze2 .u64 p1 p2, true)
      else
       if (p0 == 7) then
        some (bOr .u64 p1 p2, true)
       else
        if (p0 == 8) then
         some (zi8 .u64 p1 p2, true)
        else
         if (p0 == 9) then
          (nn p2).bind fun c =>
          some (zfS .u64 p1 p2, true)
         else
          if (p0 == 10) then
           (nn p2).bind fun d =>
           some (zbx .u64 p1 p2, true)
          else
           some (0, false)
def xr (p0 : zb) : Option Bool :=
 some (p0.Lo == p0.Hi)
def zcQ (p0 : zb) (p1 : zb) : Option zb :=
 (zi9 p0.Hi p1.Hi 0).bind fun a =>
 if decide (a.2 > 0) then
  zaA.bind fun b =>
  some b
 else
  some (zb.mk (qf (p0.Lo + p1.Lo)) a.1)
def zdb (p0 : Int) (p1 : Int) : Option (Int × Int) :=
 some (qf ((qf ((qf ((zbx .u64 p0 32) * (zbx .u64 p1 32))) + (zbx .u64 (qf ((qf ((zbx .u64 p0 32) * (ze2 .u64 p1 4294967295))) + (zbx .u64 (qf ((ze2 .u64 p0 4294967295) * (ze2 .u64 p1 4294967295))) 32))) 32))) + (zbx .u64 (qf ((ze2 .u64 (qf ((qf ((zbx .u64 p0 32) * (ze2 .u64 p1 4294967295))) + (zbx .u64 (qf ((ze2 .u64 p0 4294967295) * (ze2 .u64 p1 4294967295))) 32))) 4294967295) + (qf ((ze2 .u64 p0 4294967295) * (zbx .u64 p1 32))))) 32)), qf (p0 * p1))
def vS (p0 : zb) (p1 : zb) : Option zb :=
 (zdb p0.Hi p1.Hi).bind fun a =>
 if decide (a.1 > 0) then
  zaA.bind fun b =>
  some b
 else
  some (zb.mk (qf (p0.Lo * p1.Lo)) a.2)
def vT (p0 : zb) (p1 : zb) : Option zb :=
 if (p1.Lo == 0) then
  some (zb.mk 0 p0.Hi)
 else
  (nz p1.Hi).bind fun a =>
  (nz p1.Lo).bind fun b =>
  some (zb.mk (qf (p0.Lo.tdiv p1.Hi)) (qf (p0.Hi.tdiv p1.Lo)))
def zbR (p0 : zb) (p1 : zb) : Option zb :=
 if (p1.Lo == 0) then
  some (zb.mk 0 p0.Hi)
 else
  if decide (p0.Hi < p1.Lo) then
   some p0
  else
   some (zb.mk 0 (zb3 p0.Hi (qf (p1.Hi - 1))))
def zce (p0 : Int) : Option Int :=
 (if decide (p0 >= 4294967296) then
  some (zbx .u64 p0 32, 32)
 else
  some (p0, 0)).bind fun a =>
 (if decide (a.1 >= 65536) then
  some (zbx .u64 a.1 16, w64 (a.2 + 16))
 else
  some (a.1, a.2)).bind fun b =>
 (if decide (b.1 >= 256) then
  some (zbx .u64 b.1 8, w64 (b.2 + 8))
 else
  some (b.1, b.2)).bind fun c =>
 (zhG (⟨[0, 1, 2, 2, 3, 3, 3, 3, 4, 4, 4, 4, 4, 4, 4, 4, 5, 5, 5, 5, 5, 5, 5, 5, 5, 5, 5, 5, 5, 5, 5, 5, 6, 6, 6, 6, 6, 6, 6, 6, 6, 6, 6, 6, 6, 6, 6, 6, 6, 6, 6, 6, 6, 6, 6, 6, 6, 6, 6, 6, 6, 6, 6, 6, 7, 7, 7, 7, 7, 7, 7, 7, 7, 7, 7, 7, 7, 7, 7, 7, 7, 7, 7, 7, 7, 7, 7, 7, 7, 7, 7, 7, 7, 7, 7, 7, 7, 7, 7, 7, 7, 7, 7, 7, 7, 7, 7, 7, 7, 7, 7, 7, 7, 7, 7, 7, 7, 7, 7, 7, 7, 7, 7, 7, 7, 7, 7, 7, 8, 8, 8, 8, 8, 8, 8, 8, 8, 8, 8, 8, 8, 8, 8, 8, 8, 8, 8, 8, 8, 8, 8, 8, 8, 8, 8, 8, 8, 8, 8, 8, 8, 8, 8, 8, 8, 8, 8, 8, 8, 8, 8, 8, 8, 8, 8, 8, 8, 8, 8, 8, 8, 8, 8, 8, 8, 8, 8, 8, 8, 8, 8, 8, 8, 8, 8, 8, 8, 8, 8, 8, 8, 8, 8, 8, 8, 8, 8, 8, 8, 8, 8, 8, 8, 8, 8, 8, 8, 8, 8, 8, 8, 8, 8, 8, 8, 8, 8, 8, 8, 8, 8, 8, 8, 8, 8, 8, 8, 8, 8, 8, 8, 8, 8, 8, 8, 8, 8, 8, 8, 8, 8, 8, 8, 8, 8, 8].toArray⟩) (IntKind.u8.wrap c.1)).bind fun d =>
 some (w64 (c.2 + (w64 d)))
def zaW (p0 : Int) : Option Int :=
 (zce p0).bind fun a =>
 (nn a).bind fun b =>
 some (qf ((zfS .u64 1 a) - 1))
def zbo (p0 : zb) (p1 : zb) : Option zb :=
 ((xr p1).bind fun a =>
 if (!a) then
  some true
 else
  (zce p0.Hi).bind fun b =>
  if decide (b > 0) then
   if decide (p1.Lo > 64) then
    some true
   else
    (zce p0.Hi).bind fun c =>
    some (decide ((qf ((qf c) + p1.Lo)) > 64))
  else
   some false).bind fun d =>
 if d then
  zaA.bind fun e =>
  some e
 else
  (nn p1.Lo).bind fun f =>
  (nn p1.Lo).bind fun g =>
  some (zb.mk (zfS .u64 p0.Lo p1.Lo) (zfS .u64 p0.Hi p1.Lo))
def zdz (p0 : Int) (p1 : zb) (p2 : zb) : Option (zb × Bool) :=
 (zb7 p0 p1.Lo p2.Lo).bind fun a =>
 (if (!a.2) then
  some true
 else
  (vl p1).bind fun b =>
  if (!b) then
   some true
  else
   (vl p2).bind fun c =>
   some (!c)).bind fun d =>
 if d then
  some ((zb.mk 0 0), false)
 else
  ((xr p1).bind fun e =>
  if e then
   (xr p2).bind fun f =>
   some f
  else
   some false).bind fun g =>
  if g then
   (zcj a.1).bind fun h =>
   some (h, true)
  else
   if (p0 == 1) then
    (zcQ p1 p2).bind fun j =>
    some (j, true)
   else
    if (p0 == 2) then
     if decide (p1.Lo < p2.Hi) then
      zaA.bind fun l =>
      some (l, true)
     else
      some ((zb.mk (qf (p1.Lo - p2.Hi)) (qf (p1.Hi - p2.Lo))), true)
    else
     if (p0 == 3) then
      (vS p1 p2).bind fun n =>
      some (n, true)
     else
      if (p0 == 4) then
       (vT p1 p2).bind fun q =>
       some (q, true)
      else
       if (p0 == 5) then
        (zbR p1 p2).bind fun v =>
        some (v, true)
       else
        if (p0 == 6) then
         some ((zb.mk 0 (zb3 p1.Hi p2.Hi)), true)
        else
         if (p0 == 7) then
          (zaW (bOr .u64 p1.Hi p2.Hi)).bind fun z =>
          some ((zb.mk (zcC p1.Lo p2.Lo) z), true)
         else
          if (p0 == 8) then
           (zaW (bOr .u64 p1.Hi p2.Hi)).bind fun A =>
           some ((zb.mk 0 A), true)
          else
           if (p0 == 9) then
            (zbo p1 p2).bind fun B =>
            some (B, true)
           else
            (nn p2.Hi).bind fun C =>
            (nn p2.Lo).bind fun D =>
            some ((zb.mk (zbx .u64 p1.Lo p2.Hi) (zbx .u64 p1.Hi p2.Lo)), true)
def qg (p0 : zf) (p1 : Int) (a : zc × (Nat -> za)) (c : Nat) (again : Unit -> Option (Unit ⊕ ((Nat -> za) × Int))) (f : Unit) : Option (Unit ⊕ ((Nat -> za) × Int)) :=
 (ain 8 (c : Int)).bind fun b =>
 (idx p0.ca (w64 (p1 - a.1.D))).bind fun d =>
 (zbF (a.2 b) (d b)).bind fun e =>
 if (!e) then
  some (.inr (a.2, 33))
 else
  again ()
def qG (fu : Nat) (p0 : zf) (p1 : Int) : Option ((Nat -> za) × Int) :=
 ((idx p0.Module.Co p1).bind fun f =>
 (idx p0.ca p1).bind fun g =>
 some (f, g)).bind fun a =>
 (zda a.1).bind fun h =>
 (if h then
  (zba a.1 a.2).bind fun j =>
  some j
 else
  some (za.mk 0 (zb.mk 0 0) 0)).bind fun b =>
 (ain 8 a.1.A).bind fun c =>
 if (a.1.Op == 0) then
  if (b.Ki == 0) then
   some (a.2, 33)
  else
   (ain 8 a.1.D).bind fun l =>
   some ((jf a.2 l b), 0)
 else
  if (a.1.Op == 11) then
   zaA.bind fun n =>
   (jL n).bind fun q =>
   (ain 8 a.1.D).bind fun v =>
   (xG ([b])).bind fun z =>
   (zbb b).bind fun B =>
   (za4 ([z, B])).bind fun C =>
   some ((jf a.2 v q), C)
  else
   if (a.1.Op == 12) then
    (xG ([(a.2 c), b])).bind fun E =>
    (zbb b).bind fun F =>
    (za4 ([E, F])).bind fun G =>
    some (a.2, G)
   else
    if (a.1.Op == 13) then
     zaA.bind fun H =>
     (jL H).bind fun I =>
     (ain 8 a.1.D).bind fun J =>
     some ((jf a.2 J I), 0)
    else
     if (a.1.Op == 14) then
      (ain 8 a.1.D).bind fun d =>
      if decide (a.1.Imm >= ((p0.Module.Ms).length : Int)) then
       some ((jf a.2 d (za.mk 2 (zb.mk 0 0) a.1.Imm)), 35)
      else
       some ((jf a.2 d (za.mk 2 (zb.mk 0 0) a.1.Imm)), 0)
     else
      if (a.1.Op == 15) then
       some (a.2, 0)
      else
       (if (a.1.Op == 16) then
        some (a.1.Op == 16)
       else
        if (a.1.Op == 17) then
         some (a.1.Op == 17)
        else
         if (a.1.Op == 18) then
          some (a.1.Op == 18)
         else
          some (a.1.Op == 19)).bind fun K =>
       if K then
        (xG ([(a.2 c), b])).bind fun L =>
        some (a.2, L)
       else
        if (a.1.Op == 20) then
         (xG ([(a.2 c)])).bind fun e =>
         if (e != 0) then
          some (a.2, e)
         else
          (qQ (qg p0 p1 a) (fun (W : Unit) => (.inl ())) 8 0 ()).bind fun M => match M with
           | .inl X =>
            some (a.2, 0)
           | .inr r => some r
        else
         if (a.1.Op == 21) then
          (qO fu a.1.Imm).bind fun N =>
          (cut (xE 8 a.2) 1 (w64 (1 + ((N).length : Int)))).bind fun O =>
          (vm fu a.1.Imm O).bind fun P =>
          (zaB a.1.Imm).bind fun Q =>
          some ((jf a.2 0 Q.1), P)
         else
          if (a.1.Op == 22) then
           (xG ([(a.2 c)])).bind fun R =>
           some (a.2, R)
          else
           (zdz a.1.Op (a.2 c).Sp b.Sp).bind fun S =>
           (jL S.1).bind fun T =>
           (ain 8 a.1.D).bind fun U =>
           (xG ([(a.2 c), b])).bind fun V =>
           some ((jf a.2 U T), V)
def zgd (p0 : List zb) (c : Nat) (again : zb -> Option (zb ⊕ (zb × Bool))) (b : zb) : Option (zb ⊕ (zb × Bool)) :=
 (idx p0 (c : Int)).bind fun a =>
 (vl a).bind fun d =>
 if (!d) then
  some (.inr ((zb.mk 0 0), false))
 else
  again (zb.mk (zb3 b.Lo a.Lo) (zcC b.Hi a.Hi))
def zed (p0 : List zb) : Option (zb × Bool) :=
 (qQ (zgd p0) (fun (a : zb) => (.inl a)) (p0).length 0 (zb.mk 18446744073709551615 0)).bind fun b => match b with
  | .inl c =>
   if (((p0).length : Int) == 0) then
    some ((zb.mk 0 0), false)
   else
    some (c, true)
  | .inr r => some r
def zbS (p0 : za) (p1 : za) : Option za :=
 if ((p0.Ki != p1.Ki) || (p0.Map != p1.Map)) then
  some (za.mk 0 (zb.mk 0 0) 0)
 else
  if (p0.Ki == 1) then
   (zed ([p0.Sp, p1.Sp])).bind fun a =>
   (jL a.1).bind fun b =>
   some b
  else
   some p0
def qT (p1 : Int) (p2 : Nat -> za) (d : Nat) (again : zf -> Option zf) (a : zf) : Option zf :=
 (idx a.ca p1).bind fun c =>
 (ain 8 (d : Int)).bind fun b =>
 (zbS (c b) (p2 b)).bind fun e =>
 again (zf.mk a.Module (a.ca.set (Int.toNat p1) (jf c b e)) a.any a.loops)
def zG (p0 : zf) (p1 : Int) (p2 : Nat -> za) : Option zf :=
 (idx p0.any p1).bind fun a =>
 if (!a) then
  (idx p0.ca p1).bind fun d =>
  some (zf.mk p0.Module (p0.ca.set (Int.toNat p1) p2) (p0.any.set (Int.toNat p1) true) p0.loops)
 else
  (qQ (qT p1 p2) (fun (b : zf) => b) 8 0 p0).bind fun c =>
  some c
def vZ (p0 : Int) (p1 : Int) (p2 : Int) : Option (Bool × Bool) :=
 if (p0 == 16) then
  some ((p1 == p2), true)
 else
  if (p0 == 17) then
   some ((p1 != p2), true)
  else
   if (p0 == 18) then
    some (decide (p1 < p2), true)
   else
    if (p0 == 19) then
     some (decide (p1 >= p2), true)
    else
     some (false, false)
def zee (p0 : List zb) (c : Nat) (again : zb -> Option (zb ⊕ (zb × Bool))) (b : zb) : Option (zb ⊕ (zb × Bool)) :=
 (idx p0 (c : Int)).bind fun a =>
 (vl a).bind fun d =>
 if (!d) then
  some (.inr ((zb.mk 0 0), false))
 else
  again (zb.mk (zcC b.Lo a.Lo) (zb3 b.Hi a.Hi))
def vJ (p0 : List zb) : Option (zb × Bool) :=
 zaA.bind fun b =>
 (qQ (zee p0) (fun (c : zb) => (.inl c)) (p0).length 0 b).bind fun d => match d with
  | .inl a =>
   (if (((p0).length : Int) == 0) then
    some true
   else
    (vl a).bind fun e =>
    some (!e)).bind fun f =>
   if f then
    some ((zb.mk 0 0), false)
   else
    some (a, true)
  | .inr r => some r
def xa (p0 : Int) (p1 : zb) (p2 : zb) (p3 : Bool) : Option (zb × Bool) :=
 (vZ p0 0 0).bind fun d =>
 (if (!d.2) then
  some true
 else
  (vl p1).bind fun e =>
  if (!e) then
   some true
  else
   (vl p2).bind fun f =>
   some (!f)).bind fun g =>
 if g then
  some ((zb.mk 0 0), false)
 else
  (xr p2).bind fun h =>
  if (!h) then
   some (p1, true)
  else
   (if ((p0 == 18) && p3) then
    some ((p0 == 18) && p3)
   else
    if (p0 == 19) then
     some (!p3)
    else
     some false).bind fun j =>
   if j then
    if (p2.Lo == 0) then
     some ((zb.mk 0 0), false)
    else
     (vJ ([p1, (zb.mk 0 (qf (p2.Lo - 1)))])).bind fun a =>
     some (a.1, a.2)
   else
    (if (p0 == 18) then
     some (p0 == 18)
    else
     some (p0 == 19)).bind fun l =>
    if l then
     (vJ ([p1, (zb.mk p2.Lo 18446744073709551615)])).bind fun b =>
     some (b.1, b.2)
    else
     (if ((p0 == 16) && p3) then
      some ((p0 == 16) && p3)
     else
      if (p0 == 17) then
       some (!p3)
      else
       some false).bind fun n =>
     if n then
      (vJ ([p1, p2])).bind fun c =>
      some (c.1, c.2)
     else
      if ((p1.Lo == p2.Lo) && ((p1.Hi == p2.Hi) && true)) then
       some ((zb.mk 0 0), false)
      else
       if (p1.Lo == p2.Lo) then
        some ((zb.mk (qf (p1.Lo + 1)) p1.Hi), true)
       else
        if (p1.Hi == p2.Lo) then
         some ((zb.mk p1.Lo (qf (p1.Hi - 1))), true)
        else
         some (p1, true)
def qC (p1 : Int) (p2 : Nat -> za) (a : zc) (f : Int × Bool × Bool) (g : za) (h : Nat) (again : zf -> Option zf) (b : zf) : Option zf :=
 (idx ([true, false]) (h : Int)).bind fun c =>
 (if (!c) then
  some (w64 (p1 + 1))
 else
  some (w64 (p1 + f.1))).bind fun j =>
 ((ain 8 a.A).bind fun l =>
 (xa a.Op (p2 l).Sp g.Sp c).bind fun d =>
 some (d.1, d.2)).bind fun e =>
 if e.2 then
  (jL e.1).bind fun n =>
  (ain 8 a.A).bind fun q =>
  (zG b j (jf p2 q n)).bind fun v =>
  again v
 else
  again b
def jE (p0 : zf) (p1 : Int) (p2 : Nat -> za) : Option zf :=
 (idx p0.Module.Co p1).bind fun b =>
 (zdy b).bind fun a =>
 if ((!a.2.1) || decide (a.1 < 0)) then
  (if a.2.2 then
   (zG p0 (w64 (p1 + 1)) p2).bind fun c =>
   some c
  else
   some p0).bind fun d =>
  some d
 else
  if (!a.2.2) then
   (zG p0 (w64 (p1 + a.1)) p2).bind fun e =>
   some e
  else
   (zba b p2).bind fun f =>
   (qQ (qC p1 p2 b a f) (fun (g : zf) => g) 2 0 p0).bind fun h =>
   some h
def zN (fu : Nat) (a : Nat) (again : zf -> Option (zf ⊕ ((Option zf) × Int × Int))) (b : zf) : Option (zf ⊕ ((Option zf) × Int × Int)) :=
 (idx b.any (a : Int)).bind fun e =>
 if (!e) then
  again b
 else
  (jk b (a : Int)).bind fun d =>
  (qG fu d (a : Int)).bind fun c =>
  if (c.2 != 0) then
   some (.inr (none, (a : Int), c.2))
  else
   (jE d (a : Int) c.1).bind fun f =>
   again f
def qJ (fu : Nat) (p0 : zj) : Option ((Option zf) × Int × Int) :=
 (zcd p0.Ms).bind fun c =>
 if (!c) then
  some (none, 0, 2)
 else
  (zaL p0.Co).bind fun b =>
  if (b.2 != 0) then
   some (none, b.1, b.2)
  else
   ((mkLen ((p0.Co).length : Int) 256).bind fun d =>
   (mkLen ((p0.Co).length : Int) 1).bind fun e =>
   some (zf.mk p0 (List.replicate d (fun _ => (za.mk 0 (zb.mk 0 0) 0))) (List.replicate e false) ([] : List zP))).bind fun a =>
   (zc9 p0.Co).bind fun f =>
   (idx a.any 0).bind fun l =>
   (qQ (zN fu) (fun (g : zf) => (.inl g)) (p0.Co).length 0 (zf.mk a.Module a.ca (a.any.set (Int.toNat 0) true) f.1)).bind fun h => match h with
    | .inl j =>
     some ((some j), 0, 0)
    | .inr r => some r
def va (fu : Nat) (p0 : zj) : Option (Int × Int) :=
 (qJ fu p0).bind fun a =>
 zhf a.1
  (some (a.2.1, a.2.2))
  (fun b =>
  some (a.2.1, a.2.2))
def vp (p0 : qb) : Option qb :=
 some (qb.mk (fun _ => 0))
def xf (p0 : List Int) : Option (List Int) :=
 (room (([] : List Int).length + p0.length) 8).bind fun a =>
 some (([] : List Int) ++ p0)
def zy (p0 : List zc) : Option (List zc) :=
 (room (([] : List zc).length + p0.length) 40).bind fun a =>
 some (([] : List zc) ++ p0)
def zao (fu : Nat) (p0 : zj) (p1 : qw) (p2 : zk) : Option ((Option zh) × Int × zk) :=
 (va fu p0).bind fun a =>
 if (a.2 != 0) then
  some (none, a.2, p2)
 else
  (vp p2.Wo).bind fun b =>
  (xf p0.Ms).bind fun c =>
  (zy p0.Co).bind fun d =>
  some ((some (zh.mk p1 (zj.mk c d) (fun _ => 0) (fun _ => 0) 0 0 0)), 0, (zk.mk b p2.Ct))
def ql (fu : Nat) (p0 : zg) (p1 : Int) (p2 : Int) (p3 : zj) : Option (Int × zg) :=
 if (p0.mode_ != 1) then
  some (41, p0)
 else
  (zao fu p3 p0.job.event.Ev p0.Scratch).bind fun a =>
  zhf a.1
   (if (a.2.1 != 0) then
    some (a.2.1, (zg.mk a.2.2 p0.Stats p0.mode_ p0.job))
   else
    some (0, (zg.mk a.2.2 p0.Stats 2 (xF.mk p0.job.hook p0.job.event p1 p2 p0.job.calls none))))
   (fun b =>
   if (a.2.1 != 0) then
    some (a.2.1, (zg.mk a.2.2 p0.Stats p0.mode_ p0.job))
   else
    some (0, (zg.mk a.2.2 p0.Stats 2 (xF.mk p0.job.hook p0.job.event p1 p2 p0.job.calls (some b)))))
def zdc (p0 : Int) : Option (Int × Bool) :=
 (xZ p0).bind fun a =>
 some (a.1.asks, a.1.isAsked)
def zW (p0 : zY) (p1 : Int) : Option (Int × Int × zY) :=
 if (decide (p1 < 0) || decide (p1 >= 16)) then
  some (0, 35, p0)
 else
  (ain 16 p1).bind fun a =>
  some (((jf p0.cn a (qf ((p0.cn a) + 1))) a), 0, (zY.mk (jf p0.cn a (qf ((p0.cn a) + 1)))))
def qU (fu : Nat) (p0 : zh) (p1 : Int) (g0 : zk) : Option (zA × zh × zk) :=
 (zdc p1).bind fun c =>
 if c.2 then
  (idx p0.mo.Ms (p0.rg 1)).bind fun d =>
  (qO fu p1).bind fun e =>
  (if decide (((e).length : Int) > 2) then
   some (p0.rg 3)
  else
   some 0).bind fun f =>
  some ((zA.mk 2 p0.at_ (qr.mk d c.1 (p0.rg 2) f) 0), (zh.mk p0.Ev p0.mo p0.rg p0.tu p0.at_ p0.sp 1), g0)
 else
  (if (p1 == 5) then
   (zW g0.Ct (w64 (p0.rg 1))).bind fun b =>
   some ((zh.mk p0.Ev p0.mo (jf p0.rg 0 b.1) p0.tu p0.at_ p0.sp p0.sa), (zk.mk g0.Wo b.2.2), (zA.mk 1 p0.at_ (qr.mk 0 0 0 0) b.1))
  else
   some ((zh.mk p0.Ev p0.mo (jf p0.rg 0 0) p0.tu p0.at_ p0.sp p0.sa), g0, (zA.mk 3 p0.at_ (qr.mk 0 0 0 0) (p0.rg 1)))).bind fun a =>
  some (a.2.2, (zh.mk a.1.Ev a.1.mo a.1.rg a.1.tu (w64 (a.1.at_ + 1)) a.1.sp a.1.sa), a.2.1)
def qV (p0 : zh) (p1 : zc) : Option Int :=
 if (p1.B == 8) then
  some (qf p1.Imm)
 else
  (ain 8 p1.B).bind fun a =>
  some (p0.rg a)
def qh (p0 : qb) (p1 : Int) : Option (Int × Int) :=
 if (decide (p1 < 0) || decide (p1 >= 16)) then
  some (0, 35)
 else
  (ain 16 p1).bind fun a =>
  some ((p0.wo a), 0)
def qW (p0 : qb) (p1 : Int) (p2 : Int) : Option (Int × qb) :=
 if (decide (p1 < 0) || decide (p1 >= 16)) then
  some (35, p0)
 else
  (ain 16 p1).bind fun a =>
  some (0, (qb.mk (jf p0.wo a p2)))
def qP (p0 : zh) (p1 : zc) (g0 : zk) : Option (Int × zh × zk) :=
 if (p1.Op == 0) then
  (qV (zh.mk p0.Ev p0.mo p0.rg p0.tu p0.at_ p0.sp p0.sa) p1).bind fun e =>
  (ain 8 p1.D).bind fun f =>
  some (1, (zh.mk p0.Ev p0.mo (jf p0.rg f e) p0.tu p0.at_ p0.sp p0.sa), g0)
 else
  if (p1.Op == 11) then
   (qV (zh.mk p0.Ev p0.mo p0.rg p0.tu p0.at_ p0.sp p0.sa) p1).bind fun g =>
   (qh g0.Wo (w64 g)).bind fun h =>
   (ain 8 p1.D).bind fun j =>
   some (1, (zh.mk p0.Ev p0.mo (jf p0.rg j h.1) p0.tu p0.at_ p0.sp p0.sa), g0)
  else
   if (p1.Op == 12) then
    (ain 8 p1.A).bind fun l =>
    (qV (zh.mk p0.Ev p0.mo p0.rg p0.tu p0.at_ p0.sp p0.sa) p1).bind fun n =>
    (qW g0.Wo (w64 n) (p0.rg l)).bind fun q =>
    some (1, (zh.mk p0.Ev p0.mo p0.rg p0.tu p0.at_ p0.sp p0.sa), (zk.mk q.2 g0.Ct))
   else
    if (p1.Op == 13) then
     (ain 8 p1.D).bind fun a =>
     if (p1.Imm == 1) then
      some (1, (zh.mk p0.Ev p0.mo (jf (jf p0.rg a p0.Ev.A) a p0.Ev.B) p0.tu p0.at_ p0.sp p0.sa), g0)
     else
      some (1, (zh.mk p0.Ev p0.mo (jf p0.rg a p0.Ev.A) p0.tu p0.at_ p0.sp p0.sa), g0)
    else
     if (p1.Op == 14) then
      (ain 8 p1.D).bind fun v =>
      some (1, (zh.mk p0.Ev p0.mo (jf p0.rg v (qf p1.Imm)) p0.tu p0.at_ p0.sp p0.sa), g0)
     else
      if (p1.Op == 15) then
       some (w64 (p1.D + 1), p0, g0)
      else
       if (p1.Op == 20) then
        ((ain 8 p1.A).bind fun z =>
        if ((p0.rg z) != 0) then
         (ain 64 p0.at_).bind fun C =>
         some (decide ((p0.tu C) < p1.Imm))
        else
         some false).bind fun E =>
        if E then
         (ain 64 (zh.mk p0.Ev p0.mo p0.rg p0.tu p0.at_ p0.sp p0.sa).at_).bind fun b =>
         some (w64 (0 - p1.D), (zh.mk (zh.mk p0.Ev p0.mo p0.rg p0.tu p0.at_ p0.sp p0.sa).Ev (zh.mk p0.Ev p0.mo p0.rg p0.tu p0.at_ p0.sp p0.sa).mo (zh.mk p0.Ev p0.mo p0.rg p0.tu p0.at_ p0.sp p0.sa).rg (jf (zh.mk p0.Ev p0.mo p0.rg p0.tu p0.at_ p0.sp p0.sa).tu b (w64 (((zh.mk p0.Ev p0.mo p0.rg p0.tu p0.at_ p0.sp p0.sa).tu b) + 1))) (zh.mk p0.Ev p0.mo p0.rg p0.tu p0.at_ p0.sp p0.sa).at_ (zh.mk p0.Ev p0.mo p0.rg p0.tu p0.at_ p0.sp p0.sa).sp (zh.mk p0.Ev p0.mo p0.rg p0.tu p0.at_ p0.sp p0.sa).sa), g0)
        else
         (ain 64 (zh.mk p0.Ev p0.mo p0.rg p0.tu p0.at_ p0.sp p0.sa).at_).bind fun F =>
         some (1, (zh.mk (zh.mk p0.Ev p0.mo p0.rg p0.tu p0.at_ p0.sp p0.sa).Ev (zh.mk p0.Ev p0.mo p0.rg p0.tu p0.at_ p0.sp p0.sa).mo (zh.mk p0.Ev p0.mo p0.rg p0.tu p0.at_ p0.sp p0.sa).rg (jf (zh.mk p0.Ev p0.mo p0.rg p0.tu p0.at_ p0.sp p0.sa).tu F 0) (zh.mk p0.Ev p0.mo p0.rg p0.tu p0.at_ p0.sp p0.sa).at_ (zh.mk p0.Ev p0.mo p0.rg p0.tu p0.at_ p0.sp p0.sa).sp (zh.mk p0.Ev p0.mo p0.rg p0.tu p0.at_ p0.sp p0.sa).sa), g0)
       else
        (ain 8 p1.A).bind fun c =>
        (qV (zh.mk p0.Ev p0.mo p0.rg p0.tu p0.at_ p0.sp p0.sa) p1).bind fun G =>
        (zb7 p1.Op (p0.rg c) G).bind fun d =>
        if d.2 then
         (ain 8 p1.D).bind fun H =>
         some (1, (zh.mk p0.Ev p0.mo (jf p0.rg H d.1) p0.tu p0.at_ p0.sp p0.sa), g0)
        else
         (qV (zh.mk p0.Ev p0.mo p0.rg p0.tu p0.at_ p0.sp p0.sa) p1).bind fun I =>
         (vZ p1.Op (p0.rg c) I).bind fun J =>
         if J.1 then
          some (w64 (p1.D + 1), (zh.mk p0.Ev p0.mo p0.rg p0.tu p0.at_ p0.sp p0.sa), g0)
         else
          some (1, (zh.mk p0.Ev p0.mo p0.rg p0.tu p0.at_ p0.sp p0.sa), g0)
def qm (fu : Nat) (p0 : zh) (g0 : zk) : Option (zA × zh × zk) :=
 if (p0.sa == 1) then
  some ((zA.mk 5 p0.at_ (qr.mk 0 0 0 0) 0), (zh.mk p0.Ev p0.mo p0.rg p0.tu p0.at_ p0.sp p0.sa), g0)
 else
  if (p0.sa == 2) then
   (idx p0.mo.Co p0.at_).bind fun d =>
   (ain 8 d.A).bind fun e =>
   some ((zA.mk 6 p0.at_ (qr.mk 0 0 0 0) (p0.rg e)), (zh.mk p0.Ev p0.mo p0.rg p0.tu p0.at_ p0.sp p0.sa), g0)
  else
   (idx p0.mo.Co p0.at_).bind fun b =>
   if (b.Op == 21) then
    (qU fu (zh.mk p0.Ev p0.mo p0.rg p0.tu p0.at_ (w64 (p0.sp + 1)) p0.sa) b.Imm g0).bind fun c =>
    some (c.1, c.2.1, c.2.2)
   else
    if (b.Op == 22) then
     (ain 8 b.A).bind fun f =>
     some ((zA.mk 4 p0.at_ (qr.mk 0 0 0 0) (p0.rg f)), (zh.mk p0.Ev p0.mo p0.rg p0.tu p0.at_ (w64 (p0.sp + 1)) 2), g0)
    else
     (qP (zh.mk p0.Ev p0.mo p0.rg p0.tu p0.at_ (w64 (p0.sp + 1)) p0.sa) b g0).bind fun a =>
     some ((zA.mk 1 p0.at_ (qr.mk 0 0 0 0) 0), (zh.mk a.2.1.Ev a.2.1.mo a.2.1.rg a.2.1.tu (w64 (p0.at_ + a.1)) a.2.1.sp a.2.1.sa), a.2.2)
def xK (p0 : zh) : Option Int :=
 some p0.sp
def za5 (p0 : Int) : Option Bool :=
 some (decide (p0 >= 0) && decide (p0 < 4))
def ziy (p0 : List zu) (c : Nat) (again : zu -> Option zu) (a : zu) : Option zu :=
 (idx p0 (c : Int)).bind fun b =>
 again (zu.mk (qf (a.Runs + b.Runs)) (qf (a.Missed + b.Missed)) (qf (a.Steps + b.Steps)) (qf (a.Calls + b.Calls)) (qf (a.Sum + b.Sum)))
def zfr (p0 : List zu) : Option zu :=
 (qQ (ziy p0) (fun (a : zu) => a) (p0).length 0 (zu.mk 0 0 0 0 0)).bind fun b =>
 some b
def vK (p0 : zt) (p1 : Int) (p2 : Int) (p3 : Int) (p4 : Int) : Option (Int × zt) :=
 (za5 p1).bind fun b =>
 if (!b) then
  some (2, p0)
 else
  (ain 4 p1).bind fun a =>
  (zfr ([(p0.hooks a), (zu.mk 1 0 p2 p3 p4)])).bind fun c =>
  some (0, (zt.mk (jf p0.hooks a c)))
def xb (p0 : zg) : Option zg :=
 some (zg.mk p0.Scratch p0.Stats 0 (xF.mk 0 (jg.mk 0 (qw.mk 0 0)) 0 0 0 none))
def qi (fu : Nat) (p0 : zg) : Option (zA × Bool × zg) :=
 if (p0.mode_ != 2) then
  some ((zA.mk 0 0 (qr.mk 0 0 0 0) 0), false, p0)
 else
  p0.job.machine.bind fun b =>
  (qm fu b p0.Scratch).bind fun a =>
  if (a.1.Ki == 2) then
   some (a.1, true, (zg.mk a.2.2 p0.Stats 3 (xF.mk p0.job.hook p0.job.event p0.job.version p0.job.prog (qf (p0.job.calls + 1)) (some a.2.1))))
  else
   if (a.1.Ki == 4) then
    (xK (zh.mk a.2.1.Ev a.2.1.mo a.2.1.rg a.2.1.tu a.2.1.at_ a.2.1.sp a.2.1.sa)).bind fun c =>
    (vK p0.Stats p0.job.hook (qf c) p0.job.calls a.1.Val).bind fun d =>
    (xb (zg.mk a.2.2 d.2 p0.mode_ (xF.mk p0.job.hook p0.job.event p0.job.version p0.job.prog p0.job.calls (some (zh.mk a.2.1.Ev a.2.1.mo a.2.1.rg a.2.1.tu a.2.1.at_ a.2.1.sp a.2.1.sa))))).bind fun e =>
    some (a.1, true, e)
   else
    some (a.1, true, (zg.mk a.2.2 p0.Stats p0.mode_ (xF.mk p0.job.hook p0.job.event p0.job.version p0.job.prog p0.job.calls (some a.2.1))))
def vB (p0 : zt) (p1 : Int) : Option (zu × Int) :=
 (za5 p1).bind fun a =>
 if (!a) then
  some ((zu.mk 0 0 0 0 0), 2)
 else
  (ain 4 p1).bind fun b =>
  some ((p0.hooks b), 0)
def xS (fu : Nat)  : Option Bool :=
 zbD.bind fun f =>
 ((jY f 1 (jg.mk 4 (qw.mk 5 0))).bind fun a =>
 if (a.1 != 0) then
  some (a.2, true)
 else
  (jZ a.2).bind fun g =>
  some (a.2, (g != 1))).bind fun d =>
 if d.2 then
  some false
 else
  (ql fu d.1 3 7 (zj.mk ([] : List Int) ([(zc.mk 13 0 0 0 0), (zc.mk 22 0 0 0 0)]))).bind fun e =>
  if (e.1 != 0) then
   some false
  else
   (qi fu e.2).bind fun h =>
   (qi fu h.2.2).bind fun b =>
   (vB b.2.2.Stats 1).bind fun c =>
   (if b.2.1 then
    if (b.1.Val == 5) then
     (jZ b.2.2).bind fun j =>
     if (j == 0) then
      if (c.2 == 0) then
       if (c.1.Runs == 1) then
        some (c.1.Sum == 5)
       else
        some false
      else
       some false
     else
      some false
    else
     some false
   else
    some false).bind fun l =>
   some l
def vL  : Option zd :=
 some (zd.mk (zi.mk ([] : List zp)) ([] : List zm) 0 0 (jg.mk 0 (qw.mk 0 0)) 0 0 0 none)
def xc (p0 : zd) (p1 : Int) (p2 : jg) : Option (Int × zd) :=
 if (decide (p1 < 0) || decide (p1 > 3)) then
  some (2, p0)
 else
  if (p0.Mode != 0) then
   some (42, p0)
  else
   some (0, (zd.mk p0.Book p0.Told 1 p1 p2 p0.Version p0.Prog p0.Calls p0.M))
def vq (p0 : zj) : Option zj :=
 ((room (([] : List Int).length + p0.Ms.length) 8).bind fun a =>
 (room (([] : List zc).length + p0.Co.length) 40).bind fun b =>
 some ()).bind fun c =>
 some (zj.mk (([] : List Int) ++ p0.Ms) (([] : List zc) ++ p0.Co))
def zcl (p0 : List Int) (a : Nat) (b : Nat) (again : Unit -> Option (Unit ⊕ Bool)) (e : Unit) : Option (Unit ⊕ Bool) :=
 (idx p0 (b : Int)).bind fun c =>
 (idx p0 (a : Int)).bind fun d =>
 if (c == d) then
  some (.inr false)
 else
  again ()
def vc (p0 : List Int) (a : Nat) (again : Unit -> Option (Unit ⊕ Bool)) (e : Unit) : Option (Unit ⊕ Bool) :=
 ((idx p0 (a : Int)).bind fun b =>
 if decide (b < 0) then
  some true
 else
  some (decide (b > 3))).bind fun c =>
 if c then
  some (.inr false)
 else
  ((room a 1).bind fun f =>
  qQ (zcl p0 a) (fun (g : Unit) => (.inl ())) a 0 ()).bind fun d => match d with
   | .inl h =>
    again ()
   | .inr r => some (.inr r)
def jd (fu : Nat) (p0 : List Int) : Option Bool :=
 if decide (((p0).length : Int) > 4) then
  some false
 else
  (qQ (vc p0) (fun (b : Unit) => (.inl ())) (p0).length 0 ()).bind fun a => match a with
   | .inl c =>
    some true
   | .inr r => some r
def qj (p0 : Int) : Option Bool :=
 some (decide (p0 >= 0) && decide (p0 <= 7))
def qX (p0 : zc) : Option Bool :=
 ((qj p0.B).bind fun a =>
 if a then
  if (p0.Imm == 0) then
   some true
  else
   some (p0.B == 8)
 else
  some (p0.B == 8)).bind fun b =>
 some b
def zX (p0 : Int) : Option Bool :=
 some (decide (p0 >= 1) && decide (p0 <= 10))
def jF (p0 : Int) : Option Bool :=
 some (decide (p0 >= 16) && decide (p0 <= 19))
def jM (p0 : zc) : Option Bool :=
 if ((p0.Op == 0) || (p0.Op == 11)) then
  ((qj p0.D).bind fun a =>
  if a then
   if (p0.A == 0) then
    (qX p0).bind fun b =>
    some b
   else
    some false
  else
   some false).bind fun c =>
  some c
 else
  (zX p0.Op).bind fun d =>
  if d then
   ((qj p0.D).bind fun e =>
   if e then
    (qj p0.A).bind fun f =>
    if f then
     (qX p0).bind fun g =>
     some g
    else
     some false
   else
    some false).bind fun h =>
   some h
  else
   if (p0.Op == 12) then
    (if (p0.D == 0) then
     (qj p0.A).bind fun j =>
     if j then
      (qX p0).bind fun l =>
      some l
     else
      some false
    else
     some false).bind fun n =>
    some n
   else
    if (p0.Op == 13) then
     ((qj p0.D).bind fun q =>
     if q then
      if (p0.A == 0) then
       if (p0.B == 0) then
        if (p0.Imm == 0) then
         some true
        else
         some (p0.Imm == 1)
       else
        some false
      else
       some false
     else
      some false).bind fun v =>
     some v
    else
     if (p0.Op == 14) then
      ((qj p0.D).bind fun z =>
      if z then
       if (p0.A == 0) then
        if (p0.B == 0) then
         if decide (p0.Imm >= 0) then
          some (decide (p0.Imm <= 3))
         else
          some false
        else
         some false
       else
        some false
      else
       some false).bind fun C =>
      some C
     else
      if (p0.Op == 15) then
       some ((((decide (p0.D >= 0) && decide (p0.D <= 63)) && (p0.A == 0)) && (p0.B == 0)) && (p0.Imm == 0))
      else
       (jF p0.Op).bind fun E =>
       if E then
        (if decide (p0.D >= 0) then
         if decide (p0.D <= 63) then
          (qj p0.A).bind fun F =>
          if F then
           (qX p0).bind fun G =>
           some G
          else
           some false
         else
          some false
        else
         some false).bind fun H =>
        some H
       else
        if (p0.Op == 20) then
         (if decide (p0.D >= 1) then
          if decide (p0.D <= 63) then
           (qj p0.A).bind fun I =>
           if I then
            if (p0.B == 0) then
             if decide (p0.Imm >= 1) then
              some (decide (p0.Imm <= 255))
             else
              some false
            else
             some false
           else
            some false
          else
           some false
         else
          some false).bind fun J =>
         some J
        else
         if (p0.Op == 21) then
          some (((((p0.D == 0) && (p0.A == 0)) && (p0.B == 0)) && decide (p0.Imm >= 0)) && decide (p0.Imm <= 6))
         else
          if (p0.Op == 22) then
           (if (p0.D == 0) then
            (qj p0.A).bind fun K =>
            if K then
             if (p0.B == 0) then
              some (p0.Imm == 0)
             else
              some false
            else
             some false
           else
            some false).bind fun L =>
           some L
          else
           some false
def jG (p0 : zc) : Option (Int × Bool × Bool) :=
 (jM p0).bind fun a =>
 if (!a) then
  some (0, false, false)
 else
  if (p0.Op == 15) then
   some (w64 (p0.D + 1), true, false)
  else
   (jF p0.Op).bind fun b =>
   if b then
    some (w64 (p0.D + 1), true, true)
   else
    if (p0.Op == 20) then
     some (w64 (0 - p0.D), true, true)
    else
     some (0, false, (p0.Op != 22))
def xA (b : Nat) (again : ((List (List Int)) × Int) -> Option (List (List Int))) (a : (List (List Int)) × Int) : Option (List (List Int)) :=
 if decide (a.2 <= (b : Int)) then
  (idx a.1 a.2).bind fun c =>
  (room (c.length + ([(b : Int)]).length) 8).bind fun d =>
  again ((a.1.set (Int.toNat a.2) (c ++ [(b : Int)])), w64 (a.2 + 1))
 else
  some a.1
def xB (fu : Nat) (p0 : List zc) (a : Nat) (again : (List (List Int)) -> Option (List (List Int))) (b : (List (List Int))) : Option (List (List Int)) :=
 (idx p0 (a : Int)).bind fun c =>
 if (c.Op != 20) then
  again b
 else
  (loop (xA a) fu (b, w64 ((a : Int) - c.D))).bind fun d =>
  again d
def jx (fu : Nat) (p0 : List zc) : Option (List (List Int)) :=
 (mkLen ((p0).length : Int) 24).bind fun a =>
 (qQ (xB fu p0) (fun (b : (List (List Int))) => b) (p0).length 0 (List.replicate a [])).bind fun c =>
 some c
def zcR (p0 : List Int) (p1 : Int) (a : Nat) (again : Unit -> Option (Unit ⊕ Bool)) (c : Unit) : Option (Unit ⊕ Bool) :=
 (idx p0 (a : Int)).bind fun b =>
 if (b == p1) then
  some (.inr true)
 else
  again ()
def vd (p0 : List Int) (p1 : Int) : Option Bool :=
 (qQ (zcR p0 p1) (fun (b : Unit) => (.inl ())) (p0).length 0 ()).bind fun a => match a with
  | .inl c =>
   some false
  | .inr r => some r
def zaa (p1 : List (List Int)) (c : Nat) (d : Nat) (e : Nat) (again : (Int × Bool) -> Option (Int × Bool)) (a : Int × Bool) : Option (Int × Bool) :=
 (idx p1 (e : Int)).bind fun b =>
 (vd b (d : Int)).bind fun f =>
 if f then
  (vd b (c : Int)).bind fun g =>
  if g then
   again (w64 (a.1 + 1), a.2)
  else
   again (a.1, false)
 else
  again (a.1, a.2)
def zab (p0 : List zc) (p1 : List (List Int)) (a : Nat) (b : Nat) (again : Unit -> Option (Unit ⊕ (Int × Bool))) (f : Unit) : Option (Unit ⊕ (Int × Bool)) :=
 (idx p0 (b : Int)).bind fun e =>
 if (e.Op != 20) then
  again ()
 else
  (qQ (zaa p1 a b) (fun (c : Int × Bool) => (c.1, c.2)) (p0).length 0 (0, true)).bind fun d =>
  if (decide (d.1 > 0) && (!d.2)) then
   some (.inr ((a : Int), true))
  else
   again ()
def jl (p0 : List zc) (p1 : List (List Int)) (a : Nat) (again : Unit -> Option (Unit ⊕ (Int × Bool))) (d : Unit) : Option (Unit ⊕ (Int × Bool)) :=
 (idx p0 (a : Int)).bind fun b =>
 if (b.Op != 20) then
  again ()
 else
  ((room a 1).bind fun e =>
  qQ (zab p0 p1 a) (fun (f : Unit) => (.inl ())) a 0 ()).bind fun c => match c with
   | .inl g =>
    again ()
   | .inr r => some (.inr r)
def qK (fu : Nat) (p0 : List zc) (p1 : List (List Int)) : Option (Int × Bool) :=
 (qQ (jl p0 p1) (fun (b : Unit) => (.inl ())) (p0).length 0 ()).bind fun a => match a with
  | .inl c =>
   some (0, false)
  | .inr r => some r
def jn (p0 : List zc) (p1 : List (List Int)) (a : Nat) (d : Int × Bool × Bool) (again : Int -> Option (Unit ⊕ (Int × Bool))) (b : Int) : Option (Unit ⊕ (Int × Bool)) :=
 (idx p1 (w64 ((a : Int) + d.1))).bind fun e =>
 if decide (b < ((e).length : Int)) then
  (idx e b).bind fun c =>
  ((idx p1 (a : Int)).bind fun f =>
  (vd f c).bind fun g =>
  if (!g) then
   (idx p0 c).bind fun h =>
   some ((w64 ((a : Int) + d.1)) != (w64 (c - h.D)))
  else
   some false).bind fun j =>
  if j then
   some (.inr ((a : Int), true))
  else
   again (w64 (b + 1))
 else
  some (.inl ())
def jo (fu : Nat) (p0 : List zc) (p1 : List (List Int)) (b : Nat) (again : Unit -> Option (Unit ⊕ (Int × Bool))) (e : Unit) : Option (Unit ⊕ (Int × Bool)) :=
 (idx p0 (b : Int)).bind fun c =>
 (jG c).bind fun a =>
 if ((!a.2.1) || decide (a.1 < 0)) then
  again ()
 else
  (loop (jn p0 p1 b a) fu 0).bind fun d => match d with
   | .inl f =>
    again ()
   | .inr r => some (.inr r)
def qL (fu : Nat) (p0 : List zc) (p1 : List (List Int)) : Option (Int × Bool) :=
 (qQ (jo fu p0 p1) (fun (b : Unit) => (.inl ())) (p0).length 0 ()).bind fun a => match a with
  | .inl c =>
   some (0, false)
  | .inr r => some r
def xt (p0 : List zc) (p1 : List (List Int)) (b : Nat) (again : (Int × Int) -> Option Int) (a : Int × Int) : Option Int :=
 ((idx p1 (b : Int)).bind fun c =>
 if decide (a.2 < ((c).length : Int)) then
  some (decide (a.1 <= 256))
 else
  some false).bind fun d =>
 if d then
  (idx p1 (b : Int)).bind fun e =>
  (idx e a.2).bind fun f =>
  (idx p0 f).bind fun g =>
  again (w64 (a.1 * (w64 (g.Imm + 1))), w64 (a.2 + 1))
 else
  some a.1
def ve (fu : Nat) (p0 : List zc) (p1 : List (List Int)) (a : Nat) (again : Int -> Option Int) (b : Int) : Option Int :=
 (loop (xt p0 p1 a) fu (1, 0)).bind fun c =>
 again (w64 (b + c))
def xk (fu : Nat) (p0 : List zc) (p1 : List (List Int)) : Option Int :=
 (qQ (ve fu p0 p1) (fun (a : Int) => a) (p0).length 0 0).bind fun b =>
 some b
def xg (p0 : List zc) (a : Nat) (again : Unit -> Option (Unit ⊕ (Int × Int))) (e : Unit) : Option (Unit ⊕ (Int × Int)) :=
 (idx p0 (a : Int)).bind fun c =>
 (jM c).bind fun d =>
 if (!d) then
  some (.inr ((a : Int), 12))
 else
  (jG c).bind fun b =>
  if (b.2.1 && (decide ((w64 ((a : Int) + b.1)) < 0) || decide ((w64 ((a : Int) + b.1)) > (w64 (((p0).length : Int) - 1))))) then
   some (.inr ((a : Int), 30))
  else
   if (b.2.2 && ((w64 ((a : Int) + 1)) == ((p0).length : Int))) then
    some (.inr ((a : Int), 36))
   else
    again ()
def jp (fu : Nat) (p0 : List zc) : Option (Int × Int) :=
 if (((p0).length : Int) == 0) then
  some (0, 10)
 else
  if decide (((p0).length : Int) > 64) then
   some (0, 11)
  else
   (qQ (xg p0) (fun (f : Unit) => (.inl ())) (p0).length 0 ()).bind fun d => match d with
    | .inl g =>
     (jx fu p0).bind fun a =>
     (qK fu p0 a).bind fun b =>
     if b.2 then
      some (b.1, 31)
     else
      (qL fu p0 a).bind fun c =>
      if c.2 then
       some (c.1, 31)
      else
       (xk fu p0 a).bind fun e =>
       if decide (e > 256) then
        some (0, 32)
       else
        some (0, 0)
    | .inr r => some r
def xC (p0 : Int) (p1 : Int) : Option za :=
 some (za.mk 1 (zb.mk p0 p1) 0)
def jy (p0 : zc) (p1 : List za) : Option za :=
 if (p0.B == 8) then
  (xC (qf p0.Imm) (qf p0.Imm)).bind fun a =>
  some a
 else
  (idx p1 p0.B).bind fun b =>
  some b
def zQ (p0 : zb) : Option Bool :=
 some (!decide (p0.Hi < p0.Lo))
def jI (p0 : Int) (p1 : Int) (a : Nat) (again : (Int × Int) -> Option Int) (b : Int × Int) : Option Int :=
 again (bOr .u64 b.1 (zfS .u64 (ze2 .u64 (qf ((qf ((ze2 .u64 (zbx .u64 p0 (qf (a : Int))) 1) + (ze2 .u64 (zbx .u64 p1 (qf (a : Int))) 1))) + b.2)) 1) (qf (a : Int))), zbx .u64 (qf ((qf ((ze2 .u64 (zbx .u64 p0 (qf (a : Int))) 1) + (ze2 .u64 (zbx .u64 p1 (qf (a : Int))) 1))) + b.2)) 1)
def qH (p0 : Int) (p1 : Int) : Option Int :=
 (qQ (jI p0 p1) (fun (a : Int × Int) => a.1) 64 0 (0, 0)).bind fun b =>
 some b
def xT (p0 : Int) (p1 : Int) : Option Int :=
 (qH (zi8 .u64 18446744073709551615 p1) 1).bind fun a =>
 (qH p0 a).bind fun b =>
 some b
def xh (p1 : Int) (b : Nat) (again : (Int × Int) -> Option Int) (a : Int × Int) : Option Int :=
 (if ((ze2 .u64 (zbx .u64 p1 (qf (b : Int))) 1) == 1) then
  (qH a.2 a.1).bind fun c =>
  some c
 else
  some a.2).bind fun d =>
 (qH a.1 a.1).bind fun e =>
 again (e, d)
def vM (p0 : Int) (p1 : Int) : Option Int :=
 (qQ (xh p1) (fun (a : Int × Int) => a.2) 64 0 (p0, 0)).bind fun b =>
 some b
def qt (p0 : Int) (p1 : Int) (again : (Int × Int × Int) -> Option (Int × Int)) (a : Int × Int × Int) : Option (Int × Int) :=
 if decide (a.2.2 >= 0) then
  (nn (qf a.2.2)).bind fun c =>
  if (((zbx .u64 a.2.1 63) == 1) || decide ((bOr .u64 (zfS .u64 a.2.1 1) (ze2 .u64 (zbx .u64 p0 (qf a.2.2)) 1)) >= p1)) then
   (xT (bOr .u64 (zfS .u64 a.2.1 1) (ze2 .u64 (zbx .u64 p0 (qf a.2.2)) 1)) p1).bind fun b =>
   (nn (qf a.2.2)).bind fun d =>
   again (bOr .u64 a.1 (zfS .u64 1 (qf a.2.2)), b, w64 (a.2.2 - 1))
  else
   again (a.1, bOr .u64 (zfS .u64 a.2.1 1) (ze2 .u64 (zbx .u64 p0 (qf a.2.2)) 1), w64 (a.2.2 - 1))
 else
  some (a.1, a.2.1)
def jN (fu : Nat) (p0 : Int) (p1 : Int) : Option (Int × Int) :=
 (loop (qt p0 p1) fu (0, 0, 63)).bind fun a =>
 some (a.1, a.2)
def qx (p0 : Int) (p2 : Int) (again : (Int × Int) -> Option Int) (a : Int × Int) : Option Int :=
 if (decide (a.2 < p2) && decide (a.1 > 0)) then
  if (p0 == 9) then
   (qH a.1 a.1).bind fun b =>
   again (b, qf (a.2 + 1))
  else
   again (qf (a.1.tdiv 2), qf (a.2 + 1))
 else
  some a.1
def zL (fu : Nat) (p0 : Int) (p1 : Int) (p2 : Int) : Option (Int × Bool) :=
 if (p0 == 1) then
  (qH p1 p2).bind fun c =>
  some (c, true)
 else
  if (p0 == 2) then
   (xT p1 p2).bind fun d =>
   some (d, true)
  else
   if (p0 == 3) then
    (vM p1 p2).bind fun e =>
    some (e, true)
   else
    (if (p0 == 4) then
     some (p0 == 4)
    else
     some (p0 == 5)).bind fun f =>
    if f then
     (if decide (p2 > 0) then
      (jN fu p1 p2).bind fun a =>
      some (a.1, a.2)
     else
      some (0, p1)).bind fun b =>
     if (p0 == 4) then
      some (b.1, true)
     else
      some (b.2, true)
    else
     if (p0 == 6) then
      some (zi8 .u64 18446744073709551615 (bOr .u64 (zi8 .u64 18446744073709551615 p1) (zi8 .u64 18446744073709551615 p2)), true)
     else
      if (p0 == 7) then
       some (zi8 .u64 18446744073709551615 (ze2 .u64 (zi8 .u64 18446744073709551615 p1) (zi8 .u64 18446744073709551615 p2)), true)
      else
       if (p0 == 8) then
        some (bOr .u64 (zhj .u64 p1 p2) (zhj .u64 p2 p1), true)
       else
        (if (p0 == 9) then
         some (p0 == 9)
        else
         some (p0 == 10)).bind fun g =>
        if g then
         (loop (qx p0 p2) fu (p1, 0)).bind fun h =>
         some (h, true)
        else
         some (0, false)
def vN (p0 : Int) (p1 : Int) : Option Bool :=
 (if decide (p0 > 0) then
  (nz p0).bind fun b =>
  some (decide (p1 > (qf (Int.tdiv 18446744073709551615 p0))))
 else
  some false).bind fun a =>
 some a
def qY (p0 : Int) (again : Int -> Option Int) (a : Int) : Option Int :=
 if decide (a < p0) then
  again (qf ((qf (2 * a)) + 1))
 else
  some a
def je (fu : Nat) (p0 : Int) : Option Int :=
 (loop (qY p0) fu 0).bind fun a =>
 some a
def qo (p1 : Int) (again : (zb × Int) -> Option (zb ⊕ (zb × Bool))) (a : zb × Int) : Option (zb ⊕ (zb × Bool)) :=
 if (decide (a.2 < p1) && decide (a.1.Hi > 0)) then
  if decide (a.1.Hi > 9223372036854775807) then
   some (.inr ((zb.mk 0 0), false))
  else
   again ((zb.mk (qf (2 * a.1.Lo)) (qf (2 * a.1.Hi))), qf (a.2 + 1))
 else
  some (.inl a.1)
def qD (fu : Nat) (p0 : zb) (p1 : Int) : Option (zb × Bool) :=
 (loop (qo p1) fu (p0, 0)).bind fun a => match a with
  | .inl b =>
   some (b, true)
  | .inr r => some r
def qZ (p1 : Int) (again : (Int × Int) -> Option Int) (a : Int × Int) : Option Int :=
 if (decide (a.2 < p1) && decide (a.1 > 0)) then
  again (qf (a.1.tdiv 2), qf (a.2 + 1))
 else
  some a.1
def jH (fu : Nat) (p0 : Int) (p1 : Int) : Option Int :=
 (loop (qZ p1) fu (p0, 0)).bind fun a =>
 some a
def xR (fu : Nat) (p0 : Int) (p1 : zb) (p2 : zb) : Option (zb × Bool) :=
 (if decide (p0 < 1) then
  some true
 else
  if decide (p0 > 10) then
   some true
  else
   (zQ p1).bind fun c =>
   if (!c) then
    some true
   else
    (zQ p2).bind fun d =>
    some (!d)).bind fun e =>
 if e then
  some ((zb.mk 0 0), false)
 else
  if ((p1.Lo == p1.Hi) && (p2.Lo == p2.Hi)) then
   (zL fu p0 p1.Lo p2.Lo).bind fun a =>
   some ((zb.mk a.1 a.1), true)
  else
   if (p0 == 1) then
    if decide (p1.Hi > (qf (18446744073709551615 - p2.Hi))) then
     some ((zb.mk 0 18446744073709551615), true)
    else
     some ((zb.mk (qf (p1.Lo + p2.Lo)) (qf (p1.Hi + p2.Hi))), true)
   else
    if (p0 == 2) then
     if decide (p1.Lo < p2.Hi) then
      some ((zb.mk 0 18446744073709551615), true)
     else
      some ((zb.mk (qf (p1.Lo - p2.Hi)) (qf (p1.Hi - p2.Lo))), true)
    else
     if (p0 == 3) then
      (vN p1.Hi p2.Hi).bind fun f =>
      if f then
       some ((zb.mk 0 18446744073709551615), true)
      else
       some ((zb.mk (qf (p1.Lo * p2.Lo)) (qf (p1.Hi * p2.Hi))), true)
     else
      if (p0 == 4) then
       if (p2.Lo == 0) then
        some ((zb.mk 0 p1.Hi), true)
       else
        (nz p2.Hi).bind fun n =>
        (nz p2.Lo).bind fun q =>
        some ((zb.mk (qf (p1.Lo.tdiv p2.Hi)) (qf (p1.Hi.tdiv p2.Lo))), true)
      else
       if (p0 == 5) then
        if (p2.Lo == 0) then
         some ((zb.mk 0 p1.Hi), true)
        else
         if decide (p1.Hi < p2.Lo) then
          some (p1, true)
         else
          some ((zb.mk 0 (zb3 p1.Hi (qf (p2.Hi - 1)))), true)
       else
        if (p0 == 6) then
         some ((zb.mk 0 (zb3 p1.Hi p2.Hi)), true)
        else
         if (p0 == 7) then
          (je fu (zcC p1.Hi p2.Hi)).bind fun g =>
          some ((zb.mk (zcC p1.Lo p2.Lo) g), true)
         else
          if (p0 == 8) then
           (je fu (zcC p1.Hi p2.Hi)).bind fun h =>
           some ((zb.mk 0 h), true)
          else
           if (p0 == 9) then
            if (p2.Lo != p2.Hi) then
             some ((zb.mk 0 18446744073709551615), true)
            else
             (qD fu p1 p2.Lo).bind fun b =>
             if (!b.2) then
              some ((zb.mk 0 18446744073709551615), true)
             else
              some (b.1, true)
           else
            (jH fu p1.Lo p2.Hi).bind fun j =>
            (jH fu p1.Hi p2.Lo).bind fun l =>
            some ((zb.mk j l), true)
def zah  : Option za :=
 (xC 0 18446744073709551615).bind fun a =>
 some a
def jz (p0 : Int) : Option za :=
 some (za.mk 1 (zb.mk 0 p0) 0)
def zas (p0 : Int) : Option (za × Bool) :=
 (if (p0 == 0) then
  some (p0 == 0)
 else
  if (p0 == 4) then
   some (p0 == 4)
  else
   some (p0 == 5)).bind fun a =>
 if a then
  (jz 18446744073709551615).bind fun b =>
  some (b, true)
 else
  (if (p0 == 1) then
   some (p0 == 1)
  else
   if (p0 == 2) then
    some (p0 == 2)
   else
    some (p0 == 3)).bind fun c =>
  if c then
   (jz 1).bind fun d =>
   some (d, true)
  else
   if (p0 == 6) then
    (jz 0).bind fun e =>
    some (e, true)
   else
    some ((za.mk 0 (zb.mk 0 0) 0), false)
def xD (p0 : zb) (p1 : Int) : Option Bool :=
 ((zQ p0).bind fun a =>
 if a then
  if decide (p1 >= p0.Lo) then
   some (decide (p1 <= p0.Hi))
  else
   some false
 else
  some false).bind fun b =>
 some b
def vr (p0 : Int) (p1 : zb) (p2 : zb) (p3 : Bool) : Option (zb × Bool) :=
 (if decide (p0 < 16) then
  some true
 else
  if decide (p0 > 19) then
   some true
  else
   (zQ p1).bind fun a =>
   if (!a) then
    some true
   else
    (zQ p2).bind fun b =>
    some (!b)).bind fun c =>
 if c then
  some ((zb.mk 0 0), false)
 else
  if (p2.Lo != p2.Hi) then
   some (p1, true)
  else
   if (((p0 == 18) && p3) || ((p0 == 19) && (!p3))) then
    if decide (p1.Lo >= p2.Lo) then
     some ((zb.mk 0 0), false)
    else
     some ((zb.mk p1.Lo (zb3 p1.Hi (qf (p2.Lo - 1)))), true)
   else
    if decide (p0 >= 18) then
     if decide (p1.Hi < p2.Lo) then
      some ((zb.mk 0 0), false)
     else
      some ((zb.mk (zcC p1.Lo p2.Lo) p1.Hi), true)
    else
     if (((p0 == 16) && p3) || ((p0 == 17) && (!p3))) then
      (xD p1 p2.Lo).bind fun d =>
      if (!d) then
       some ((zb.mk 0 0), false)
      else
       some (p2, true)
     else
      if ((p1.Lo == p2.Lo) && (p1.Hi == p2.Lo)) then
       some ((zb.mk 0 0), false)
      else
       if (p1.Lo == p2.Lo) then
        some ((zb.mk (qf (p2.Lo + 1)) p1.Hi), true)
       else
        if (p1.Hi == p2.Lo) then
         some ((zb.mk p1.Lo (qf (p2.Lo - 1))), true)
        else
         some (p1, true)
def zZ (fu : Nat) (p0 : zj) (p1 : Int) (p2 : List za) (p3 : Bool) : Option ((List za) × Bool) :=
 (idx p0.Co p1).bind fun a =>
 (room (([] : List za).length + p2.length) 32).bind fun E =>
 if (a.Op == 0) then
  (jy a p2).bind fun e =>
  (idx (([] : List za) ++ p2) a.D).bind fun F =>
  some (((([] : List za) ++ p2).set (Int.toNat a.D) e), true)
 else
  (zX a.Op).bind fun f =>
  if f then
   ((idx p2 a.A).bind fun g =>
   (jy a p2).bind fun h =>
   (xR fu a.Op g.Sp h.Sp).bind fun j =>
   some j.1).bind fun c =>
   (xC c.Lo c.Hi).bind fun l =>
   (idx (([] : List za) ++ p2) a.D).bind fun G =>
   some (((([] : List za) ++ p2).set (Int.toNat a.D) l), true)
  else
   if ((a.Op == 11) || (a.Op == 13)) then
    zah.bind fun n =>
    (idx (([] : List za) ++ p2) a.D).bind fun H =>
    some (((([] : List za) ++ p2).set (Int.toNat a.D) n), true)
   else
    if (a.Op == 14) then
     (idx (([] : List za) ++ p2) a.D).bind fun I =>
     some (((([] : List za) ++ p2).set (Int.toNat a.D) (za.mk 2 (zb.mk 0 0) a.Imm)), true)
    else
     if (a.Op == 21) then
      (zas a.Imm).bind fun q =>
      (idx (([] : List za) ++ p2) 0).bind fun J =>
      some (((([] : List za) ++ p2).set (Int.toNat 0) q.1), true)
     else
      (jF a.Op).bind fun v =>
      if v then
       ((idx p2 a.A).bind fun z =>
       (jy a p2).bind fun B =>
       (vr a.Op z.Sp B.Sp p3).bind fun d =>
       some (d.1, d.2)).bind fun b =>
       if (!b.2) then
        some (([] : List za), false)
       else
        (xC b.1.Lo b.1.Hi).bind fun C =>
        (idx (([] : List za) ++ p2) a.A).bind fun K =>
        some (((([] : List za) ++ p2).set (Int.toNat a.A) C), true)
      else
       some ((([] : List za) ++ p2), true)
def qv (fu : Nat) (p0 : zj) (p1 : Int) (p2 : List (List za)) (again : ((List (List za)) × Int) -> Option (List (List za))) (a : (List (List za)) × Int) : Option (List (List za)) :=
 if decide (a.2 < p1) then
  (idx p2 a.2).bind fun c =>
  if (((c).length : Int) == 0) then
   again (a.1, w64 (a.2 + 1))
  else
   (idx p0.Co a.2).bind fun g =>
   (jG g).bind fun d =>
   (if (d.2.1 && ((w64 (a.2 + d.1)) == p1)) then
    (zZ fu p0 a.2 c true).bind fun e =>
    if e.2 then
     (room (a.1.length + ([e.1]).length) 24).bind fun h =>
     some (a.1 ++ [e.1])
    else
     some a.1
   else
    some a.1).bind fun b =>
   if (d.2.2 && ((w64 (a.2 + 1)) == p1)) then
    (zZ fu p0 a.2 c false).bind fun f =>
    if f.2 then
     (room (b.length + ([f.1]).length) 24).bind fun j =>
     again ((b ++ [f.1]), w64 (a.2 + 1))
    else
     again (b, w64 (a.2 + 1))
   else
    again (b, w64 (a.2 + 1))
 else
  some a.1
def jO (fu : Nat) (p0 : zj) (p1 : Int) (p2 : List (List za)) : Option (List (List za)) :=
 (if (p1 == 0) then
  (mkLen 8 32).bind fun a =>
  (room (([] : List (List za)).length + ([(List.replicate a (za.mk 0 (zb.mk 0 0) 0))]).length) 24).bind fun d =>
  some (([] : List (List za)) ++ [(List.replicate a (za.mk 0 (zb.mk 0 0) 0))])
 else
  some ([] : List (List za))).bind fun b =>
 (loop (qv fu p0 p1 p2) fu (b, 0)).bind fun c =>
 some c
def qn (p0 : List zb) (c : Nat) (again : zb -> Option (zb ⊕ (zb × Bool))) (b : zb) : Option (zb ⊕ (zb × Bool)) :=
 (idx p0 (c : Int)).bind fun a =>
 (zQ a).bind fun e =>
 if (!e) then
  some (.inr ((zb.mk 0 0), false))
 else
  (if ((c : Int) == 0) then
   some true
  else
   some (decide (a.Lo < b.Lo))).bind fun f =>
  (if f then
   some a.Lo
  else
   some b.Lo).bind fun d =>
  (if ((c : Int) == 0) then
   some true
  else
   some (decide (a.Hi > b.Hi))).bind fun g =>
  if g then
   again (zb.mk d a.Hi)
  else
   again (zb.mk d b.Hi)
def zai (p0 : List zb) : Option (zb × Bool) :=
 (qQ (qn p0) (fun (a : zb) => (.inl a)) (p0).length 0 (zb.mk 0 0)).bind fun b => match b with
  | .inl c =>
   some (c, decide (((p0).length : Int) > 0))
  | .inr r => some r
def jP (p0 : List za) (b : Nat) (again : (List zb) -> Option ((List zb) ⊕ za)) (c : (List zb)) : Option ((List zb) ⊕ za) :=
 ((idx p0 (b : Int)).bind fun a =>
 (idx p0 0).bind fun d =>
 if (a.Ki != d.Ki) then
  some true
 else
  if (a.Ki == 2) then
   some (a.Map != d.Map)
  else
   some false).bind fun f =>
 if f then
  some (.inr (za.mk 0 (zb.mk 0 0) 0))
 else
  (idx p0 (b : Int)).bind fun e =>
  (room (c.length + ([e.Sp]).length) 16).bind fun g =>
  again (c ++ [e.Sp])
def vt (p0 : List za) : Option za :=
 (qQ (jP p0) (fun (c : (List zb)) => (.inl c)) (p0).length 0 ([] : List zb)).bind fun d => match d with
  | .inl e =>
   (idx p0 0).bind fun a =>
   if (a.Ki == 1) then
    (zai e).bind fun b =>
    (xC b.1.Lo b.1.Hi).bind fun f =>
    some f
   else
    some a
  | .inr r => some r
def vu (p0 : zc) : Option (Int × Bool) :=
 (jM p0).bind fun a =>
 if (!a) then
  some (0, false)
 else
  if ((decide (p0.Op <= 11) || (p0.Op == 13)) || (p0.Op == 14)) then
   some (p0.D, true)
  else
   some (0, (p0.Op == 21))
def xU (c : (List (List za))) (d : Nat) (e : Nat) (again : (List za) -> Option (List za)) (a : (List za)) : Option (List za) :=
 (idx c (e : Int)).bind fun f =>
 (idx f (d : Int)).bind fun b =>
 (room (a.length + ([b]).length) 32).bind fun g =>
 again (a ++ [b])
def jq (b : (List (List za))) (a : Nat) (again : (List za) -> Option (List za)) (c : (List za)) : Option (List za) :=
 (qQ (xU b a) (fun (d : (List za)) => d) (b).length 0 ([] : List za)).bind fun e =>
 (vt e).bind fun f =>
 (idx c (a : Int)).bind fun g =>
 again (c.set (Int.toNat (a : Int)) f)
def xu (p0 : zj) (d : Nat) (again : ((List za) × Int) -> Option (List za)) (a : (List za) × Int) : Option (List za) :=
 if decide (a.2 <= (d : Int)) then
  (idx p0.Co a.2).bind fun e =>
  (vu e).bind fun b =>
  (if b.2 then
   (idx a.1 b.1).bind fun f =>
   some (f.Ki == 1)
  else
   some false).bind fun g =>
  (if g then
   zah.bind fun h =>
   (idx a.1 b.1).bind fun n =>
   some (a.1.set (Int.toNat b.1) h)
  else
   some a.1).bind fun c =>
  (if b.2 then
   (idx c b.1).bind fun j =>
   some (j.Ki == 2)
  else
   some false).bind fun l =>
  if l then
   (idx c b.1).bind fun q =>
   again ((c.set (Int.toNat b.1) (za.mk 0 (zb.mk 0 0) 0)), w64 (a.2 + 1))
  else
   again (c, w64 (a.2 + 1))
 else
  some a.1
def jr (fu : Nat) (p0 : zj) (p1 : Int) (a : Nat) (again : (List za) -> Option (List za)) (b : (List za)) : Option (List za) :=
 ((idx p0.Co (a : Int)).bind fun c =>
 if (c.Op != 20) then
  some true
 else
  some ((w64 ((a : Int) - c.D)) != p1)).bind fun d =>
 if d then
  again b
 else
  (loop (xu p0 a) fu (b, p1)).bind fun e =>
  again e
def xw (fu : Nat) (p0 : zj) (p1 : Int) (p2 : List (List za)) : Option (List za) :=
 (jO fu p0 p1 p2).bind fun a =>
 if (((a).length : Int) == 0) then
  some ([] : List za)
 else
  (mkLen 8 32).bind fun b =>
  (qQ (jq a) (fun (c : (List za)) => c) 8 0 (List.replicate b (za.mk 0 (zb.mk 0 0) 0))).bind fun d =>
  (qQ (jr fu p0 p1) (fun (e : (List za)) => e) (p0.Co).length 0 d).bind fun f =>
  some f
def vv (p0 : zc) : Option Bool :=
 ((jM p0).bind fun a =>
 if a then
  if decide (p0.Op <= 12) then
   some true
  else
   (jF p0.Op).bind fun b =>
   some b
 else
  some false).bind fun c =>
 some c
def zaj (p0 : Int) : Option (List za) :=
 (if (p0 == 0) then
  some (p0 == 0)
 else
  if (p0 == 1) then
   some (p0 == 1)
  else
   some (p0 == 3)).bind fun a =>
 if a then
  (jz 18446744073709551615).bind fun b =>
  some ([(za.mk 2 (zb.mk 0 0) 0), b])
 else
  (if (p0 == 2) then
   some (p0 == 2)
  else
   some (p0 == 4)).bind fun c =>
  if c then
   (jz 18446744073709551615).bind fun d =>
   (jz 18446744073709551615).bind fun e =>
   some ([(za.mk 2 (zb.mk 0 0) 0), d, e])
  else
   if (p0 == 5) then
    (jz 15).bind fun f =>
    some ([f])
   else
    if (p0 == 6) then
     (jz 18446744073709551615).bind fun g =>
     some ([g])
    else
     some ([] : List za)
def xH (p0 : zb) (p1 : zb) : Option Bool :=
 ((zQ p0).bind fun a =>
 if a then
  (zQ p1).bind fun b =>
  if b then
   (xD p1 p0.Lo).bind fun c =>
   if c then
    (xD p1 p0.Hi).bind fun d =>
    some d
   else
    some false
  else
   some false
 else
  some false).bind fun e =>
 some e
def zaQ (p1 : List za) (d : (List za)) (b : Nat) (again : Unit -> Option (Unit ⊕ Int)) (g : Unit) : Option (Unit ⊕ Int) :=
 (idx p1 (b : Int)).bind fun c =>
 (idx d (b : Int)).bind fun a =>
 if (c.Ki != a.Ki) then
  some (.inr 33)
 else
  (if (a.Ki == 1) then
   (xH c.Sp a.Sp).bind fun e =>
   some (!e)
  else
   some false).bind fun f =>
  if f then
   some (.inr 35)
  else
   again ()
def vO (p0 : Int) (p1 : List za) : Option Int :=
 if (decide (p0 < 0) || decide (p0 > 6)) then
  some 34
 else
  (zaj p0).bind fun a =>
  if (((a).length : Int) != ((p1).length : Int)) then
   some 2
  else
   (qQ (zaQ p1 a) (fun (c : Unit) => (.inl ())) (a).length 0 ()).bind fun b => match b with
    | .inl d =>
     some 0
    | .inr r => some r
def zak (p0 : za) (p1 : za) : Option Bool :=
 if (p1.Ki == 0) then
  some true
 else
  if (p0.Ki != p1.Ki) then
   some false
  else
   if (p1.Ki == 1) then
    (xH p0.Sp p1.Sp).bind fun a =>
    some a
   else
    some (p0.Map == p1.Map)
def xv (p2 : List za) (p3 : List za) (a : Nat) (again : Unit -> Option (Unit ⊕ Int)) (e : Unit) : Option (Unit ⊕ Int) :=
 (idx p2 (a : Int)).bind fun b =>
 (idx p3 (a : Int)).bind fun c =>
 (zak b c).bind fun d =>
 if (!d) then
  some (.inr 33)
 else
  again ()
def xl (p0 : zj) (p1 : Int) (p2 : List za) (p3 : List za) : Option Int :=
 (idx p0.Co p1).bind fun a =>
 (vv a).bind fun c =>
 (if c then
  (jy a p2).bind fun d =>
  some d
 else
  some (za.mk 0 (zb.mk 0 0) 0)).bind fun b =>
 ((if (a.Op == 0) then
  if (b.Ki == 0) then
   some (.inr 33)
  else
   some (.inl ())
 else
  if ((a.Op == 13) || (a.Op == 15)) then
   some (.inl ())
  else
   if (a.Op == 14) then
    if decide (a.Imm >= ((p0.Ms).length : Int)) then
     some (.inr 35)
    else
     some (.inl ())
   else
    if (a.Op == 21) then
     (zaj a.Imm).bind fun e =>
     (cut p2 1 (w64 (1 + ((e).length : Int)))).bind fun f =>
     (vO a.Imm f).bind fun g =>
     some (.inr g)
    else
     if (a.Op == 11) then
      if (b.Ki != 1) then
       some (.inr 33)
      else
       some (.inl ())
     else
      if ((a.Op == 20) || (a.Op == 22)) then
       (idx p2 a.A).bind fun h =>
       if (h.Ki != 1) then
        some (.inr 33)
       else
        some (.inl ())
      else
       ((idx p2 a.A).bind fun j =>
       if (j.Ki != 1) then
        some true
       else
        some (b.Ki != 1)).bind fun l =>
       if l then
        some (.inr 33)
       else
        some (.inl ())) : Option (Unit ⊕ Int)).bind fun n => match n with
  | .inl v =>
   if (((a.Op == 11) || (a.Op == 12)) && decide (b.Sp.Hi > 15)) then
    some 35
   else
    if (a.Op == 20) then
     (qQ (xv p2 p3) (fun (z : Unit) => (.inl ())) 8 0 ()).bind fun q => match q with
      | .inl B =>
       some 0
      | .inr r => some r
    else
     some 0
  | .inr r => some r
def qa (fu : Nat) (p0 : zj) (b : Nat) (again : (List (List za)) -> Option ((List (List za)) ⊕ ((List (List za)) × Int × Int))) (c : (List (List za))) : Option ((List (List za)) ⊕ ((List (List za)) × Int × Int)) :=
 (xw fu p0 (b : Int) c).bind fun a =>
 (room (c.length + ([a]).length) 24).bind fun h =>
 if (((a).length : Int) == 0) then
  again (c ++ [a])
 else
  (idx p0.Co (b : Int)).bind fun d =>
  if (d.Op == 20) then
   (idx (c ++ [a]) (w64 ((b : Int) - d.D))).bind fun g =>
   (apart (w64 ((b : Int) - d.D)) (c.length : Int)).bind fun j =>
   (xl p0 (b : Int) a g).bind fun e =>
   if (e != 0) then
    some (.inr (([] : List (List za)), (b : Int), e))
   else
    again (c ++ [a])
  else
   (xl p0 (b : Int) a a).bind fun f =>
   if (f != 0) then
    some (.inr (([] : List (List za)), (b : Int), f))
   else
    again (c ++ [a])
def ja (fu : Nat) (p0 : zj) : Option ((List (List za)) × Int × Int) :=
 (jd fu p0.Ms).bind fun b =>
 if (!b) then
  some (([] : List (List za)), 0, 2)
 else
  (jp fu p0.Co).bind fun a =>
  if (a.2 != 0) then
   some (([] : List (List za)), a.1, a.2)
  else
   (qQ (qa fu p0) (fun (c : (List (List za))) => (.inl c)) (p0.Co).length 0 ([] : List (List za))).bind fun d => match d with
    | .inl e =>
     some (e, 0, 0)
    | .inr r => some r
def jQ (p0 : zi) : Option zi :=
 (room (p0.Ak.length + ([(zp.mk 2 0 0)]).length) 24).bind fun a =>
 some (zi.mk (p0.Ak ++ [(zp.mk 2 0 0)]))
def jA (fu : Nat) (p0 : zj) (p1 : qw) (p2 : zi) : Option ((Option ze) × Int × zi) :=
 (ja fu p0).bind fun a =>
 if (a.2.2 != 0) then
  some (none, a.2.2, p2)
 else
  (jQ p2).bind fun b =>
  ((mkLen 8 8).bind fun c =>
  (mkLen 64 8).bind fun d =>
  some (ze.mk p0 p1 (List.replicate c 0) (List.replicate d 0) 0 0 0)).bind fun e =>
  some ((some e), 0, b)
def qd (fu : Nat) (p0 : zd) (p1 : Int) (p2 : Int) (p3 : zj) : Option (Int × zd) :=
 if (p0.Mode != 1) then
  some (41, p0)
 else
  (jA fu p3 p0.Ev.Ev p0.Book).bind fun a =>
  zhf a.1
   (if (a.2.1 != 0) then
    some (a.2.1, (zd.mk a.2.2 p0.Told p0.Mode p0.Hook p0.Ev p0.Version p0.Prog p0.Calls p0.M))
   else
    some (0, (zd.mk a.2.2 p0.Told 2 p0.Hook p0.Ev p1 p2 0 none)))
   (fun b =>
   if (a.2.1 != 0) then
    some (a.2.1, (zd.mk a.2.2 p0.Told p0.Mode p0.Hook p0.Ev p0.Version p0.Prog p0.Calls p0.M))
   else
    some (0, (zd.mk a.2.2 p0.Told 2 p0.Hook p0.Ev p1 p2 0 (some b))))
def zbT (p0 : zt) (p1 : List Int) (a : Nat) (again : Unit -> Option (Unit ⊕ (Int × zt))) (d : Unit) : Option (Unit ⊕ (Int × zt)) :=
 (idx p1 (a : Int)).bind fun b =>
 (za5 b).bind fun c =>
 if (!c) then
  some (.inr (2, p0))
 else
  again ()
def zbU (p1 : List Int) (c : Nat) (again : zt -> Option zt) (a : zt) : Option zt :=
 (idx p1 (c : Int)).bind fun d =>
 (ain 4 d).bind fun b =>
 again (zt.mk (jf a.hooks b (zu.mk (a.hooks b).Runs (qf ((a.hooks b).Missed + 1)) (a.hooks b).Steps (a.hooks b).Calls (a.hooks b).Sum)))
def vw (p0 : zt) (p1 : List Int) : Option (Int × zt) :=
 (qQ (zbT p0 p1) (fun (d : Unit) => (.inl ())) (p1).length 0 ()).bind fun a => match a with
  | .inl e =>
   (qQ (zbU p1) (fun (b : zt) => b) (p1).length 0 p0).bind fun c =>
   some (0, c)
  | .inr r => some r
def vx (p0 : zg) : Option (Int × zg) :=
 if (p0.mode_ != 1) then
  some (41, p0)
 else
  (vw p0.Stats ([p0.job.hook])).bind fun a =>
  (xb (zg.mk p0.Scratch a.2 p0.mode_ p0.job)).bind fun b =>
  some (0, b)
def zbV (p0 : List zm) (p1 : List Int) (b : Nat) (again : Unit -> Option (Unit ⊕ ((List zm) × Int))) (d : Unit) : Option (Unit ⊕ ((List zm) × Int)) :=
 ((idx p1 (b : Int)).bind fun a =>
 if decide (a < 0) then
  some true
 else
  some (decide (a > 3))).bind fun c =>
 if c then
  some (.inr (p0, 2))
 else
  again ()
def zbW (p1 : List Int) (c : Nat) (again : (List zm) -> Option (List zm)) (a : (List zm)) : Option (List zm) :=
 (idx p1 (c : Int)).bind fun b =>
 (room (a.length + ([(zm.mk b true 0 0 0)]).length) 40).bind fun d =>
 again (a ++ [(zm.mk b true 0 0 0)])
def vy (p0 : List zm) (p1 : List Int) : Option ((List zm) × Int) :=
 (qQ (zbV p0 p1) (fun (d : Unit) => (.inl ())) (p1).length 0 ()).bind fun a => match a with
  | .inl e =>
   (qQ (zbW p1) (fun (b : (List zm)) => b) (p1).length 0 p0).bind fun c =>
   some (c, 0)
  | .inr r => some r
def qE (p0 : zd) : Option zd :=
 some (zd.mk p0.Book p0.Told 0 0 (jg.mk 0 (qw.mk 0 0)) 0 0 p0.Calls p0.M)
def xd (p0 : zd) : Option (Int × zd) :=
 if (p0.Mode != 1) then
  some (41, p0)
 else
  (vy p0.Told ([p0.Hook])).bind fun a =>
  (qE (zd.mk p0.Book a.1 p0.Mode p0.Hook p0.Ev p0.Version p0.Prog p0.Calls p0.M)).bind fun b =>
  some (0, b)
def zz (p0 : zi) (p1 : Int) (again : (Int × Int) -> Option Int) (a : Int × Int) : Option Int :=
 if decide (a.2 < ((p0.Ak).length : Int)) then
  ((idx p0.Ak a.2).bind fun b =>
  if (b.Ki == 3) then
   some (b.At == p1)
  else
   some false).bind fun c =>
  if c then
   (idx p0.Ak a.2).bind fun d =>
   again (qf (a.1 + d.N), w64 (a.2 + 1))
  else
   again (a.1, w64 (a.2 + 1))
 else
  some a.1
def zS (fu : Nat) (p0 : zi) (p1 : Int) : Option (Int × Int) :=
 if (decide (p1 < 0) || decide (p1 > 15)) then
  some (0, 35)
 else
  (loop (zz p0 p1) fu (0, 0)).bind fun a =>
  some (a, 0)
def zI (fu : Nat) (p0 : zi) (p1 : Int) : Option (Int × Int × zi) :=
 if (decide (p1 < 0) || decide (p1 > 15)) then
  some (0, 35, p0)
 else
  (room (p0.Ak.length + ([(zp.mk 3 p1 1)]).length) 24).bind fun b =>
  (zS fu (zi.mk (p0.Ak ++ [(zp.mk 3 p1 1)])) p1).bind fun a =>
  some (a.1, a.2, (zi.mk (p0.Ak ++ [(zp.mk 3 p1 1)])))
def jw (p0 : ze) (g0 : zi) : Option ze :=
 some (ze.mk p0.M p0.E p0.Rg p0.Tu (w64 (p0.At + 1)) p0.Steps p0.Mode)
def qp (fu : Nat) (p0 : ze) (p1 : zc) (p2 : zA) (g0 : zi) : Option (zA × ze × zi) :=
 if decide (p1.Imm <= 4) then
  (idx p0.Rg 1).bind fun b =>
  (idx p0.M.Ms b).bind fun c =>
  (idx p0.Rg 2).bind fun d =>
  (if ((p1.Imm == 2) || (p1.Imm == 4)) then
   (idx p0.Rg 3).bind fun e =>
   some e
  else
   some 0).bind fun f =>
  some ((zA.mk 2 p2.Pc (qr.mk c p1.Imm d f) p2.Val), (ze.mk p0.M p0.E p0.Rg p0.Tu p0.At p0.Steps 1), g0)
 else
  if (p1.Imm == 5) then
   (idx p0.Rg 1).bind fun g =>
   (zI fu g0 (w64 g)).bind fun a =>
   (idx p0.Rg 0).bind fun n =>
   (jw (ze.mk p0.M p0.E (p0.Rg.set (Int.toNat 0) a.1) p0.Tu p0.At p0.Steps p0.Mode) a.2.2).bind fun h =>
   some ((zA.mk p2.Ki p2.Pc p2.It a.1), h, a.2.2)
  else
   (idx p0.Rg 1).bind fun j =>
   (idx p0.Rg 0).bind fun q =>
   (jw (ze.mk p0.M p0.E (p0.Rg.set (Int.toNat 0) 0) p0.Tu p0.At p0.Steps p0.Mode) g0).bind fun l =>
   some ((zA.mk 3 p2.Pc p2.It j), l, g0)
def qy (p0 : ze) (p1 : zc) : Option Int :=
 if (p1.B == 8) then
  some (qf p1.Imm)
 else
  (idx p0.Rg p1.B).bind fun a =>
  some a
def xV (p0 : Int) (p1 : Int) (p2 : Int) : Option (Bool × Bool) :=
 if (p0 == 16) then
  some ((p1 == p2), true)
 else
  if (p0 == 17) then
   some ((!(p1 == p2)), true)
  else
   if (p0 == 18) then
    some (decide (p1 < p2), true)
   else
    if (p0 == 19) then
     some ((!decide (p1 < p2)), true)
    else
     some (false, false)
def xp (p0 : ze) (p1 : zc) (g0 : zi) : Option (Bool × ze) :=
 if (p1.Op == 15) then
  some (true, p0)
 else
  if (p1.Op == 20) then
   ((idx p0.Rg p1.A).bind fun a =>
   if decide (a > 0) then
    (idx p0.Tu p0.At).bind fun b =>
    some (decide (b < p1.Imm))
   else
    some false).bind fun c =>
   if c then
    (idx (ze.mk p0.M p0.E p0.Rg p0.Tu p0.At p0.Steps p0.Mode).Tu (ze.mk p0.M p0.E p0.Rg p0.Tu p0.At p0.Steps p0.Mode).At).bind fun d =>
    some (true, (ze.mk (ze.mk p0.M p0.E p0.Rg p0.Tu p0.At p0.Steps p0.Mode).M (ze.mk p0.M p0.E p0.Rg p0.Tu p0.At p0.Steps p0.Mode).E (ze.mk p0.M p0.E p0.Rg p0.Tu p0.At p0.Steps p0.Mode).Rg ((ze.mk p0.M p0.E p0.Rg p0.Tu p0.At p0.Steps p0.Mode).Tu.set (Int.toNat (ze.mk p0.M p0.E p0.Rg p0.Tu p0.At p0.Steps p0.Mode).At) (w64 (d + 1))) (ze.mk p0.M p0.E p0.Rg p0.Tu p0.At p0.Steps p0.Mode).At (ze.mk p0.M p0.E p0.Rg p0.Tu p0.At p0.Steps p0.Mode).Steps (ze.mk p0.M p0.E p0.Rg p0.Tu p0.At p0.Steps p0.Mode).Mode))
   else
    (idx (ze.mk p0.M p0.E p0.Rg p0.Tu p0.At p0.Steps p0.Mode).Tu (ze.mk p0.M p0.E p0.Rg p0.Tu p0.At p0.Steps p0.Mode).At).bind fun h =>
    some (false, (ze.mk (ze.mk p0.M p0.E p0.Rg p0.Tu p0.At p0.Steps p0.Mode).M (ze.mk p0.M p0.E p0.Rg p0.Tu p0.At p0.Steps p0.Mode).E (ze.mk p0.M p0.E p0.Rg p0.Tu p0.At p0.Steps p0.Mode).Rg ((ze.mk p0.M p0.E p0.Rg p0.Tu p0.At p0.Steps p0.Mode).Tu.set (Int.toNat (ze.mk p0.M p0.E p0.Rg p0.Tu p0.At p0.Steps p0.Mode).At) 0) (ze.mk p0.M p0.E p0.Rg p0.Tu p0.At p0.Steps p0.Mode).At (ze.mk p0.M p0.E p0.Rg p0.Tu p0.At p0.Steps p0.Mode).Steps (ze.mk p0.M p0.E p0.Rg p0.Tu p0.At p0.Steps p0.Mode).Mode))
  else
   (idx p0.Rg p1.A).bind fun e =>
   (qy (ze.mk p0.M p0.E p0.Rg p0.Tu p0.At p0.Steps p0.Mode) p1).bind fun f =>
   (xV p1.Op e f).bind fun g =>
   some (g.1, (ze.mk p0.M p0.E p0.Rg p0.Tu p0.At p0.Steps p0.Mode))
def zE (p0 : zi) (p1 : Int) (again : Int -> Option (Unit ⊕ (Int × Int))) (b : Int) : Option (Unit ⊕ (Int × Int)) :=
 if decide (b >= 0) then
  (idx p0.Ak b).bind fun a =>
  if (a.Ki == 2) then
   some (.inr (0, 0))
  else
   (if (a.Ki == 1) then
    some (a.At == p1)
   else
    some false).bind fun c =>
   if c then
    some (.inr (a.N, 0))
   else
    again (w64 (b - 1))
 else
  some (.inl ())
def zF (fu : Nat) (p0 : zi) (p1 : Int) : Option (Int × Int) :=
 if (decide (p1 < 0) || decide (p1 > 15)) then
  some (0, 35)
 else
  (loop (zE p0 p1) fu (w64 (((p0.Ak).length : Int) - 1))).bind fun a => match a with
   | .inl b =>
    some (0, 0)
   | .inr r => some r
def qM (p0 : zi) (p1 : Int) (p2 : Int) : Option (Int × zi) :=
 if (decide (p1 < 0) || decide (p1 > 15)) then
  some (35, p0)
 else
  (room (p0.Ak.length + ([(zp.mk 1 p1 p2)]).length) 24).bind fun a =>
  some (0, (zi.mk (p0.Ak ++ [(zp.mk 1 p1 p2)])))
def qq (fu : Nat) (p0 : ze) (p1 : zc) (g0 : zi) : Option (ze × zi) :=
 if (p1.Op == 0) then
  (qy (ze.mk p0.M p0.E p0.Rg p0.Tu p0.At p0.Steps p0.Mode) p1).bind fun a =>
  (idx p0.Rg p1.D).bind fun n =>
  some ((ze.mk p0.M p0.E (p0.Rg.set (Int.toNat p1.D) a) p0.Tu p0.At p0.Steps p0.Mode), g0)
 else
  (zX p1.Op).bind fun b =>
  if b then
   (idx p0.Rg p1.A).bind fun c =>
   (qy (ze.mk p0.M p0.E p0.Rg p0.Tu p0.At p0.Steps p0.Mode) p1).bind fun d =>
   (zL fu p1.Op c d).bind fun e =>
   (idx p0.Rg p1.D).bind fun q =>
   some ((ze.mk p0.M p0.E (p0.Rg.set (Int.toNat p1.D) e.1) p0.Tu p0.At p0.Steps p0.Mode), g0)
  else
   if (p1.Op == 11) then
    (qy (ze.mk p0.M p0.E p0.Rg p0.Tu p0.At p0.Steps p0.Mode) p1).bind fun f =>
    (zF fu g0 (w64 f)).bind fun g =>
    (idx p0.Rg p1.D).bind fun v =>
    some ((ze.mk p0.M p0.E (p0.Rg.set (Int.toNat p1.D) g.1) p0.Tu p0.At p0.Steps p0.Mode), g0)
   else
    if (p1.Op == 12) then
     (idx p0.Rg p1.A).bind fun h =>
     (qy (ze.mk p0.M p0.E p0.Rg p0.Tu p0.At p0.Steps p0.Mode) p1).bind fun j =>
     (qM g0 (w64 j) h).bind fun l =>
     some ((ze.mk p0.M p0.E p0.Rg p0.Tu p0.At p0.Steps p0.Mode), l.2)
    else
     if ((p1.Op == 13) && (p1.Imm == 0)) then
      (idx p0.Rg p1.D).bind fun z =>
      some ((ze.mk p0.M p0.E (p0.Rg.set (Int.toNat p1.D) p0.E.A) p0.Tu p0.At p0.Steps p0.Mode), g0)
     else
      if (p1.Op == 13) then
       (idx p0.Rg p1.D).bind fun C =>
       some ((ze.mk p0.M p0.E (p0.Rg.set (Int.toNat p1.D) p0.E.B) p0.Tu p0.At p0.Steps p0.Mode), g0)
      else
       if (p1.Op == 14) then
        (idx p0.Rg p1.D).bind fun F =>
        some ((ze.mk p0.M p0.E (p0.Rg.set (Int.toNat p1.D) (qf p1.Imm)) p0.Tu p0.At p0.Steps p0.Mode), g0)
       else
        some (p0, g0)
def zT (fu : Nat) (p0 : ze) (g0 : zi) : Option (zA × ze × zi) :=
 (idx p0.M.Co p0.At).bind fun b =>
 if (p0.Mode == 1) then
  some ((zA.mk 5 p0.At (qr.mk 0 0 0 0) 0), (ze.mk p0.M p0.E p0.Rg p0.Tu p0.At p0.Steps p0.Mode), g0)
 else
  if (p0.Mode == 2) then
   (idx p0.Rg b.A).bind fun g =>
   some ((zA.mk 6 p0.At (qr.mk 0 0 0 0) g), (ze.mk p0.M p0.E p0.Rg p0.Tu p0.At p0.Steps p0.Mode), g0)
  else
   if (b.Op == 21) then
    (qp fu (ze.mk p0.M p0.E p0.Rg p0.Tu p0.At (w64 (p0.Steps + 1)) p0.Mode) b (zA.mk 1 p0.At (qr.mk 0 0 0 0) 0) g0).bind fun c =>
    some (c.1, c.2.1, c.2.2)
   else
    if (b.Op == 22) then
     (idx p0.Rg b.A).bind fun h =>
     some ((zA.mk 4 p0.At (qr.mk 0 0 0 0) h), (ze.mk p0.M p0.E p0.Rg p0.Tu p0.At (w64 (p0.Steps + 1)) 2), g0)
    else
     (jG b).bind fun d =>
     (if d.2.1 then
      (xp (ze.mk p0.M p0.E p0.Rg p0.Tu p0.At (w64 (p0.Steps + 1)) p0.Mode) b g0).bind fun f =>
      some (f.2, f.1)
     else
      some ((ze.mk p0.M p0.E p0.Rg p0.Tu p0.At (w64 (p0.Steps + 1)) p0.Mode), false)).bind fun a =>
     if a.2 then
      some ((zA.mk 1 p0.At (qr.mk 0 0 0 0) 0), (ze.mk a.1.M a.1.E a.1.Rg a.1.Tu (w64 (a.1.At + d.1)) a.1.Steps a.1.Mode), g0)
     else
      if (!d.2.1) then
       (qq fu a.1 b g0).bind fun e =>
       (jw e.1 e.2).bind fun j =>
       some ((zA.mk 1 p0.At (qr.mk 0 0 0 0) 0), j, e.2)
      else
       (jw a.1 g0).bind fun l =>
       some ((zA.mk 1 p0.At (qr.mk 0 0 0 0) 0), l, g0)
def vP (p0 : List zm) (p1 : Int) (p2 : Int) (p3 : Int) (p4 : Int) : Option ((List zm) × Int) :=
 if (decide (p1 < 0) || decide (p1 > 3)) then
  some (p0, 2)
 else
  (room (p0.length + ([(zm.mk p1 false p2 p3 p4)]).length) 40).bind fun a =>
  some ((p0 ++ [(zm.mk p1 false p2 p3 p4)]), 0)
def zV (fu : Nat) (p0 : zd) : Option (zA × Bool × zd) :=
 if (p0.Mode != 2) then
  some ((zA.mk 0 0 (qr.mk 0 0 0 0) 0), false, p0)
 else
  p0.M.bind fun d =>
  (zT fu d p0.Book).bind fun b =>
  (if (b.1.Ki == 2) then
   some (zd.mk b.2.2 p0.Told 3 p0.Hook p0.Ev p0.Version p0.Prog (w64 (p0.Calls + 1)) (some b.2.1))
  else
   some (zd.mk b.2.2 p0.Told p0.Mode p0.Hook p0.Ev p0.Version p0.Prog p0.Calls (some b.2.1))).bind fun a =>
  if (b.1.Ki == 4) then
   a.M.bind fun c =>
   (vP a.Told a.Hook (qf c.Steps) (qf a.Calls) b.1.Val).bind fun e =>
   (qE (zd.mk a.Book e.1 a.Mode a.Hook a.Ev a.Version a.Prog a.Calls (some (ze.mk c.M c.E c.Rg c.Tu c.At c.Steps c.Mode)))).bind fun f =>
   some (b.1, true, f)
  else
   some (b.1, true, a)
def xL (fu : Nat) (p2 : Int) (again : (zg × zd × Int) -> Option ((zg × zd) ⊕ (Bool × zg × zd))) (c : zg × zd × Int) : Option ((zg × zd) ⊕ (Bool × zg × zd)) :=
 if decide (c.2.2 < p2) then
  (qi fu c.1).bind fun a =>
  (zV fu c.2.1).bind fun b =>
  (if (!((a.1.Ki == b.1.Ki) && ((a.1.Pc == b.1.Pc) && (((a.1.It.Map == b.1.It.Map) && ((a.1.It.Op == b.1.It.Op) && ((a.1.It.Key == b.1.It.Key) && ((a.1.It.Val == b.1.It.Val) && true)))) && ((a.1.Val == b.1.Val) && true))))) then
   some true
  else
   some (!(a.2.1 == b.2.1))).bind fun d =>
  if d then
   some (.inr (false, a.2.2, b.2.2))
  else
   again (a.2.2, b.2.2, w64 (c.2.2 + 1))
 else
  some (.inl (c.1, c.2.1))
def ju (fu : Nat) (p0 : zg) (p1 : zd) (p2 : Int) : Option (Bool × zg × zd) :=
 (loop (xL fu p2) fu (p0, p1, 0)).bind fun b => match b with
  | .inl a =>
   some (true, a.1, a.2)
  | .inr r => some r
def zbc (p0 : Int) (p1 : xz) : Option Int :=
 (if (p0 == 0) then
  some (p0 == 0)
 else
  some (p0 == 4)).bind fun a =>
 if a then
  some p1.Val
 else
  (if (p0 == 1) then
   some (p0 == 1)
  else
   some (p0 == 3)).bind fun b =>
  if b then
   if p1.Found then
    some 1
   else
    some 0
  else
   if (p0 == 2) then
    if (p1.E == 0) then
     some 1
    else
     some 0
   else
    some 0
def jR (p0 : zh) (p1 : xz) (g0 : zk) : Option (Int × zh) :=
 if (p0.sa != 1) then
  some (2, (zh.mk p0.Ev p0.mo p0.rg p0.tu p0.at_ p0.sp p0.sa))
 else
  (idx p0.mo.Co p0.at_).bind fun a =>
  (zbc a.Imm p1).bind fun b =>
  some (0, (zh.mk p0.Ev p0.mo (jf p0.rg 0 b) p0.tu (w64 (p0.at_ + 1)) p0.sp 0))
def xM (p0 : zg) (p1 : xz) : Option (Int × zg) :=
 if (p0.mode_ != 3) then
  some (41, p0)
 else
  p0.job.machine.bind fun b =>
  (jR b p1 p0.Scratch).bind fun a =>
  some (a.1, (zg.mk p0.Scratch p0.Stats 2 (xF.mk p0.job.hook p0.job.event p0.job.version p0.job.prog p0.job.calls (some a.2))))
def xW (p0 : Int) (p1 : xz) : Option Int :=
 if ((p0 == 0) || (p0 == 4)) then
  some p1.Val
 else
  if ((((p0 == 1) || (p0 == 3)) && p1.Found) || ((p0 == 2) && (p1.E == 0))) then
   some 1
  else
   some 0
def qR (p0 : ze) (p1 : xz) (g0 : zi) : Option (Int × ze) :=
 if (p0.Mode != 1) then
  some (2, (ze.mk p0.M p0.E p0.Rg p0.Tu p0.At p0.Steps p0.Mode))
 else
  (idx p0.M.Co p0.At).bind fun a =>
  (xW a.Imm p1).bind fun b =>
  (idx p0.Rg 0).bind fun d =>
  (jw (ze.mk p0.M p0.E (p0.Rg.set (Int.toNat 0) b) p0.Tu p0.At p0.Steps 0) g0).bind fun c =>
  some (0, c)
def jB (p0 : zd) (p1 : xz) : Option (Int × zd) :=
 if (p0.Mode != 3) then
  some (41, p0)
 else
  p0.M.bind fun b =>
  (qR b p1 p0.Book).bind fun a =>
  some (a.1, (zd.mk p0.Book p0.Told 2 p0.Hook p0.Ev p0.Version p0.Prog p0.Calls (some a.2)))
def zaR (again : ((List zc) × Int) -> Option Unit) (a : (List zc) × Int) : Option Unit :=
 if decide (a.2 < ((a.1).length : Int)) then
  (idx a.1 a.2).bind fun b =>
  again ((a.1.set (Int.toNat a.2) (zc.mk 88 0 0 0 0)), w64 (a.2 + 1))
 else
  some ()
def jT (fu : Nat) (p0 : zg) (p1 : zd) (p2 : zR) : Option (Bool × zg × zd) :=
 if (p2.Ki == 0) then
  (jY p0 p2.Hook p2.Q).bind fun e =>
  (xc p1 p2.Hook p2.Q).bind fun f =>
  some ((e.1 == f.1), e.2, f.2)
 else
  if (p2.Ki == 1) then
   (vq p2.M).bind fun g =>
   (ql fu p0 p2.Version p2.Prog g).bind fun h =>
   (qd fu p1 p2.Version p2.Prog p2.M).bind fun j =>
   (loop zaR fu (g.Co, 0)).bind fun z =>
   some ((h.1 == j.1), h.2, j.2)
  else
   if (p2.Ki == 2) then
    (vx p0).bind fun l =>
    (xd p1).bind fun n =>
    some ((l.1 == n.1), l.2, n.2)
   else
    if (p2.Ki == 3) then
     (ju fu p0 p1 1).bind fun a =>
     some (a.1, a.2.1, a.2.2)
    else
     if (p2.Ki == 4) then
      (xM p0 p2.Res).bind fun q =>
      (jB p1 p2.Res).bind fun v =>
      some ((q.1 == v.1), q.2, v.2)
     else
      if (p2.Ki == 5) then
       (zW p0.Scratch.Ct p2.Hook).bind fun b =>
       (zI fu p1.Book p2.Hook).bind fun c =>
       some (((b.1 == c.1) && (b.2.1 == c.2.1)), (zg.mk (zk.mk p0.Scratch.Wo b.2.2) p0.Stats p0.mode_ p0.job), (zd.mk c.2.2 p1.Told p1.Mode p1.Hook p1.Ev p1.Version p1.Prog p1.Calls p1.M))
      else
       (ju fu p0 p1 (zb3 (zcC p2.Version 0) 32)).bind fun d =>
       some (d.1, d.2.1, d.2.2)
def zaM (p0 : zg) : Option (Int × jg) :=
 some (p0.job.hook, p0.job.event)
def zat (p0 : zg) : Option (Int × Int) :=
 some (p0.job.version, p0.job.prog)
def zdd (p0 : List zm) (p1 : Int) (c : Nat) (again : zu -> Option zu) (a : zu) : Option zu :=
 (idx p0 (c : Int)).bind fun b =>
 if (b.Hook != p1) then
  again a
 else
  if b.Missed then
   again (zu.mk a.Runs (qf (a.Missed + 1)) a.Steps a.Calls a.Sum)
  else
   again (zu.mk (qf (a.Runs + 1)) a.Missed (qf (a.Steps + b.Steps)) (qf (a.Calls + b.Calls)) (qf (a.Sum + b.Result)))
def zaX (p0 : List zm) (p1 : Int) : Option (zu × Int) :=
 if (decide (p1 < 0) || decide (p1 > 3)) then
  some ((zu.mk 0 0 0 0 0), 2)
 else
  (qQ (zdd p0 p1) (fun (a : zu) => a) (p0).length 0 (zu.mk 0 0 0 0 0)).bind fun b =>
  some (b, 0)
def xq (p0 : zY) (p1 : Int) : Option (Int × Int) :=
 if (decide (p1 < 0) || decide (p1 >= 16)) then
  some (0, 35)
 else
  (ain 16 p1).bind fun a =>
  some ((p0.cn a), 0)
def xN (fu : Nat) (p0 : zg) (p1 : zd) (a : Nat) (again : Unit -> Option (Unit ⊕ Bool)) (j : Unit) : Option (Unit ⊕ Bool) :=
 (vB p0.Stats (a : Int)).bind fun b =>
 (zaX p1.Told (a : Int)).bind fun c =>
 (xq p0.Scratch.Ct (a : Int)).bind fun d =>
 (zS fu p1.Book (a : Int)).bind fun f =>
 (qh p0.Scratch.Wo (a : Int)).bind fun e =>
 (zF fu p1.Book (a : Int)).bind fun g =>
 (if (!((b.1.Runs == c.1.Runs) && ((b.1.Missed == c.1.Missed) && ((b.1.Steps == c.1.Steps) && ((b.1.Calls == c.1.Calls) && ((b.1.Sum == c.1.Sum) && true)))))) then
  some true
 else
  if (b.2 != 0) then
   some true
  else
   if (d.1 != f.1) then
    some true
   else
    if (d.2 != 0) then
     some true
    else
     if (e.1 != g.1) then
      some true
     else
      some (e.2 != 0)).bind fun h =>
 if h then
  some (.inr false)
 else
  again ()
def qz (fu : Nat) (p0 : zg) (p1 : zd) : Option Bool :=
 (zaM p0).bind fun a =>
 (zat p0).bind fun b =>
 ((jZ p0).bind fun c =>
 if (c != p1.Mode) then
  some true
 else
  if (a.1 != p1.Hook) then
   some true
  else
   if (!((a.2.N == p1.Ev.N) && (((a.2.Ev.A == p1.Ev.Ev.A) && ((a.2.Ev.B == p1.Ev.Ev.B) && true)) && true))) then
    some true
   else
    if (b.1 != p1.Version) then
     some true
    else
     some (b.2 != p1.Prog)).bind fun d =>
 if d then
  some false
 else
  (qQ (xN fu p0 p1) (fun (f : Unit) => (.inl ())) 4 0 ()).bind fun e => match e with
   | .inl g =>
    some true
   | .inr r => some r
def vj (fu : Nat) (p0 : List zR) (p1 : List zR) (again : (zg × zg × zd × zd × Int) -> Option ((zg × zg × zd × zd) ⊕ Bool)) (a : zg × zg × zd × zd × Int) : Option ((zg × zg × zd × zd) ⊕ Bool) :=
 if ((decide (a.2.2.2.2 < ((p0).length : Int)) || decide (a.2.2.2.2 < ((p1).length : Int))) && decide (a.2.2.2.2 < 60)) then
  (if decide (a.2.2.2.2 < ((p0).length : Int)) then
   (idx p0 a.2.2.2.2).bind fun f =>
   (jT fu a.1 a.2.2.1 f).bind fun b =>
   if (!b.1) then
    some (b.2.1, a.2.1, b.2.2, a.2.2.2.1, true)
   else
    if decide (a.2.2.2.2 < ((p1).length : Int)) then
     (idx p1 a.2.2.2.2).bind fun g =>
     (jT fu a.2.1 a.2.2.2.1 g).bind fun d =>
     some (b.2.1, d.2.1, b.2.2, d.2.2, (!d.1))
    else
     some (b.2.1, a.2.1, b.2.2, a.2.2.2.1, false)
  else
   if decide (a.2.2.2.2 < ((p1).length : Int)) then
    (idx p1 a.2.2.2.2).bind fun h =>
    (jT fu a.2.1 a.2.2.2.1 h).bind fun e =>
    some (a.1, e.2.1, a.2.2.1, e.2.2, (!e.1))
   else
    some (a.1, a.2.1, a.2.2.1, a.2.2.2.1, false)).bind fun c =>
  if c.2.2.2.2 then
   some (.inr false)
  else
   again (c.1, c.2.1, c.2.2.1, c.2.2.2.1, w64 (a.2.2.2.2 + 1))
 else
  some (.inl (a.1, a.2.1, a.2.2.1, a.2.2.2.1))
def xQ (fu : Nat) (p0 : List zR) (p1 : List zR) : Option Bool :=
 (xS fu).bind fun b =>
 if (!b) then
  some false
 else
  zbD.bind fun c =>
  zbD.bind fun d =>
  vL.bind fun e =>
  vL.bind fun f =>
  (loop (vj fu p0 p1) fu (c, d, e, f, 0)).bind fun g => match g with
   | .inl a =>
    ((qz fu a.1 a.2.2.1).bind fun h =>
    if h then
     (qz fu a.2.1 a.2.2.2).bind fun j =>
     some j
    else
     some false).bind fun l =>
    some l
   | .inr r => some r
end Go.Proofs.YtbmknhpfkpmigaaGreatDoor
