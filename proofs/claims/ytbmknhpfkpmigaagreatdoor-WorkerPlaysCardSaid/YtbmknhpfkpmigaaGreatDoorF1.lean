/- Texts F1 of this proof. -/
import Derived.Test.YtbmknhpfkpmigaaGreatDoorEng4
import Derived.Test.YtbmknhpfkpmigaaGreatDoorArr
set_option linter.unusedSimpArgs false
namespace Go.Proofs.YtbmknhpfkpmigaaGreatDoor
open Go.Sx
set_option linter.unusedVariables false
structure qa where
 wo : Nat -> Int
structure zX where
 cn : Nat -> Int
structure zk where
 Wo : qa
 Ct : zX
def zK (x : zk) : List Value := [.int .u64 (x.Wo.wo 0), .int .u64 (x.Wo.wo 1), .int .u64 (x.Wo.wo 2), .int .u64 (x.Wo.wo 3), .int .u64 (x.Wo.wo 4), .int .u64 (x.Wo.wo 5), .int .u64 (x.Wo.wo 6), .int .u64 (x.Wo.wo 7), .int .u64 (x.Wo.wo 8), .int .u64 (x.Wo.wo 9), .int .u64 (x.Wo.wo 10), .int .u64 (x.Wo.wo 11), .int .u64 (x.Wo.wo 12), .int .u64 (x.Wo.wo 13), .int .u64 (x.Wo.wo 14), .int .u64 (x.Wo.wo 15), .int .u64 (x.Ct.cn 0), .int .u64 (x.Ct.cn 1), .int .u64 (x.Ct.cn 2), .int .u64 (x.Ct.cn 3), .int .u64 (x.Ct.cn 4), .int .u64 (x.Ct.cn 5), .int .u64 (x.Ct.cn 6), .int .u64 (x.Ct.cn 7), .int .u64 (x.Ct.cn 8), .int .u64 (x.Ct.cn 9), .int .u64 (x.Ct.cn 10), .int .u64 (x.Ct.cn 11), .int .u64 (x.Ct.cn 12), .int .u64 (x.Ct.cn 13), .int .u64 (x.Ct.cn 14), .int .u64 (x.Ct.cn 15)]
def zoX : Rp zk := ziX (zK) 32 (fun _ => rfl)
def zds : Rp zk := zbh 111 zoX
structure zu where
 Runs : Int
 Missed : Int
 Steps : Int
 Calls : Int
 Sum : Int
def vW (x : zu) : List Value := [.int .u64 x.Runs, .int .u64 x.Missed, .int .u64 x.Steps, .int .u64 x.Calls, .int .u64 x.Sum]
structure zt where
 hooks : Nat -> zu
def zay (x : zt) : List Value := [.int .u64 (x.hooks 0).Runs, .int .u64 (x.hooks 0).Missed, .int .u64 (x.hooks 0).Steps, .int .u64 (x.hooks 0).Calls, .int .u64 (x.hooks 0).Sum, .int .u64 (x.hooks 1).Runs, .int .u64 (x.hooks 1).Missed, .int .u64 (x.hooks 1).Steps, .int .u64 (x.hooks 1).Calls, .int .u64 (x.hooks 1).Sum, .int .u64 (x.hooks 2).Runs, .int .u64 (x.hooks 2).Missed, .int .u64 (x.hooks 2).Steps, .int .u64 (x.hooks 2).Calls, .int .u64 (x.hooks 2).Sum, .int .u64 (x.hooks 3).Runs, .int .u64 (x.hooks 3).Missed, .int .u64 (x.hooks 3).Steps, .int .u64 (x.hooks 3).Calls, .int .u64 (x.hooks 3).Sum]
def zoY : Rp zt := ziX (zay) 20 (fun _ => rfl)
def zdN : Rp zt := zbh 176 zoY
structure qv where
 A : Int
 B : Int
def zfl (x : qv) : List Value := [.int .u64 x.A, .int .u64 x.B]
structure zc where
 Op : Int
 D : Int
 A : Int
 B : Int
 Imm : Int
def zn (x : zc) : List Value := [.int .i64 x.Op, .int .i64 x.D, .int .i64 x.A, .int .i64 x.B, .int .i64 x.Imm]
structure zj where
 Ms : List Int
 Co : List zc
structure zg where
 Ev : qv
 mo : zj
 rg : Nat -> Int
 tu : Nat -> Int
 at_ : Int
 sp : Int
 sa : Int
def zge : Rp (List Int) := zij 3 (zw .i64) 1 (fun _ => rfl) (by decide)
def znU : Rp (List zc) := zij 65 (zn) 5 (fun _ => rfl) (by decide)
def vi (fx : Value) : Rp zg := jB (fun (x : zg) vs => [.int .u64 x.Ev.A, .int .u64 x.Ev.B, vs.getD 0 undef, vs.getD 1 undef, fx, .int .u64 (x.rg 0), .int .u64 (x.rg 1), .int .u64 (x.rg 2), .int .u64 (x.rg 3), .int .u64 (x.rg 4), .int .u64 (x.rg 5), .int .u64 (x.rg 6), .int .u64 (x.rg 7), .int .i64 (x.tu 0), .int .i64 (x.tu 1), .int .i64 (x.tu 2), .int .i64 (x.tu 3), .int .i64 (x.tu 4), .int .i64 (x.tu 5), .int .i64 (x.tu 6), .int .i64 (x.tu 7), .int .i64 (x.tu 8), .int .i64 (x.tu 9), .int .i64 (x.tu 10), .int .i64 (x.tu 11), .int .i64 (x.tu 12), .int .i64 (x.tu 13), .int .i64 (x.tu 14), .int .i64 (x.tu 15), .int .i64 (x.tu 16), .int .i64 (x.tu 17), .int .i64 (x.tu 18), .int .i64 (x.tu 19), .int .i64 (x.tu 20), .int .i64 (x.tu 21), .int .i64 (x.tu 22), .int .i64 (x.tu 23), .int .i64 (x.tu 24), .int .i64 (x.tu 25), .int .i64 (x.tu 26), .int .i64 (x.tu 27), .int .i64 (x.tu 28), .int .i64 (x.tu 29), .int .i64 (x.tu 30), .int .i64 (x.tu 31), .int .i64 (x.tu 32), .int .i64 (x.tu 33), .int .i64 (x.tu 34), .int .i64 (x.tu 35), .int .i64 (x.tu 36), .int .i64 (x.tu 37), .int .i64 (x.tu 38), .int .i64 (x.tu 39), .int .i64 (x.tu 40), .int .i64 (x.tu 41), .int .i64 (x.tu 42), .int .i64 (x.tu 43), .int .i64 (x.tu 44), .int .i64 (x.tu 45), .int .i64 (x.tu 46), .int .i64 (x.tu 47), .int .i64 (x.tu 48), .int .i64 (x.tu 49), .int .i64 (x.tu 50), .int .i64 (x.tu 51), .int .i64 (x.tu 52), .int .i64 (x.tu 53), .int .i64 (x.tu 54), .int .i64 (x.tu 55), .int .i64 (x.tu 56), .int .i64 (x.tu 57), .int .i64 (x.tu 58), .int .i64 (x.tu 59), .int .i64 (x.tu 60), .int .i64 (x.tu 61), .int .i64 (x.tu 62), .int .i64 (x.tu 63), .int .i64 x.at_, .int .i64 x.sp, .int .i64 x.sa]) 80 (fun _ _ => rfl) (fun x => (x.mo.Ms, x.mo.Co)) (xh zge znU)
structure je where
 N : Int
 Ev : qv
def zeU (x : je) : List Value := [.int .i64 x.N, .int .u64 x.Ev.A, .int .u64 x.Ev.B]
structure xE where
 hook : Int
 event : je
 version : Int
 prog : Int
 calls : Int
 machine : Option zg
structure zi where
 Scratch : zk
 Stats : zt
 mode_ : Int
 job : xE
def zbi : Rp zi := jB (fun (x : zi) vs => [vs.getD 0 undef, vs.getD 1 undef, .int .i64 x.mode_, .int .i64 x.job.hook, .int .i64 x.job.event.N, .int .u64 x.job.event.Ev.A, .int .u64 x.job.event.Ev.B, .int .i64 x.job.version, .int .i64 x.job.prog, .int .u64 x.job.calls, vs.getD 2 undef]) 11 (fun _ _ => rfl) (fun x => (x.Scratch, x.Stats, x.job.machine)) (zmA zds zdN (fun fx => (zk8 226 (vi fx))) 1 (fun _ => rfl))
def qP : Rp zi := zbh 84 zbi
structure qb where
 name : ByteArray
 fields : ByteArray
def zJ (x : qb) : List Value := [.string x.name, .string x.fields]
def zad : List qb := [(qb.mk (⟨[115, 101, 116].toArray⟩) (⟨[100, 115].toArray⟩)),
 (qb.mk (⟨[97, 100, 100].toArray⟩) (⟨[100, 97, 115].toArray⟩)),
 (qb.mk (⟨[115, 117, 98].toArray⟩) (⟨[100, 97, 115].toArray⟩)),
 (qb.mk (⟨[109, 117, 108].toArray⟩) (⟨[100, 97, 115].toArray⟩)),
 (qb.mk (⟨[100, 105, 118].toArray⟩) (⟨[100, 97, 115].toArray⟩)),
 (qb.mk (⟨[114, 101, 109].toArray⟩) (⟨[100, 97, 115].toArray⟩)),
 (qb.mk (⟨[97, 110, 100].toArray⟩) (⟨[100, 97, 115].toArray⟩)),
 (qb.mk (⟨[111, 114].toArray⟩) (⟨[100, 97, 115].toArray⟩)),
 (qb.mk (⟨[120, 111, 114].toArray⟩) (⟨[100, 97, 115].toArray⟩)),
 (qb.mk (⟨[115, 104, 108].toArray⟩) (⟨[100, 97, 115].toArray⟩)),
 (qb.mk (⟨[115, 104, 114].toArray⟩) (⟨[100, 97, 115].toArray⟩)),
 (qb.mk (⟨[108, 111, 97, 100].toArray⟩) (⟨[100, 115].toArray⟩)),
 (qb.mk (⟨[115, 116, 111, 114, 101].toArray⟩) (⟨[97, 115].toArray⟩)),
 (qb.mk (⟨[102, 105, 101, 108, 100].toArray⟩) (⟨[100, 102].toArray⟩)),
 (qb.mk (⟨[109, 97, 112].toArray⟩) (⟨[100, 109].toArray⟩)),
 (qb.mk (⟨[106, 117, 109, 112].toArray⟩) (⟨[106].toArray⟩)),
 (qb.mk (⟨[106, 101, 113].toArray⟩) (⟨[106, 97, 115].toArray⟩)),
 (qb.mk (⟨[106, 110, 101].toArray⟩) (⟨[106, 97, 115].toArray⟩)),
 (qb.mk (⟨[106, 108, 116].toArray⟩) (⟨[106, 97, 115].toArray⟩)),
 (qb.mk (⟨[106, 103, 101].toArray⟩) (⟨[106, 97, 115].toArray⟩)),
 (qb.mk (⟨[108, 111, 111, 112].toArray⟩) (⟨[98, 97, 110].toArray⟩)),
 (qb.mk (⟨[99, 97, 108, 108].toArray⟩) (⟨[104].toArray⟩)),
 (qb.mk (⟨[101, 120, 105, 116].toArray⟩) (⟨[97].toArray⟩))]
structure zP where
 Head : Int
 At : Int
 Bound : Int
def jJ (x : zP) : List Value := [.int .i64 x.Head, .int .i64 x.At, .int .i64 x.Bound]
structure zb where
 Lo : Int
 Hi : Int
def xv (x : zb) : List Value := [.int .u64 x.Lo, .int .u64 x.Hi]
structure za where
 Ki : Int
 Sp : zb
 Map : Int
def zl (x : za) : List Value := [.int .i64 x.Ki, .int .u64 x.Sp.Lo, .int .u64 x.Sp.Hi, .int .i64 x.Map]
structure zf where
 Module : zj
 ca : List (Nat -> za)
 any : List Bool
 loops : List zP
def zoZ : Rp (List (Nat -> za)) := zij 297 (zbw (zl) 8) 32 (fun _ => rfl) (by decide)
def zo0 : Rp (List Bool) := zij 4 (zc1) 1 (fun _ => rfl) (by decide)
def zo1 : Rp (List zP) := zij 334 (jJ) 3 (fun _ => rfl) (by decide)
def za4 (wb : World) (Sb : List Nat) : Rp zf := jB (fun (x : zf) vs => [vs.getD 0 undef, vs.getD 1 undef, vs.getD 2 undef, vs.getD 3 undef, vs.getD 4 undef]) 5 (fun _ _ => rfl) (fun x => (x.Module.Ms, (x.Module.Co, (x.ca, (x.any, x.loops))))) (xh (zmF wb Sb (zw .i64) 1) (xh (zmF wb Sb (zn) 5) (xh zoZ (xh zo0 zo1))))
def zaS (wb : World) (Sb : List Nat) : Rp zf := zbh 287 (za4 wb Sb)
structure vX where
 name : ByteArray
 wants : ByteArray
 most : Int
 asks : Int
 isAsked : Bool
def zM (x : vX) : List Value := [.string x.name, .string x.wants, .int .u64 x.most, .int .i64 x.asks, .bool x.isAsked]
def zap : List vX := [(vX.mk (⟨[103, 101, 116].toArray⟩) (⟨[104, 110].toArray⟩) 18446744073709551615 0 true),
 (vX.mk (⟨[104, 97, 115].toArray⟩) (⟨[104, 110].toArray⟩) 1 1 true),
 (vX.mk (⟨[112, 117, 116].toArray⟩) (⟨[104, 110, 110].toArray⟩) 1 2 true),
 (vX.mk (⟨[100, 101, 108].toArray⟩) (⟨[104, 110].toArray⟩) 1 3 true),
 (vX.mk (⟨[97, 100, 100].toArray⟩) (⟨[104, 110, 110].toArray⟩) 18446744073709551615 4 true),
 (vX.mk (⟨[109, 97, 114, 107].toArray⟩) (⟨[115].toArray⟩) 18446744073709551615 0 false),
 (vX.mk (⟨[110, 111, 116, 101].toArray⟩) (⟨[110].toArray⟩) 0 0 false)]
def zd3 (fx : Value) : Rp zg := zbh 226 (vi fx)
structure qq where
 Map : Int
 Op : Int
 Key : Int
 Val : Int
structure zA where
 Ki : Int
 Pc : Int
 It : qq
 Val : Int
structure zp where
 Ki : Int
 At : Int
 N : Int
def xX (x : zp) : List Value := [.int .i64 x.Ki, .int .i64 x.At, .int .u64 x.N]
structure zh where
 Ak : List zp
def zpV : Rp (List zp) := zij 183 (xX) 3 (fun _ => rfl) (by decide)
def zfm : Rp zh := jB (fun (x : zh) vs => [vs.getD 0 undef]) 1 (fun _ _ => rfl) (fun x => x.Ak) (zpV)
structure zm where
 Hook : Int
 Missed : Bool
 Steps : Int
 Calls : Int
 Result : Int
def zB (x : zm) : List Value := [.int .i64 x.Hook, .bool x.Missed, .int .u64 x.Steps, .int .u64 x.Calls, .int .u64 x.Result]
structure zd where
 M : zj
 E : qv
 Rg : List Int
 Tu : List Int
 At : Int
 Steps : Int
 Mode : Int
def zo2 : Rp (List Int) := zij 29 (zw .u64) 1 (fun _ => rfl) (by decide)
def zo3 : Rp (List Int) := zij 2 (zw .i64) 1 (fun _ => rfl) (by decide)
def xY (wb : World) (Sb : List Nat) (fx : Value) : Rp zd := jB (fun (x : zd) vs => [vs.getD 0 undef, vs.getD 1 undef, .int .u64 x.E.A, .int .u64 x.E.B, fx, vs.getD 2 undef, vs.getD 3 undef, .int .i64 x.At, .int .i64 x.Steps, .int .i64 x.Mode]) 10 (fun _ _ => rfl) (fun x => (x.M.Ms, (x.M.Co, (x.Rg, x.Tu)))) (xh (zmF wb Sb (zw .i64) 1) (xh (zmF wb Sb (zn) 5) (xh zo2 zo3)))
structure ze where
 Book : zh
 Told : List zm
 Mode : Int
 Hook : Int
 Ev : je
 Version : Int
 Prog : Int
 Calls : Int
 M : Option zd
def zaf : Rp zh := zbh 90 zfm
def zpW : Rp (List zm) := zij 185 (zB) 5 (fun _ => rfl) (by decide)
def zbf (wb : World) (Sb : List Nat) : Rp ze := jB (fun (x : ze) vs => [vs.getD 0 undef, vs.getD 1 undef, .int .i64 x.Mode, .int .i64 x.Hook, .int .i64 x.Ev.N, .int .u64 x.Ev.Ev.A, .int .u64 x.Ev.Ev.B, .int .i64 x.Version, .int .i64 x.Prog, .int .i64 x.Calls, vs.getD 2 undef]) 11 (fun _ _ => rfl) (fun x => (x.Book, x.Told, x.M)) (zmA zaf zpW (fun fx => (zk8 233 (xY wb Sb fx))) 1 (fun _ => rfl))
def xw (wb : World) (Sb : List Nat) : Rp ze := zbh 94 (zbf wb Sb)
def vI : Rp (List za) := zij 295 (zl) 4 (fun _ => rfl) (by decide)
def zcB (wb : World) (Sb : List Nat) (fx : Value) : Rp zd := zbh 233 (xY wb Sb fx)
structure xx where
 E : Int
 Found : Bool
 Val : Int
 Out : Bool
 OutKey : Int
 OutVal : Int
def zgD (x : xx) : List Value := [.int .i64 x.E, .bool x.Found, .int .u64 x.Val, .bool x.Out, .int .u64 x.OutKey, .int .u64 x.OutVal]
structure qz where
 Ki : Int
 Hook : Int
 Version : Int
 Prog : Int
 Q : je
 M : zj
 Res : xx
def znV : Rp qz := jB (fun (x : qz) vs => [.int .i64 x.Ki, .int .i64 x.Hook, .int .i64 x.Version, .int .i64 x.Prog, .int .i64 x.Q.N, .int .u64 x.Q.Ev.A, .int .u64 x.Q.Ev.B, vs.getD 0 undef, vs.getD 1 undef, .int .i64 x.Res.E, .bool x.Res.Found, .int .u64 x.Res.Val, .bool x.Res.Out, .int .u64 x.Res.OutKey, .int .u64 x.Res.OutVal]) 15 (fun _ _ => rfl) (fun x => (x.M.Ms, x.M.Co)) (xh zge znU)
def zbj (p0 : List Int) (p1 : Int) (a : Nat) (again : Unit -> Option (Unit ⊕ Int)) (c : Unit) : Option (Unit ⊕ Int) :=
 (idx p0 (a : Int)).bind fun b =>
 if (p1 == b) then
  some (.inr (a : Int))
 else
  again ()
def vG (p0 : List Int) (p1 : Int) : Option Int :=
 (qO (zbj p0 p1) (fun (b : Unit) => (.inl ())) (p0).length 0 ()).bind fun a => match a with
  | .inl c =>
   some (-1)
  | .inr r => some r
def jf (p0 : List Int) (p1 : Int) : Option Bool :=
 (vG p0 p1).bind fun a =>
 some (decide (a >= 0))
def zaP (p0 : Int) (p1 : List Int) : Option Bool :=
 (jf p1 p0).bind fun a =>
 some a
def ze1  : Option zk :=
 some (zk.mk (qa.mk (fun _ => 0)) (zX.mk (fun _ => 0)))
def zgE  : Option zt :=
 some (zt.mk (fun _ => (zu.mk 0 0 0 0 0)))
def zb9  : Option zi :=
 ze1.bind fun a =>
 zgE.bind fun b =>
 some (zi.mk a b 0 (xE.mk 0 (je.mk 0 (qv.mk 0 0)) 0 0 0 none))
def jX (p0 : zi) (p1 : Int) (p2 : je) : Option (Int × zi) :=
 if (decide (p1 < 0) || decide (p1 >= 4)) then
  some (2, p0)
 else
  if (p0.mode_ != 0) then
   some (42, p0)
  else
   some (0, (zi.mk p0.Scratch p0.Stats 1 (xE.mk p1 p2 0 0 0 none)))
def jY (p0 : zi) : Option Int :=
 some p0.mode_
def zfn (p0 : List Int) (b : Nat) (again : Unit -> Option (Unit ⊕ Bool)) (f : Unit) : Option (Unit ⊕ Bool) :=
 (idx p0 (b : Int)).bind fun a =>
 (if decide (a < 0) then
  some true
 else
  if decide (a >= 4) then
   some true
  else
   (cut p0 0 (b : Int)).bind fun c =>
   (jf c a).bind fun d =>
   some d).bind fun e =>
 if e then
  some (.inr false)
 else
  again ()
def zca (p0 : List Int) : Option Bool :=
 (qO (zfn p0) (fun (b : Unit) => (.inl ())) (p0).length 0 ()).bind fun a => match a with
  | .inl c =>
   some (decide (((p0).length : Int) <= 4))
  | .inr r => some r
def zbx (p0 : Int) : Option (qb × Bool) :=
 if (decide (p0 < 0) || decide (p0 >= 23)) then
  some ((qb.mk ByteArray.empty ByteArray.empty), false)
 else
  (idx zad p0).bind fun a =>
  some (a, true)
def za5 (p0 : Int) : Option Bool :=
 some (decide (p0 >= 0) && decide (p0 < 8))
def zaK (p0 : Int) (p1 : Int) (p2 : Int) : Option Bool :=
 some (decide (p0 >= p1) && decide (p0 <= p2))
def zcK (p0 : zc) (c : qb × Bool) (d : Nat) (again : (Bool × zc) -> Option (Bool × zc)) (a : Bool × zc) : Option (Bool × zc) :=
 (zhF c.1.fields (d : Int)).bind fun b =>
 if (b == 100) then
  if a.1 then
   (za5 p0.D).bind fun e =>
   again (e, (zc.mk a.2.Op 0 a.2.A a.2.B a.2.Imm))
  else
   again (false, (zc.mk a.2.Op 0 a.2.A a.2.B a.2.Imm))
 else
  if (b == 97) then
   if a.1 then
    (za5 p0.A).bind fun f =>
    again (f, (zc.mk a.2.Op a.2.D 0 a.2.B a.2.Imm))
   else
    again (false, (zc.mk a.2.Op a.2.D 0 a.2.B a.2.Imm))
  else
   if (b == 115) then
    if (p0.B == 8) then
     again (a.1, (zc.mk a.2.Op a.2.D a.2.A 0 0))
    else
     if a.1 then
      (za5 p0.B).bind fun g =>
      again (g, (zc.mk a.2.Op a.2.D a.2.A 0 a.2.Imm))
     else
      again (false, (zc.mk a.2.Op a.2.D a.2.A 0 a.2.Imm))
   else
    if (b == 102) then
     if a.1 then
      (zaK p0.Imm 0 1).bind fun h =>
      again (h, (zc.mk a.2.Op a.2.D a.2.A a.2.B 0))
     else
      again (false, (zc.mk a.2.Op a.2.D a.2.A a.2.B 0))
    else
     if (b == 109) then
      if a.1 then
       (zaK p0.Imm 0 3).bind fun j =>
       again (j, (zc.mk a.2.Op a.2.D a.2.A a.2.B 0))
      else
       again (false, (zc.mk a.2.Op a.2.D a.2.A a.2.B 0))
     else
      if (b == 104) then
       if a.1 then
        (zaK p0.Imm 0 6).bind fun l =>
        again (l, (zc.mk a.2.Op a.2.D a.2.A a.2.B 0))
       else
        again (false, (zc.mk a.2.Op a.2.D a.2.A a.2.B 0))
      else
       if (b == 110) then
        if a.1 then
         (zaK p0.Imm 1 255).bind fun n =>
         again (n, (zc.mk a.2.Op a.2.D a.2.A a.2.B 0))
        else
         again (false, (zc.mk a.2.Op a.2.D a.2.A a.2.B 0))
       else
        if (b == 106) then
         if a.1 then
          (zaK p0.D 0 63).bind fun q =>
          again (q, (zc.mk a.2.Op 0 a.2.A a.2.B a.2.Imm))
         else
          again (false, (zc.mk a.2.Op 0 a.2.A a.2.B a.2.Imm))
        else
         if (b == 98) then
          if a.1 then
           (zaK p0.D 1 63).bind fun v =>
           again (v, (zc.mk a.2.Op 0 a.2.A a.2.B a.2.Imm))
          else
           again (false, (zc.mk a.2.Op 0 a.2.A a.2.B a.2.Imm))
         else
          again (a.1, a.2)
def vn (p0 : zc) : Option Bool :=
 (zbx p0.Op).bind fun b =>
 if (!b.2) then
  some false
 else
  ((room b.1.fields.size 1).bind fun e =>
  qO (zcK p0 b) (fun (c : Bool × zc) => (c.1, c.2)) b.1.fields.size 0 (b.2, (zc.mk 0 p0.D p0.A p0.B p0.Imm))).bind fun a =>
  (if a.1 then
   some ((a.2.Op == 0) && ((a.2.D == 0) && ((a.2.A == 0) && ((a.2.B == 0) && ((a.2.Imm == 0) && true)))))
  else
   some false).bind fun d =>
  some d
def zgf (p0 : qb) (p1 : Int) (a : Nat) (again : Unit -> Option (Unit ⊕ Bool)) (c : Unit) : Option (Unit ⊕ Bool) :=
 (zhF p0.fields (a : Int)).bind fun b =>
 if (b == p1) then
  some (.inr true)
 else
  again ()
def qL (p0 : qb) (p1 : Int) : Option Bool :=
 ((room p0.fields.size 1).bind fun b =>
 qO (zgf p0 p1) (fun (c : Unit) => (.inl ())) p0.fields.size 0 ()).bind fun a => match a with
  | .inl d =>
   some false
  | .inr r => some r
def zdt (p0 : zc) : Option (Int × Bool × Bool) :=
 (vn p0).bind fun b =>
 if (!b) then
  some (0, false, false)
 else
  (zbx p0.Op).bind fun a =>
  (qL a.1 106).bind fun c =>
  if c then
   some (w64 (p0.D + 1), true, (p0.Op != 15))
  else
   (qL a.1 98).bind fun d =>
   if d then
    some (w64 (0 - p0.D), true, true)
   else
    some (0, false, (p0.Op != 22))
def zga (p0 : List zc) (a : Nat) (again : Unit -> Option (Unit ⊕ Bool)) (d : Unit) : Option (Unit ⊕ Bool) :=
 (idx p0 (a : Int)).bind fun b =>
 (vn b).bind fun c =>
 if (!c) then
  some (.inr false)
 else
  again ()
def zd4 (p0 : List zc) : Option Bool :=
 (qO (zga p0) (fun (b : Unit) => (.inl ())) (p0).length 0 ()).bind fun a => match a with
  | .inl c =>
   some true
  | .inr r => some r
def zeV (p0 : List zc) (a : Nat) (again : Unit -> Option (Unit ⊕ (Int × Int))) (e : Unit) : Option (Unit ⊕ (Int × Int)) :=
 (idx p0 (a : Int)).bind fun c =>
 (zdt c).bind fun b =>
 (zd4 ([c])).bind fun d =>
 if (!d) then
  some (.inr ((a : Int), 12))
 else
  if (b.2.1 && (decide ((w64 ((a : Int) + b.1)) < 0) || decide ((w64 ((a : Int) + b.1)) >= ((p0).length : Int)))) then
   some (.inr ((a : Int), 30))
  else
   if (b.2.2 && ((a : Int) == (w64 (((p0).length : Int) - 1)))) then
    some (.inr ((a : Int), 36))
   else
    again ()
def zce (p0 : List zc) : Option (Int × Int) :=
 (qO (zeV p0) (fun (b : Unit) => (.inl ())) (p0).length 0 ()).bind fun a => match a with
  | .inl c =>
   some (0, 0)
  | .inr r => some r
def zfo (p0 : List zc) (a : Nat) (again : (List zP) -> Option (List zP)) (c : (List zP)) : Option (List zP) :=
 (idx p0 (a : Int)).bind fun b =>
 if (b.Op == 20) then
  (room (c.length + ([(zP.mk (w64 ((a : Int) - b.D)) (a : Int) b.Imm)]).length) 24).bind fun d =>
  again (c ++ [(zP.mk (w64 ((a : Int) - b.D)) (a : Int) b.Imm)])
 else
  again c
def zbB (p0 : List zc) : Option (List zP) :=
 (qO (zfo p0) (fun (a : (List zP)) => a) (p0).length 0 ([] : List zP)).bind fun b =>
 some b
def ze2 (p0 : zP) (p1 : Int) : Option Bool :=
 some (decide (p1 >= p0.Head) && decide (p1 <= p0.At))
def zcQ (a : zP) (c : List zP) (d : Nat) (again : Unit -> Option (Unit ⊕ (Int × Int))) (e : Unit) : Option (Unit ⊕ (Int × Int)) :=
 (idx c (d : Int)).bind fun b =>
 if (decide (b.At >= a.Head) && decide (b.Head < a.Head)) then
  some (.inr (a.At, 31))
 else
  again ()
def zbI (a : (List zP)) (b : Nat) (again : Unit -> Option (Unit ⊕ (Int × Int))) (f : Unit) : Option (Unit ⊕ (Int × Int)) :=
 (idx a (b : Int)).bind fun d =>
 (cut a 0 (b : Int)).bind fun c =>
 (qO (zcQ d c) (fun (g : Unit) => (.inl ())) (c).length 0 ()).bind fun e => match e with
  | .inl h =>
   again ()
  | .inr r => some (.inr r)
def zcR (d : (List zP)) (a : Nat) (b : Int × Bool × Bool) (e : Nat) (again : Unit -> Option (Unit ⊕ (Int × Int))) (j : Unit) : Option (Unit ⊕ (Int × Int)) :=
 (idx d (e : Int)).bind fun c =>
 (if b.2.1 then
  if decide (b.1 > 0) then
   (ze2 c (a : Int)).bind fun f =>
   if (!f) then
    (ze2 c (w64 ((a : Int) + b.1))).bind fun g =>
    if g then
     some ((w64 ((a : Int) + b.1)) != c.Head)
    else
     some false
   else
    some false
  else
   some false
 else
  some false).bind fun h =>
 if h then
  some (.inr ((a : Int), 31))
 else
  again ()
def zcS (p0 : List zc) (a : (List zP)) (b : Nat) (again : Unit -> Option (Unit ⊕ (Int × Int))) (f : Unit) : Option (Unit ⊕ (Int × Int)) :=
 (idx p0 (b : Int)).bind fun c =>
 (zdt c).bind fun d =>
 (qO (zcR a b d) (fun (g : Unit) => (.inl ())) (a).length 0 ()).bind fun e => match e with
  | .inl h =>
   again ()
  | .inr r => some (.inr r)
def zcf (p0 : List zc) : Option (Int × Int) :=
 (zbB p0).bind fun a =>
 (qO (zbI a) (fun (d : Unit) => (.inl ())) (a).length 0 ()).bind fun b => match b with
  | .inl e =>
   (qO (zcS p0 a) (fun (f : Unit) => (.inl ())) (p0).length 0 ()).bind fun c => match c with
    | .inl g =>
     some (0, 0)
    | .inr r => some r
  | .inr r => some r
def zd5 (c : (List zP)) (d : Nat) (e : Nat) (again : Int -> Option Int) (a : Int) : Option Int :=
 (idx c (e : Int)).bind fun b =>
 (ze2 b (d : Int)).bind fun f =>
 if f then
  again (zb1 (w64 (a * (w64 (b.Bound + 1)))) 257)
 else
  again a
def zgb (a : (List zP)) (b : Nat) (again : Int -> Option Int) (c : Int) : Option Int :=
 (qO (zd5 a b) (fun (d : Int) => d) (a).length 0 1).bind fun e =>
 again (zb1 (w64 (c + e)) 257)
def zd6 (p0 : List zc) : Option Int :=
 (zbB p0).bind fun a =>
 (qO (zgb a) (fun (b : Int) => b) (p0).length 0 0).bind fun c =>
 some c
def zaL (p0 : List zc) : Option (Int × Int) :=
 if (((p0).length : Int) == 0) then
  some (0, 10)
 else
  if decide (((p0).length : Int) > 64) then
   some (0, 11)
  else
   (zce p0).bind fun a =>
   if (a.2 != 0) then
    some (a.1, a.2)
   else
    (zcf p0).bind fun b =>
    if (b.2 != 0) then
     some (b.1, b.2)
    else
     (zd6 p0).bind fun c =>
     if decide (c > 256) then
      some (0, 32)
     else
      some (0, 0)
def zc4 (p0 : List zc) : Option ((List zP) × Int) :=
 (zaL p0).bind fun a =>
 if (a.2 != 0) then
  some (([] : List zP), a.2)
 else
  (zbB p0).bind fun b =>
  some (b, 0)
def vk (p0 : zc) : Option (Int × Bool) :=
 (vn p0).bind fun a =>
 if (!a) then
  some (0, false)
 else
  (zbx p0.Op).bind fun b =>
  (qL b.1 100).bind fun c =>
  if c then
   some (p0.D, true)
  else
   some (0, (p0.Op == 21))
def zaz  : Option zb :=
 some (zb.mk 0 18446744073709551615)
def jK (p0 : zb) : Option za :=
 some (za.mk 1 p0 0)
def xd (p1 : Int) (e : List zc) (f : Nat) (again : (List (Nat -> za)) -> Option (List (Nat -> za))) (a : (List (Nat -> za))) : Option (List (Nat -> za)) :=
 (idx e (f : Int)).bind fun g =>
 (vk g).bind fun d =>
 if (!d.2) then
  again a
 else
  (idx a p1).bind fun b =>
  (ain 8 d.1).bind fun c =>
  if ((b c).Ki == 1) then
   zaz.bind fun h =>
   (jK h).bind fun j =>
   again (a.set (Int.toNat p1) (jd b c j))
  else
   again (a.set (Int.toNat p1) (jd b c (za.mk 0 (zb.mk 0 0) 0)))
def xI (p0 : zf) (p1 : Int) (d : Nat) (again : (List (Nat -> za)) -> Option zf) (b : (List (Nat -> za))) : Option zf :=
 (idx p0.loops (d : Int)).bind fun a =>
 if (a.Head != p1) then
  again b
 else
  (cut p0.Module.Co a.Head (w64 (a.At + 1))).bind fun c =>
  (qO (xd p1 c) (fun (e : (List (Nat -> za))) => e) (c).length 0 b).bind fun f =>
  again f
def jg (p0 : zf) (p1 : Int) : Option zf :=
 (qO (xI p0 p1) (fun (a : (List (Nat -> za))) => (zf.mk p0.Module a p0.any p0.loops)) (p0.loops).length 0 p0.ca).bind fun b =>
 some b
def zc5 (p0 : zc) : Option Bool :=
 (zbx p0.Op).bind fun a =>
 ((vn p0).bind fun b =>
 if b then
  (qL a.1 115).bind fun c =>
  some c
 else
  some false).bind fun d =>
 some d
def zcg (p0 : Int) : Option zb :=
 some (zb.mk p0 p0)
def za6 (p0 : zc) (p1 : Nat -> za) : Option za :=
 if (p0.B == 8) then
  (zcg (qe p0.Imm)).bind fun a =>
  (jK a).bind fun b =>
  some b
 else
  (ain 8 p0.B).bind fun c =>
  some (p1 c)
def zT (p0 : List za) (a : Nat) (again : Unit -> Option (Unit ⊕ Int)) (c : Unit) : Option (Unit ⊕ Int) :=
 (idx p0 (a : Int)).bind fun b =>
 if (b.Ki != 1) then
  some (.inr 33)
 else
  again ()
def xF (p0 : List za) : Option Int :=
 (qO (zT p0) (fun (b : Unit) => (.inl ())) (p0).length 0 ()).bind fun a => match a with
  | .inl c =>
   some 0
  | .inr r => some r
def vl (p0 : zb) : Option Bool :=
 some (decide (p0.Lo <= p0.Hi))
def vA (p0 : zb) (p1 : zb) : Option Bool :=
 ((vl p0).bind fun a =>
 if a then
  if decide (p1.Lo <= p0.Lo) then
   some (decide (p0.Hi <= p1.Hi))
  else
   some false
 else
  some false).bind fun b =>
 some b
def za7 (p0 : za) : Option Int :=
 (vA p0.Sp (zb.mk 0 15)).bind fun a =>
 if (!a) then
  some 35
 else
  some 0
def qZ (p0 : List Int) (b : Nat) (again : Unit -> Option (Unit ⊕ Int)) (c : Unit) : Option (Unit ⊕ Int) :=
 (idx p0 (b : Int)).bind fun a =>
 if (a != 0) then
  some (.inr a)
 else
  again ()
def za0 (p0 : List Int) : Option Int :=
 (qO (qZ p0) (fun (b : Unit) => (.inl ())) (p0).length 0 ()).bind fun a => match a with
  | .inl c =>
   some 0
  | .inr r => some r
def zbC (p0 : za) (p1 : za) : Option Bool :=
 if (p1.Ki == 1) then
  (if (p0.Ki == 1) then
   (vA p0.Sp p1.Sp).bind fun a =>
   some a
  else
   some false).bind fun b =>
  some b
 else
  if (p1.Ki == 2) then
   some ((p0.Ki == p1.Ki) && (((p0.Sp.Lo == p1.Sp.Lo) && ((p0.Sp.Hi == p1.Sp.Hi) && true)) && ((p0.Map == p1.Map) && true)))
  else
   some true
def xZ (p0 : Int) : Option (vX × Bool) :=
 if (decide (p0 < 0) || decide (p0 >= 7)) then
  some ((vX.mk ByteArray.empty ByteArray.empty 0 0 false), false)
 else
  (idx zap p0).bind fun a =>
  some (a, true)
def zch (p0 : Int) : Option za :=
 some (za.mk 1 (zb.mk 0 p0) 0)
def zcL (b : vX × Bool) (again : ((List za) × Nat) -> Option (List za)) (a : (List za) × Nat) : Option (List za) :=
 if decide (a.2 < b.1.wants.size) then
  if ((zik b.1.wants a.2) == 104) then
   (room (a.1.length + ([(za.mk 2 (zb.mk 0 0) 0)]).length) 32).bind fun e =>
   again ((a.1 ++ [(za.mk 2 (zb.mk 0 0) 0)]), (ze0 b.1.wants a.2))
  else
   if ((zik b.1.wants a.2) == 115) then
    (zch 15).bind fun c =>
    (room (a.1.length + ([c]).length) 32).bind fun f =>
    again ((a.1 ++ [c]), (ze0 b.1.wants a.2))
   else
    (zch 18446744073709551615).bind fun d =>
    (room (a.1.length + ([d]).length) 32).bind fun g =>
    again ((a.1 ++ [d]), (ze0 b.1.wants a.2))
 else
  some a.1
def qM (fu : Nat) (p0 : Int) : Option (List za) :=
 (xZ p0).bind fun a =>
 (loop (zcL a) fu (([] : List za), 0)).bind fun b =>
 some b
def vo (p1 : List za) (d : (List za)) (b : Nat) (again : Unit -> Option (Unit ⊕ Int)) (g : Unit) : Option (Unit ⊕ Int) :=
 (idx d (b : Int)).bind fun a =>
 (idx p1 (b : Int)).bind fun c =>
 if (a.Ki != c.Ki) then
  some (.inr 33)
 else
  (if (a.Ki == 1) then
   (vA c.Sp a.Sp).bind fun e =>
   some (!e)
  else
   some false).bind fun f =>
  if f then
   some (.inr 35)
  else
   again ()
def vm (fu : Nat) (p0 : Int) (p1 : List za) : Option Int :=
 (xZ p0).bind fun b =>
 if (!b.2) then
  some 34
 else
  (qM fu p0).bind fun a =>
  if (((a).length : Int) != ((p1).length : Int)) then
   some 2
  else
   (qO (vo p1 a) (fun (d : Unit) => (.inl ())) (a).length 0 ()).bind fun c => match c with
    | .inl e =>
     some 0
    | .inr r => some r
def zaA (p0 : Int) : Option (za × Bool) :=
 (xZ p0).bind fun a =>
 if (!a.2) then
  some ((za.mk 0 (zb.mk 0 0) 0), false)
 else
  (zch a.1.most).bind fun b =>
  some (b, true)
def zb3 (p0 : Int) (p1 : Int) (p2 : Int) : Option (Int × Bool) :=
 if (p0 == 1) then
  some (qe (p1 + p2), true)
 else
  if (p0 == 2) then
   some (qe (p1 - p2), true)
  else
   if (p0 == 3) then
    some (qe (p1 * p2), true)
   else
    if (p0 == 4) then
     if (p2 == 0) then
      some (0, true)
     else
      (nz p2).bind fun a =>
      some (qe (p1.tdiv p2), true)
    else
     if (p0 == 5) then
      if (p2 == 0) then
       some (p1, true)
      else
       (nz p2).bind fun b =>
       some (p1.tmod p2, true)
     else
      if (p0 == 6) then
       some (zeZ .u64 p1 p2, true)
      else
       if (p0 == 7) then
        some (bOr .u64 p1 p2, true)
       else
        if (p0 == 8) then
         some (zi6 .u64 p1 p2, true)
        else
         if (p0 == 9) then
          (nn p2).bind fun c =>
          some (zfR .u64 p1 p2, true)
         else
          if (p0 == 10) then
           (nn p2).bind fun d =>
           some (zbv .u64 p1 p2, true)
          else
           some (0, false)
def xp (p0 : zb) : Option Bool :=
 some (p0.Lo == p0.Hi)
def zcM (p0 : zb) (p1 : zb) : Option zb :=
 (zi7 p0.Hi p1.Hi 0).bind fun a =>
 if decide (a.2 > 0) then
  zaz.bind fun b =>
  some b
 else
  some (zb.mk (qe (p0.Lo + p1.Lo)) a.1)
def zc6 (p0 : Int) (p1 : Int) : Option (Int × Int) :=
 some (qe ((qe ((qe ((zbv .u64 p0 32) * (zbv .u64 p1 32))) + (zbv .u64 (qe ((qe ((zbv .u64 p0 32) * (zeZ .u64 p1 4294967295))) + (zbv .u64 (qe ((zeZ .u64 p0 4294967295) * (zeZ .u64 p1 4294967295))) 32))) 32))) + (zbv .u64 (qe ((zeZ .u64 (qe ((qe ((zbv .u64 p0 32) * (zeZ .u64 p1 4294967295))) + (zbv .u64 (qe ((zeZ .u64 p0 4294967295) * (zeZ .u64 p1 4294967295))) 32))) 4294967295) + (qe ((zeZ .u64 p0 4294967295) * (zbv .u64 p1 32))))) 32)), qe (p0 * p1))
def vR (p0 : zb) (p1 : zb) : Option zb :=
 (zc6 p0.Hi p1.Hi).bind fun a =>
 if decide (a.1 > 0) then
  zaz.bind fun b =>
  some b
 else
  some (zb.mk (qe (p0.Lo * p1.Lo)) a.2)
def vS (p0 : zb) (p1 : zb) : Option zb :=
 if (p1.Lo == 0) then
  some (zb.mk 0 p0.Hi)
 else
  (nz p1.Hi).bind fun a =>
  (nz p1.Lo).bind fun b =>
  some (zb.mk (qe (p0.Lo.tdiv p1.Hi)) (qe (p0.Hi.tdiv p1.Lo)))
def zbO (p0 : zb) (p1 : zb) : Option zb :=
 if (p1.Lo == 0) then
  some (zb.mk 0 p0.Hi)
 else
  if decide (p0.Hi < p1.Lo) then
   some p0
  else
   some (zb.mk 0 (zb1 p0.Hi (qe (p1.Hi - 1))))
def zcb (p0 : Int) : Option Int :=
 (if decide (p0 >= 4294967296) then
  some (zbv .u64 p0 32, 32)
 else
  some (p0, 0)).bind fun a =>
 (if decide (a.1 >= 65536) then
  some (zbv .u64 a.1 16, w64 (a.2 + 16))
 else
  some (a.1, a.2)).bind fun b =>
 (if decide (b.1 >= 256) then
  some (zbv .u64 b.1 8, w64 (b.2 + 8))
 else
  some (b.1, b.2)).bind fun c =>
 (zhF (⟨[0, 1, 2, 2, 3, 3, 3, 3, 4, 4, 4, 4, 4, 4, 4, 4, 5, 5, 5, 5, 5, 5, 5, 5, 5, 5, 5, 5, 5, 5, 5, 5, 6, 6, 6, 6, 6, 6, 6, 6, 6, 6, 6, 6, 6, 6, 6, 6, 6, 6, 6, 6, 6, 6, 6, 6, 6, 6, 6, 6, 6, 6, 6, 6, 7, 7, 7, 7, 7, 7, 7, 7, 7, 7, 7, 7, 7, 7, 7, 7, 7, 7, 7, 7, 7, 7, 7, 7, 7, 7, 7, 7, 7, 7, 7, 7, 7, 7, 7, 7, 7, 7, 7, 7, 7, 7, 7, 7, 7, 7, 7, 7, 7, 7, 7, 7, 7, 7, 7, 7, 7, 7, 7, 7, 7, 7, 7, 7, 8, 8, 8, 8, 8, 8, 8, 8, 8, 8, 8, 8, 8, 8, 8, 8, 8, 8, 8, 8, 8, 8, 8, 8, 8, 8, 8, 8, 8, 8, 8, 8, 8, 8, 8, 8, 8, 8, 8, 8, 8, 8, 8, 8, 8, 8, 8, 8, 8, 8, 8, 8, 8, 8, 8, 8, 8, 8, 8, 8, 8, 8, 8, 8, 8, 8, 8, 8, 8, 8, 8, 8, 8, 8, 8, 8, 8, 8, 8, 8, 8, 8, 8, 8, 8, 8, 8, 8, 8, 8, 8, 8, 8, 8, 8, 8, 8, 8, 8, 8, 8, 8, 8, 8, 8, 8, 8, 8, 8, 8, 8, 8, 8, 8, 8, 8, 8, 8, 8, 8, 8, 8, 8, 8, 8, 8, 8, 8].toArray⟩) (IntKind.u8.wrap c.1)).bind fun d =>
 some (w64 (c.2 + (w64 d)))
def zaT (p0 : Int) : Option Int :=
 (zcb p0).bind fun a =>
 (nn a).bind fun b =>
 some (qe ((zfR .u64 1 a) - 1))
def zbk (p0 : zb) (p1 : zb) : Option zb :=
 ((xp p1).bind fun a =>
 if (!a) then
  some true
 else
  (zcb p0.Hi).bind fun b =>
  if decide (b > 0) then
   if decide (p1.Lo > 64) then
    some true
   else
    (zcb p0.Hi).bind fun c =>
    some (decide ((qe ((qe c) + p1.Lo)) > 64))
  else
   some false).bind fun d =>
 if d then
  zaz.bind fun e =>
  some e
 else
  (nn p1.Lo).bind fun f =>
  (nn p1.Lo).bind fun g =>
  some (zb.mk (zfR .u64 p0.Lo p1.Lo) (zfR .u64 p0.Hi p1.Lo))
def zdu (p0 : Int) (p1 : zb) (p2 : zb) : Option (zb × Bool) :=
 (zb3 p0 p1.Lo p2.Lo).bind fun a =>
 (if (!a.2) then
  some true
 else
  (vl p1).bind fun b =>
  if (!b) then
   some true
  else
   (vl p2).bind fun c =>
   some (!c)).bind fun d =>
 if d then
  some ((zb.mk 0 0), false)
 else
  ((xp p1).bind fun e =>
  if e then
   (xp p2).bind fun f =>
   some f
  else
   some false).bind fun g =>
  if g then
   (zcg a.1).bind fun h =>
   some (h, true)
  else
   if (p0 == 1) then
    (zcM p1 p2).bind fun j =>
    some (j, true)
   else
    if (p0 == 2) then
     if decide (p1.Lo < p2.Hi) then
      zaz.bind fun l =>
      some (l, true)
     else
      some ((zb.mk (qe (p1.Lo - p2.Hi)) (qe (p1.Hi - p2.Lo))), true)
    else
     if (p0 == 3) then
      (vR p1 p2).bind fun n =>
      some (n, true)
     else
      if (p0 == 4) then
       (vS p1 p2).bind fun q =>
       some (q, true)
      else
       if (p0 == 5) then
        (zbO p1 p2).bind fun v =>
        some (v, true)
       else
        if (p0 == 6) then
         some ((zb.mk 0 (zb1 p1.Hi p2.Hi)), true)
        else
         if (p0 == 7) then
          (zaT (bOr .u64 p1.Hi p2.Hi)).bind fun z =>
          some ((zb.mk (zcz p1.Lo p2.Lo) z), true)
         else
          if (p0 == 8) then
           (zaT (bOr .u64 p1.Hi p2.Hi)).bind fun A =>
           some ((zb.mk 0 A), true)
          else
           if (p0 == 9) then
            (zbk p1 p2).bind fun B =>
            some (B, true)
           else
            (nn p2.Hi).bind fun C =>
            (nn p2.Lo).bind fun D =>
            some ((zb.mk (zbv .u64 p1.Lo p2.Hi) (zbv .u64 p1.Hi p2.Lo)), true)
def qf (p0 : zf) (p1 : Int) (a : zc × (Nat -> za)) (c : Nat) (again : Unit -> Option (Unit ⊕ ((Nat -> za) × Int))) (f : Unit) : Option (Unit ⊕ ((Nat -> za) × Int)) :=
 (ain 8 (c : Int)).bind fun b =>
 (idx p0.ca (w64 (p1 - a.1.D))).bind fun d =>
 (zbC (a.2 b) (d b)).bind fun e =>
 if (!e) then
  some (.inr (a.2, 33))
 else
  again ()
def qE (fu : Nat) (p0 : zf) (p1 : Int) : Option ((Nat -> za) × Int) :=
 ((idx p0.Module.Co p1).bind fun f =>
 (idx p0.ca p1).bind fun g =>
 some (f, g)).bind fun a =>
 (zc5 a.1).bind fun h =>
 (if h then
  (za6 a.1 a.2).bind fun j =>
  some j
 else
  some (za.mk 0 (zb.mk 0 0) 0)).bind fun b =>
 (ain 8 a.1.A).bind fun c =>
 if (a.1.Op == 0) then
  if (b.Ki == 0) then
   some (a.2, 33)
  else
   (ain 8 a.1.D).bind fun l =>
   some ((jd a.2 l b), 0)
 else
  if (a.1.Op == 11) then
   zaz.bind fun n =>
   (jK n).bind fun q =>
   (ain 8 a.1.D).bind fun v =>
   (xF ([b])).bind fun z =>
   (za7 b).bind fun B =>
   (za0 ([z, B])).bind fun C =>
   some ((jd a.2 v q), C)
  else
   if (a.1.Op == 12) then
    (xF ([(a.2 c), b])).bind fun E =>
    (za7 b).bind fun F =>
    (za0 ([E, F])).bind fun G =>
    some (a.2, G)
   else
    if (a.1.Op == 13) then
     zaz.bind fun H =>
     (jK H).bind fun I =>
     (ain 8 a.1.D).bind fun J =>
     some ((jd a.2 J I), 0)
    else
     if (a.1.Op == 14) then
      (ain 8 a.1.D).bind fun d =>
      if decide (a.1.Imm >= ((p0.Module.Ms).length : Int)) then
       some ((jd a.2 d (za.mk 2 (zb.mk 0 0) a.1.Imm)), 35)
      else
       some ((jd a.2 d (za.mk 2 (zb.mk 0 0) a.1.Imm)), 0)
     else
      if (a.1.Op == 15) then
       some (a.2, 0)
      else
       (if (a.1.Op == 16) then
        some (a.1.Op == 16)
       else
        if (a.1.Op == 17) then
         some (a.1.Op == 17)
        else
         if (a.1.Op == 18) then
          some (a.1.Op == 18)
         else
          some (a.1.Op == 19)).bind fun K =>
       if K then
        (xF ([(a.2 c), b])).bind fun L =>
        some (a.2, L)
       else
        if (a.1.Op == 20) then
         (xF ([(a.2 c)])).bind fun e =>
         if (e != 0) then
          some (a.2, e)
         else
          (qO (qf p0 p1 a) (fun (W : Unit) => (.inl ())) 8 0 ()).bind fun M => match M with
           | .inl X =>
            some (a.2, 0)
           | .inr r => some r
        else
         if (a.1.Op == 21) then
          (qM fu a.1.Imm).bind fun N =>
          (cut (xD 8 a.2) 1 (w64 (1 + ((N).length : Int)))).bind fun O =>
          (vm fu a.1.Imm O).bind fun P =>
          (zaA a.1.Imm).bind fun Q =>
          some ((jd a.2 0 Q.1), P)
         else
          if (a.1.Op == 22) then
           (xF ([(a.2 c)])).bind fun R =>
           some (a.2, R)
          else
           (zdu a.1.Op (a.2 c).Sp b.Sp).bind fun S =>
           (jK S.1).bind fun T =>
           (ain 8 a.1.D).bind fun U =>
           (xF ([(a.2 c), b])).bind fun V =>
           some ((jd a.2 U T), V)
def zgc (p0 : List zb) (c : Nat) (again : zb -> Option (zb ⊕ (zb × Bool))) (b : zb) : Option (zb ⊕ (zb × Bool)) :=
 (idx p0 (c : Int)).bind fun a =>
 (vl a).bind fun d =>
 if (!d) then
  some (.inr ((zb.mk 0 0), false))
 else
  again (zb.mk (zb1 b.Lo a.Lo) (zcz b.Hi a.Hi))
def zd7 (p0 : List zb) : Option (zb × Bool) :=
 (qO (zgc p0) (fun (a : zb) => (.inl a)) (p0).length 0 (zb.mk 18446744073709551615 0)).bind fun b => match b with
  | .inl c =>
   if (((p0).length : Int) == 0) then
    some ((zb.mk 0 0), false)
   else
    some (c, true)
  | .inr r => some r
def zbP (p0 : za) (p1 : za) : Option za :=
 if ((p0.Ki != p1.Ki) || (p0.Map != p1.Map)) then
  some (za.mk 0 (zb.mk 0 0) 0)
 else
  if (p0.Ki == 1) then
   (zd7 ([p0.Sp, p1.Sp])).bind fun a =>
   (jK a.1).bind fun b =>
   some b
  else
   some p0
def qR (p1 : Int) (p2 : Nat -> za) (d : Nat) (again : zf -> Option zf) (a : zf) : Option zf :=
 (idx a.ca p1).bind fun c =>
 (ain 8 (d : Int)).bind fun b =>
 (zbP (c b) (p2 b)).bind fun e =>
 again (zf.mk a.Module (a.ca.set (Int.toNat p1) (jd c b e)) a.any a.loops)
def zG (p0 : zf) (p1 : Int) (p2 : Nat -> za) : Option zf :=
 (idx p0.any p1).bind fun a =>
 if (!a) then
  (idx p0.ca p1).bind fun d =>
  some (zf.mk p0.Module (p0.ca.set (Int.toNat p1) p2) (p0.any.set (Int.toNat p1) true) p0.loops)
 else
  (qO (qR p1 p2) (fun (b : zf) => b) 8 0 p0).bind fun c =>
  some c
def vY (p0 : Int) (p1 : Int) (p2 : Int) : Option (Bool × Bool) :=
 if (p0 == 16) then
  some ((p1 == p2), true)
 else
  if (p0 == 17) then
   some ((p1 != p2), true)
  else
   if (p0 == 18) then
    some (decide (p1 < p2), true)
   else
    if (p0 == 19) then
     some (decide (p1 >= p2), true)
    else
     some (false, false)
def zd8 (p0 : List zb) (c : Nat) (again : zb -> Option (zb ⊕ (zb × Bool))) (b : zb) : Option (zb ⊕ (zb × Bool)) :=
 (idx p0 (c : Int)).bind fun a =>
 (vl a).bind fun d =>
 if (!d) then
  some (.inr ((zb.mk 0 0), false))
 else
  again (zb.mk (zcz b.Lo a.Lo) (zb1 b.Hi a.Hi))
def vJ (p0 : List zb) : Option (zb × Bool) :=
 zaz.bind fun b =>
 (qO (zd8 p0) (fun (c : zb) => (.inl c)) (p0).length 0 b).bind fun d => match d with
  | .inl a =>
   (if (((p0).length : Int) == 0) then
    some true
   else
    (vl a).bind fun e =>
    some (!e)).bind fun f =>
   if f then
    some ((zb.mk 0 0), false)
   else
    some (a, true)
  | .inr r => some r
def jZ (p0 : Int) (p1 : zb) (p2 : zb) (p3 : Bool) : Option (zb × Bool) :=
 (vY p0 0 0).bind fun d =>
 (if (!d.2) then
  some true
 else
  (vl p1).bind fun e =>
  if (!e) then
   some true
  else
   (vl p2).bind fun f =>
   some (!f)).bind fun g =>
 if g then
  some ((zb.mk 0 0), false)
 else
  (xp p2).bind fun h =>
  if (!h) then
   some (p1, true)
  else
   (if ((p0 == 18) && p3) then
    some ((p0 == 18) && p3)
   else
    if (p0 == 19) then
     some (!p3)
    else
     some false).bind fun j =>
   if j then
    if (p2.Lo == 0) then
     some ((zb.mk 0 0), false)
    else
     (vJ ([p1, (zb.mk 0 (qe (p2.Lo - 1)))])).bind fun a =>
     some (a.1, a.2)
   else
    (if (p0 == 18) then
     some (p0 == 18)
    else
     some (p0 == 19)).bind fun l =>
    if l then
     (vJ ([p1, (zb.mk p2.Lo 18446744073709551615)])).bind fun b =>
     some (b.1, b.2)
    else
     (if ((p0 == 16) && p3) then
      some ((p0 == 16) && p3)
     else
      if (p0 == 17) then
       some (!p3)
      else
       some false).bind fun n =>
     if n then
      (vJ ([p1, p2])).bind fun c =>
      some (c.1, c.2)
     else
      if ((p1.Lo == p2.Lo) && ((p1.Hi == p2.Hi) && true)) then
       some ((zb.mk 0 0), false)
      else
       if (p1.Lo == p2.Lo) then
        some ((zb.mk (qe (p1.Lo + 1)) p1.Hi), true)
       else
        if (p1.Hi == p2.Lo) then
         some ((zb.mk p1.Lo (qe (p1.Hi - 1))), true)
        else
         some (p1, true)
def qB (p1 : Int) (p2 : Nat -> za) (a : zc) (f : Int × Bool × Bool) (g : za) (h : Nat) (again : zf -> Option zf) (b : zf) : Option zf :=
 (idx ([true, false]) (h : Int)).bind fun c =>
 (if (!c) then
  some (w64 (p1 + 1))
 else
  some (w64 (p1 + f.1))).bind fun j =>
 ((ain 8 a.A).bind fun l =>
 (jZ a.Op (p2 l).Sp g.Sp c).bind fun d =>
 some (d.1, d.2)).bind fun e =>
 if e.2 then
  (jK e.1).bind fun n =>
  (ain 8 a.A).bind fun q =>
  (zG b j (jd p2 q n)).bind fun v =>
  again v
 else
  again b
def jD (p0 : zf) (p1 : Int) (p2 : Nat -> za) : Option zf :=
 (idx p0.Module.Co p1).bind fun b =>
 (zdt b).bind fun a =>
 if ((!a.2.1) || decide (a.1 < 0)) then
  (if a.2.2 then
   (zG p0 (w64 (p1 + 1)) p2).bind fun c =>
   some c
  else
   some p0).bind fun d =>
  some d
 else
  if (!a.2.2) then
   (zG p0 (w64 (p1 + a.1)) p2).bind fun e =>
   some e
  else
   (za6 b p2).bind fun f =>
   (qO (qB p1 p2 b a f) (fun (g : zf) => g) 2 0 p0).bind fun h =>
   some h
def zN (fu : Nat) (a : Nat) (again : zf -> Option (zf ⊕ ((Option zf) × Int × Int))) (b : zf) : Option (zf ⊕ ((Option zf) × Int × Int)) :=
 (idx b.any (a : Int)).bind fun e =>
 if (!e) then
  again b
 else
  (jg b (a : Int)).bind fun d =>
  (qE fu d (a : Int)).bind fun c =>
  if (c.2 != 0) then
   some (.inr (none, (a : Int), c.2))
  else
   (jD d (a : Int) c.1).bind fun f =>
   again f
def qH (fu : Nat) (p0 : zj) : Option ((Option zf) × Int × Int) :=
 (zca p0.Ms).bind fun c =>
 if (!c) then
  some (none, 0, 2)
 else
  (zaL p0.Co).bind fun b =>
  if (b.2 != 0) then
   some (none, b.1, b.2)
  else
   ((mkLen ((p0.Co).length : Int) 256).bind fun d =>
   (mkLen ((p0.Co).length : Int) 1).bind fun e =>
   some (zf.mk p0 (List.replicate d (fun _ => (za.mk 0 (zb.mk 0 0) 0))) (List.replicate e false) ([] : List zP))).bind fun a =>
   (zc4 p0.Co).bind fun f =>
   (idx a.any 0).bind fun l =>
   (qO (zN fu) (fun (g : zf) => (.inl g)) (p0.Co).length 0 (zf.mk a.Module a.ca (a.any.set (Int.toNat 0) true) f.1)).bind fun h => match h with
    | .inl j =>
     some ((some j), 0, 0)
    | .inr r => some r
def va (fu : Nat) (p0 : zj) : Option (Int × Int) :=
 (qH fu p0).bind fun a =>
 zhe a.1
  (some (a.2.1, a.2.2))
  (fun b =>
  some (a.2.1, a.2.2))
def vp (p0 : qa) : Option qa :=
 some (qa.mk (fun _ => 0))
def xe (p0 : List Int) : Option (List Int) :=
 (room (([] : List Int).length + p0.length) 8).bind fun a =>
 some (([] : List Int) ++ p0)
def zy (p0 : List zc) : Option (List zc) :=
 (room (([] : List zc).length + p0.length) 40).bind fun a =>
 some (([] : List zc) ++ p0)
def zan (fu : Nat) (p0 : zj) (p1 : qv) (p2 : zk) : Option ((Option zg) × Int × zk) :=
 (va fu p0).bind fun a =>
 if (a.2 != 0) then
  some (none, a.2, p2)
 else
  (vp p2.Wo).bind fun b =>
  (xe p0.Ms).bind fun c =>
  (zy p0.Co).bind fun d =>
  some ((some (zg.mk p1 (zj.mk c d) (fun _ => 0) (fun _ => 0) 0 0 0)), 0, (zk.mk b p2.Ct))
def qk (fu : Nat) (p0 : zi) (p1 : Int) (p2 : Int) (p3 : zj) : Option (Int × zi) :=
 if (p0.mode_ != 1) then
  some (41, p0)
 else
  (zan fu p3 p0.job.event.Ev p0.Scratch).bind fun a =>
  zhe a.1
   (if (a.2.1 != 0) then
    some (a.2.1, (zi.mk a.2.2 p0.Stats p0.mode_ p0.job))
   else
    some (0, (zi.mk a.2.2 p0.Stats 2 (xE.mk p0.job.hook p0.job.event p1 p2 p0.job.calls none))))
   (fun b =>
   if (a.2.1 != 0) then
    some (a.2.1, (zi.mk a.2.2 p0.Stats p0.mode_ p0.job))
   else
    some (0, (zi.mk a.2.2 p0.Stats 2 (xE.mk p0.job.hook p0.job.event p1 p2 p0.job.calls (some b)))))
def zc7 (p0 : Int) : Option (Int × Bool) :=
 (xZ p0).bind fun a =>
 some (a.1.asks, a.1.isAsked)
def zV (p0 : zX) (p1 : Int) : Option (Int × Int × zX) :=
 if (decide (p1 < 0) || decide (p1 >= 16)) then
  some (0, 35, p0)
 else
  (ain 16 p1).bind fun a =>
  some (((jd p0.cn a (qe ((p0.cn a) + 1))) a), 0, (zX.mk (jd p0.cn a (qe ((p0.cn a) + 1)))))
def qS (fu : Nat) (p0 : zg) (p1 : Int) (g0 : zk) : Option (zA × zg × zk) :=
 (zc7 p1).bind fun c =>
 if c.2 then
  (idx p0.mo.Ms (p0.rg 1)).bind fun d =>
  (qM fu p1).bind fun e =>
  (if decide (((e).length : Int) > 2) then
   some (p0.rg 3)
  else
   some 0).bind fun f =>
  some ((zA.mk 2 p0.at_ (qq.mk d c.1 (p0.rg 2) f) 0), (zg.mk p0.Ev p0.mo p0.rg p0.tu p0.at_ p0.sp 1), g0)
 else
  (if (p1 == 5) then
   (zV g0.Ct (w64 (p0.rg 1))).bind fun b =>
   some ((zg.mk p0.Ev p0.mo (jd p0.rg 0 b.1) p0.tu p0.at_ p0.sp p0.sa), (zk.mk g0.Wo b.2.2), (zA.mk 1 p0.at_ (qq.mk 0 0 0 0) b.1))
  else
   some ((zg.mk p0.Ev p0.mo (jd p0.rg 0 0) p0.tu p0.at_ p0.sp p0.sa), g0, (zA.mk 3 p0.at_ (qq.mk 0 0 0 0) (p0.rg 1)))).bind fun a =>
  some (a.2.2, (zg.mk a.1.Ev a.1.mo a.1.rg a.1.tu (w64 (a.1.at_ + 1)) a.1.sp a.1.sa), a.2.1)
def qT (p0 : zg) (p1 : zc) : Option Int :=
 if (p1.B == 8) then
  some (qe p1.Imm)
 else
  (ain 8 p1.B).bind fun a =>
  some (p0.rg a)
def qg (p0 : qa) (p1 : Int) : Option (Int × Int) :=
 if (decide (p1 < 0) || decide (p1 >= 16)) then
  some (0, 35)
 else
  (ain 16 p1).bind fun a =>
  some ((p0.wo a), 0)
def qU (p0 : qa) (p1 : Int) (p2 : Int) : Option (Int × qa) :=
 if (decide (p1 < 0) || decide (p1 >= 16)) then
  some (35, p0)
 else
  (ain 16 p1).bind fun a =>
  some (0, (qa.mk (jd p0.wo a p2)))
def qN (p0 : zg) (p1 : zc) (g0 : zk) : Option (Int × zg × zk) :=
 if (p1.Op == 0) then
  (qT (zg.mk p0.Ev p0.mo p0.rg p0.tu p0.at_ p0.sp p0.sa) p1).bind fun e =>
  (ain 8 p1.D).bind fun f =>
  some (1, (zg.mk p0.Ev p0.mo (jd p0.rg f e) p0.tu p0.at_ p0.sp p0.sa), g0)
 else
  if (p1.Op == 11) then
   (qT (zg.mk p0.Ev p0.mo p0.rg p0.tu p0.at_ p0.sp p0.sa) p1).bind fun g =>
   (qg g0.Wo (w64 g)).bind fun h =>
   (ain 8 p1.D).bind fun j =>
   some (1, (zg.mk p0.Ev p0.mo (jd p0.rg j h.1) p0.tu p0.at_ p0.sp p0.sa), g0)
  else
   if (p1.Op == 12) then
    (ain 8 p1.A).bind fun l =>
    (qT (zg.mk p0.Ev p0.mo p0.rg p0.tu p0.at_ p0.sp p0.sa) p1).bind fun n =>
    (qU g0.Wo (w64 n) (p0.rg l)).bind fun q =>
    some (1, (zg.mk p0.Ev p0.mo p0.rg p0.tu p0.at_ p0.sp p0.sa), (zk.mk q.2 g0.Ct))
   else
    if (p1.Op == 13) then
     (ain 8 p1.D).bind fun a =>
     if (p1.Imm == 1) then
      some (1, (zg.mk p0.Ev p0.mo (jd (jd p0.rg a p0.Ev.A) a p0.Ev.B) p0.tu p0.at_ p0.sp p0.sa), g0)
     else
      some (1, (zg.mk p0.Ev p0.mo (jd p0.rg a p0.Ev.A) p0.tu p0.at_ p0.sp p0.sa), g0)
    else
     if (p1.Op == 14) then
      (ain 8 p1.D).bind fun v =>
      some (1, (zg.mk p0.Ev p0.mo (jd p0.rg v (qe p1.Imm)) p0.tu p0.at_ p0.sp p0.sa), g0)
     else
      if (p1.Op == 15) then
       some (w64 (p1.D + 1), p0, g0)
      else
       if (p1.Op == 20) then
        ((ain 8 p1.A).bind fun z =>
        if ((p0.rg z) != 0) then
         (ain 64 p0.at_).bind fun C =>
         some (decide ((p0.tu C) < p1.Imm))
        else
         some false).bind fun E =>
        if E then
         (ain 64 (zg.mk p0.Ev p0.mo p0.rg p0.tu p0.at_ p0.sp p0.sa).at_).bind fun b =>
         some (w64 (0 - p1.D), (zg.mk (zg.mk p0.Ev p0.mo p0.rg p0.tu p0.at_ p0.sp p0.sa).Ev (zg.mk p0.Ev p0.mo p0.rg p0.tu p0.at_ p0.sp p0.sa).mo (zg.mk p0.Ev p0.mo p0.rg p0.tu p0.at_ p0.sp p0.sa).rg (jd (zg.mk p0.Ev p0.mo p0.rg p0.tu p0.at_ p0.sp p0.sa).tu b (w64 (((zg.mk p0.Ev p0.mo p0.rg p0.tu p0.at_ p0.sp p0.sa).tu b) + 1))) (zg.mk p0.Ev p0.mo p0.rg p0.tu p0.at_ p0.sp p0.sa).at_ (zg.mk p0.Ev p0.mo p0.rg p0.tu p0.at_ p0.sp p0.sa).sp (zg.mk p0.Ev p0.mo p0.rg p0.tu p0.at_ p0.sp p0.sa).sa), g0)
        else
         (ain 64 (zg.mk p0.Ev p0.mo p0.rg p0.tu p0.at_ p0.sp p0.sa).at_).bind fun F =>
         some (1, (zg.mk (zg.mk p0.Ev p0.mo p0.rg p0.tu p0.at_ p0.sp p0.sa).Ev (zg.mk p0.Ev p0.mo p0.rg p0.tu p0.at_ p0.sp p0.sa).mo (zg.mk p0.Ev p0.mo p0.rg p0.tu p0.at_ p0.sp p0.sa).rg (jd (zg.mk p0.Ev p0.mo p0.rg p0.tu p0.at_ p0.sp p0.sa).tu F 0) (zg.mk p0.Ev p0.mo p0.rg p0.tu p0.at_ p0.sp p0.sa).at_ (zg.mk p0.Ev p0.mo p0.rg p0.tu p0.at_ p0.sp p0.sa).sp (zg.mk p0.Ev p0.mo p0.rg p0.tu p0.at_ p0.sp p0.sa).sa), g0)
       else
        (ain 8 p1.A).bind fun c =>
        (qT (zg.mk p0.Ev p0.mo p0.rg p0.tu p0.at_ p0.sp p0.sa) p1).bind fun G =>
        (zb3 p1.Op (p0.rg c) G).bind fun d =>
        if d.2 then
         (ain 8 p1.D).bind fun H =>
         some (1, (zg.mk p0.Ev p0.mo (jd p0.rg H d.1) p0.tu p0.at_ p0.sp p0.sa), g0)
        else
         (qT (zg.mk p0.Ev p0.mo p0.rg p0.tu p0.at_ p0.sp p0.sa) p1).bind fun I =>
         (vY p1.Op (p0.rg c) I).bind fun J =>
         if J.1 then
          some (w64 (p1.D + 1), (zg.mk p0.Ev p0.mo p0.rg p0.tu p0.at_ p0.sp p0.sa), g0)
         else
          some (1, (zg.mk p0.Ev p0.mo p0.rg p0.tu p0.at_ p0.sp p0.sa), g0)
def ql (fu : Nat) (p0 : zg) (g0 : zk) : Option (zA × zg × zk) :=
 if (p0.sa == 1) then
  some ((zA.mk 5 p0.at_ (qq.mk 0 0 0 0) 0), (zg.mk p0.Ev p0.mo p0.rg p0.tu p0.at_ p0.sp p0.sa), g0)
 else
  if (p0.sa == 2) then
   (idx p0.mo.Co p0.at_).bind fun d =>
   (ain 8 d.A).bind fun e =>
   some ((zA.mk 6 p0.at_ (qq.mk 0 0 0 0) (p0.rg e)), (zg.mk p0.Ev p0.mo p0.rg p0.tu p0.at_ p0.sp p0.sa), g0)
  else
   (idx p0.mo.Co p0.at_).bind fun b =>
   if (b.Op == 21) then
    (qS fu (zg.mk p0.Ev p0.mo p0.rg p0.tu p0.at_ (w64 (p0.sp + 1)) p0.sa) b.Imm g0).bind fun c =>
    some (c.1, c.2.1, c.2.2)
   else
    if (b.Op == 22) then
     (ain 8 b.A).bind fun f =>
     some ((zA.mk 4 p0.at_ (qq.mk 0 0 0 0) (p0.rg f)), (zg.mk p0.Ev p0.mo p0.rg p0.tu p0.at_ (w64 (p0.sp + 1)) 2), g0)
    else
     (qN (zg.mk p0.Ev p0.mo p0.rg p0.tu p0.at_ (w64 (p0.sp + 1)) p0.sa) b g0).bind fun a =>
     some ((zA.mk 1 p0.at_ (qq.mk 0 0 0 0) 0), (zg.mk a.2.1.Ev a.2.1.mo a.2.1.rg a.2.1.tu (w64 (p0.at_ + a.1)) a.2.1.sp a.2.1.sa), a.2.2)
def xJ (p0 : zg) : Option Int :=
 some p0.sp
def za1 (p0 : Int) : Option Bool :=
 some (decide (p0 >= 0) && decide (p0 < 4))
def zix (p0 : List zu) (c : Nat) (again : zu -> Option zu) (a : zu) : Option zu :=
 (idx p0 (c : Int)).bind fun b =>
 again (zu.mk (qe (a.Runs + b.Runs)) (qe (a.Missed + b.Missed)) (qe (a.Steps + b.Steps)) (qe (a.Calls + b.Calls)) (qe (a.Sum + b.Sum)))
def zfp (p0 : List zu) : Option zu :=
 (qO (zix p0) (fun (a : zu) => a) (p0).length 0 (zu.mk 0 0 0 0 0)).bind fun b =>
 some b
def vK (p0 : zt) (p1 : Int) (p2 : Int) (p3 : Int) (p4 : Int) : Option (Int × zt) :=
 (za1 p1).bind fun b =>
 if (!b) then
  some (2, p0)
 else
  (ain 4 p1).bind fun a =>
  (zfp ([(p0.hooks a), (zu.mk 1 0 p2 p3 p4)])).bind fun c =>
  some (0, (zt.mk (jd p0.hooks a c)))
def xa (p0 : zi) : Option zi :=
 some (zi.mk p0.Scratch p0.Stats 0 (xE.mk 0 (je.mk 0 (qv.mk 0 0)) 0 0 0 none))
def qh (fu : Nat) (p0 : zi) : Option (zA × Bool × zi) :=
 if (p0.mode_ != 2) then
  some ((zA.mk 0 0 (qq.mk 0 0 0 0) 0), false, p0)
 else
  p0.job.machine.bind fun b =>
  (ql fu b p0.Scratch).bind fun a =>
  if (a.1.Ki == 2) then
   some (a.1, true, (zi.mk a.2.2 p0.Stats 3 (xE.mk p0.job.hook p0.job.event p0.job.version p0.job.prog (qe (p0.job.calls + 1)) (some a.2.1))))
  else
   if (a.1.Ki == 4) then
    (xJ (zg.mk a.2.1.Ev a.2.1.mo a.2.1.rg a.2.1.tu a.2.1.at_ a.2.1.sp a.2.1.sa)).bind fun c =>
    (vK p0.Stats p0.job.hook (qe c) p0.job.calls a.1.Val).bind fun d =>
    (xa (zi.mk a.2.2 d.2 p0.mode_ (xE.mk p0.job.hook p0.job.event p0.job.version p0.job.prog p0.job.calls (some (zg.mk a.2.1.Ev a.2.1.mo a.2.1.rg a.2.1.tu a.2.1.at_ a.2.1.sp a.2.1.sa))))).bind fun e =>
    some (a.1, true, e)
   else
    some (a.1, true, (zi.mk a.2.2 p0.Stats p0.mode_ (xE.mk p0.job.hook p0.job.event p0.job.version p0.job.prog p0.job.calls (some a.2.1))))
def vB (p0 : zt) (p1 : Int) : Option (zu × Int) :=
 (za1 p1).bind fun a =>
 if (!a) then
  some ((zu.mk 0 0 0 0 0), 2)
 else
  (ain 4 p1).bind fun b =>
  some ((p0.hooks b), 0)
def xR (fu : Nat)  : Option Bool :=
 zb9.bind fun f =>
 ((jX f 1 (je.mk 4 (qv.mk 5 0))).bind fun a =>
 if (a.1 != 0) then
  some (a.2, true)
 else
  (jY a.2).bind fun g =>
  some (a.2, (g != 1))).bind fun d =>
 if d.2 then
  some false
 else
  (qk fu d.1 3 7 (zj.mk ([] : List Int) ([(zc.mk 13 0 0 0 0), (zc.mk 22 0 0 0 0)]))).bind fun e =>
  if (e.1 != 0) then
   some false
  else
   (qh fu e.2).bind fun h =>
   (qh fu h.2.2).bind fun b =>
   (vB b.2.2.Stats 1).bind fun c =>
   (if b.2.1 then
    if (b.1.Val == 5) then
     (jY b.2.2).bind fun j =>
     if (j == 0) then
      if (c.2 == 0) then
       if (c.1.Runs == 1) then
        some (c.1.Sum == 5)
       else
        some false
      else
       some false
     else
      some false
    else
     some false
   else
    some false).bind fun l =>
   some l
def zaB  : Option ze :=
 some (ze.mk (zh.mk ([] : List zp)) ([] : List zm) 0 0 (je.mk 0 (qv.mk 0 0)) 0 0 0 none)
def xb (p0 : ze) (p1 : Int) (p2 : je) : Option (Int × ze) :=
 if (decide (p1 < 0) || decide (p1 > 3)) then
  some (2, p0)
 else
  if (p0.Mode != 0) then
   some (42, p0)
  else
   some (0, (ze.mk p0.Book p0.Told 1 p1 p2 p0.Version p0.Prog p0.Calls p0.M))
def vq (p0 : zj) : Option zj :=
 ((room (([] : List Int).length + p0.Ms.length) 8).bind fun a =>
 (room (([] : List zc).length + p0.Co.length) 40).bind fun b =>
 some ()).bind fun c =>
 some (zj.mk (([] : List Int) ++ p0.Ms) (([] : List zc) ++ p0.Co))
def zci (p0 : List Int) (a : Nat) (b : Nat) (again : Unit -> Option (Unit ⊕ Bool)) (e : Unit) : Option (Unit ⊕ Bool) :=
 (idx p0 (b : Int)).bind fun c =>
 (idx p0 (a : Int)).bind fun d =>
 if (c == d) then
  some (.inr false)
 else
  again ()
def vc (p0 : List Int) (a : Nat) (again : Unit -> Option (Unit ⊕ Bool)) (e : Unit) : Option (Unit ⊕ Bool) :=
 ((idx p0 (a : Int)).bind fun b =>
 if decide (b < 0) then
  some true
 else
  some (decide (b > 3))).bind fun c =>
 if c then
  some (.inr false)
 else
  ((room a 1).bind fun f =>
  qO (zci p0 a) (fun (g : Unit) => (.inl ())) a 0 ()).bind fun d => match d with
   | .inl h =>
    again ()
   | .inr r => some (.inr r)
def ja (fu : Nat) (p0 : List Int) : Option Bool :=
 if decide (((p0).length : Int) > 4) then
  some false
 else
  (qO (vc p0) (fun (b : Unit) => (.inl ())) (p0).length 0 ()).bind fun a => match a with
   | .inl c =>
    some true
   | .inr r => some r
def qi (p0 : Int) : Option Bool :=
 some (decide (p0 >= 0) && decide (p0 <= 7))
def qV (p0 : zc) : Option Bool :=
 ((qi p0.B).bind fun a =>
 if a then
  if (p0.Imm == 0) then
   some true
  else
   some (p0.B == 8)
 else
  some (p0.B == 8)).bind fun b =>
 some b
def zW (p0 : Int) : Option Bool :=
 some (decide (p0 >= 1) && decide (p0 <= 10))
def jE (p0 : Int) : Option Bool :=
 some (decide (p0 >= 16) && decide (p0 <= 19))
def jL (p0 : zc) : Option Bool :=
 if ((p0.Op == 0) || (p0.Op == 11)) then
  ((qi p0.D).bind fun a =>
  if a then
   if (p0.A == 0) then
    (qV p0).bind fun b =>
    some b
   else
    some false
  else
   some false).bind fun c =>
  some c
 else
  (zW p0.Op).bind fun d =>
  if d then
   ((qi p0.D).bind fun e =>
   if e then
    (qi p0.A).bind fun f =>
    if f then
     (qV p0).bind fun g =>
     some g
    else
     some false
   else
    some false).bind fun h =>
   some h
  else
   if (p0.Op == 12) then
    (if (p0.D == 0) then
     (qi p0.A).bind fun j =>
     if j then
      (qV p0).bind fun l =>
      some l
     else
      some false
    else
     some false).bind fun n =>
    some n
   else
    if (p0.Op == 13) then
     ((qi p0.D).bind fun q =>
     if q then
      if (p0.A == 0) then
       if (p0.B == 0) then
        if (p0.Imm == 0) then
         some true
        else
         some (p0.Imm == 1)
       else
        some false
      else
       some false
     else
      some false).bind fun v =>
     some v
    else
     if (p0.Op == 14) then
      ((qi p0.D).bind fun z =>
      if z then
       if (p0.A == 0) then
        if (p0.B == 0) then
         if decide (p0.Imm >= 0) then
          some (decide (p0.Imm <= 3))
         else
          some false
        else
         some false
       else
        some false
      else
       some false).bind fun C =>
      some C
     else
      if (p0.Op == 15) then
       some ((((decide (p0.D >= 0) && decide (p0.D <= 63)) && (p0.A == 0)) && (p0.B == 0)) && (p0.Imm == 0))
      else
       (jE p0.Op).bind fun E =>
       if E then
        (if decide (p0.D >= 0) then
         if decide (p0.D <= 63) then
          (qi p0.A).bind fun F =>
          if F then
           (qV p0).bind fun G =>
           some G
          else
           some false
         else
          some false
        else
         some false).bind fun H =>
        some H
       else
        if (p0.Op == 20) then
         (if decide (p0.D >= 1) then
          if decide (p0.D <= 63) then
           (qi p0.A).bind fun I =>
           if I then
            if (p0.B == 0) then
             if decide (p0.Imm >= 1) then
              some (decide (p0.Imm <= 255))
             else
              some false
            else
             some false
           else
            some false
          else
           some false
         else
          some false).bind fun J =>
         some J
        else
         if (p0.Op == 21) then
          some (((((p0.D == 0) && (p0.A == 0)) && (p0.B == 0)) && decide (p0.Imm >= 0)) && decide (p0.Imm <= 6))
         else
          if (p0.Op == 22) then
           (if (p0.D == 0) then
            (qi p0.A).bind fun K =>
            if K then
             if (p0.B == 0) then
              some (p0.Imm == 0)
             else
              some false
            else
             some false
           else
            some false).bind fun L =>
           some L
          else
           some false
def jF (p0 : zc) : Option (Int × Bool × Bool) :=
 (jL p0).bind fun a =>
 if (!a) then
  some (0, false, false)
 else
  if (p0.Op == 15) then
   some (w64 (p0.D + 1), true, false)
  else
   (jE p0.Op).bind fun b =>
   if b then
    some (w64 (p0.D + 1), true, true)
   else
    if (p0.Op == 20) then
     some (w64 (0 - p0.D), true, true)
    else
     some (0, false, (p0.Op != 22))
def xz (b : Nat) (again : ((List (List Int)) × Int) -> Option (List (List Int))) (a : (List (List Int)) × Int) : Option (List (List Int)) :=
 if decide (a.2 <= (b : Int)) then
  (idx a.1 a.2).bind fun c =>
  (room (c.length + ([(b : Int)]).length) 8).bind fun d =>
  again ((a.1.set (Int.toNat a.2) (c ++ [(b : Int)])), w64 (a.2 + 1))
 else
  some a.1
def xA (fu : Nat) (p0 : List zc) (a : Nat) (again : (List (List Int)) -> Option (List (List Int))) (b : (List (List Int))) : Option (List (List Int)) :=
 (idx p0 (a : Int)).bind fun c =>
 if (c.Op != 20) then
  again b
 else
  (loop (xz a) fu (b, w64 ((a : Int) - c.D))).bind fun d =>
  again d
def jw (fu : Nat) (p0 : List zc) : Option (List (List Int)) :=
 (mkLen ((p0).length : Int) 24).bind fun a =>
 (qO (xA fu p0) (fun (b : (List (List Int))) => b) (p0).length 0 (List.replicate a [])).bind fun c =>
 some c
def zcN (p0 : List Int) (p1 : Int) (a : Nat) (again : Unit -> Option (Unit ⊕ Bool)) (c : Unit) : Option (Unit ⊕ Bool) :=
 (idx p0 (a : Int)).bind fun b =>
 if (b == p1) then
  some (.inr true)
 else
  again ()
def vd (p0 : List Int) (p1 : Int) : Option Bool :=
 (qO (zcN p0 p1) (fun (b : Unit) => (.inl ())) (p0).length 0 ()).bind fun a => match a with
  | .inl c =>
   some false
  | .inr r => some r
def vZ (p1 : List (List Int)) (c : Nat) (d : Nat) (e : Nat) (again : (Int × Bool) -> Option (Int × Bool)) (a : Int × Bool) : Option (Int × Bool) :=
 (idx p1 (e : Int)).bind fun b =>
 (vd b (d : Int)).bind fun f =>
 if f then
  (vd b (c : Int)).bind fun g =>
  if g then
   again (w64 (a.1 + 1), a.2)
  else
   again (a.1, false)
 else
  again (a.1, a.2)
def zaa (p0 : List zc) (p1 : List (List Int)) (a : Nat) (b : Nat) (again : Unit -> Option (Unit ⊕ (Int × Bool))) (f : Unit) : Option (Unit ⊕ (Int × Bool)) :=
 (idx p0 (b : Int)).bind fun e =>
 if (e.Op != 20) then
  again ()
 else
  (qO (vZ p1 a b) (fun (c : Int × Bool) => (c.1, c.2)) (p0).length 0 (0, true)).bind fun d =>
  if (decide (d.1 > 0) && (!d.2)) then
   some (.inr ((a : Int), true))
  else
   again ()
def jh (p0 : List zc) (p1 : List (List Int)) (a : Nat) (again : Unit -> Option (Unit ⊕ (Int × Bool))) (d : Unit) : Option (Unit ⊕ (Int × Bool)) :=
 (idx p0 (a : Int)).bind fun b =>
 if (b.Op != 20) then
  again ()
 else
  ((room a 1).bind fun e =>
  qO (zaa p0 p1 a) (fun (f : Unit) => (.inl ())) a 0 ()).bind fun c => match c with
   | .inl g =>
    again ()
   | .inr r => some (.inr r)
def qI (fu : Nat) (p0 : List zc) (p1 : List (List Int)) : Option (Int × Bool) :=
 (qO (jh p0 p1) (fun (b : Unit) => (.inl ())) (p0).length 0 ()).bind fun a => match a with
  | .inl c =>
   some (0, false)
  | .inr r => some r
def jk (p0 : List zc) (p1 : List (List Int)) (a : Nat) (d : Int × Bool × Bool) (again : Int -> Option (Unit ⊕ (Int × Bool))) (b : Int) : Option (Unit ⊕ (Int × Bool)) :=
 (idx p1 (w64 ((a : Int) + d.1))).bind fun e =>
 if decide (b < ((e).length : Int)) then
  (idx e b).bind fun c =>
  ((idx p1 (a : Int)).bind fun f =>
  (vd f c).bind fun g =>
  if (!g) then
   (idx p0 c).bind fun h =>
   some ((w64 ((a : Int) + d.1)) != (w64 (c - h.D)))
  else
   some false).bind fun j =>
  if j then
   some (.inr ((a : Int), true))
  else
   again (w64 (b + 1))
 else
  some (.inl ())
def jl (fu : Nat) (p0 : List zc) (p1 : List (List Int)) (b : Nat) (again : Unit -> Option (Unit ⊕ (Int × Bool))) (e : Unit) : Option (Unit ⊕ (Int × Bool)) :=
 (idx p0 (b : Int)).bind fun c =>
 (jF c).bind fun a =>
 if ((!a.2.1) || decide (a.1 < 0)) then
  again ()
 else
  (loop (jk p0 p1 b a) fu 0).bind fun d => match d with
   | .inl f =>
    again ()
   | .inr r => some (.inr r)
def qJ (fu : Nat) (p0 : List zc) (p1 : List (List Int)) : Option (Int × Bool) :=
 (qO (jl fu p0 p1) (fun (b : Unit) => (.inl ())) (p0).length 0 ()).bind fun a => match a with
  | .inl c =>
   some (0, false)
  | .inr r => some r
def xq (p0 : List zc) (p1 : List (List Int)) (b : Nat) (again : (Int × Int) -> Option Int) (a : Int × Int) : Option Int :=
 ((idx p1 (b : Int)).bind fun c =>
 if decide (a.2 < ((c).length : Int)) then
  some (decide (a.1 <= 256))
 else
  some false).bind fun d =>
 if d then
  (idx p1 (b : Int)).bind fun e =>
  (idx e a.2).bind fun f =>
  (idx p0 f).bind fun g =>
  again (w64 (a.1 * (w64 (g.Imm + 1))), w64 (a.2 + 1))
 else
  some a.1
def ve (fu : Nat) (p0 : List zc) (p1 : List (List Int)) (a : Nat) (again : Int -> Option Int) (b : Int) : Option Int :=
 (loop (xq p0 p1 a) fu (1, 0)).bind fun c =>
 again (w64 (b + c))
def xi (fu : Nat) (p0 : List zc) (p1 : List (List Int)) : Option Int :=
 (qO (ve fu p0 p1) (fun (a : Int) => a) (p0).length 0 0).bind fun b =>
 some b
def xf (p0 : List zc) (a : Nat) (again : Unit -> Option (Unit ⊕ (Int × Int))) (e : Unit) : Option (Unit ⊕ (Int × Int)) :=
 (idx p0 (a : Int)).bind fun c =>
 (jL c).bind fun d =>
 if (!d) then
  some (.inr ((a : Int), 12))
 else
  (jF c).bind fun b =>
  if (b.2.1 && (decide ((w64 ((a : Int) + b.1)) < 0) || decide ((w64 ((a : Int) + b.1)) > (w64 (((p0).length : Int) - 1))))) then
   some (.inr ((a : Int), 30))
  else
   if (b.2.2 && ((w64 ((a : Int) + 1)) == ((p0).length : Int))) then
    some (.inr ((a : Int), 36))
   else
    again ()
def jn (fu : Nat) (p0 : List zc) : Option (Int × Int) :=
 if (((p0).length : Int) == 0) then
  some (0, 10)
 else
  if decide (((p0).length : Int) > 64) then
   some (0, 11)
  else
   (qO (xf p0) (fun (f : Unit) => (.inl ())) (p0).length 0 ()).bind fun d => match d with
    | .inl g =>
     (jw fu p0).bind fun a =>
     (qI fu p0 a).bind fun b =>
     if b.2 then
      some (b.1, 31)
     else
      (qJ fu p0 a).bind fun c =>
      if c.2 then
       some (c.1, 31)
      else
       (xi fu p0 a).bind fun e =>
       if decide (e > 256) then
        some (0, 32)
       else
        some (0, 0)
    | .inr r => some r
def xB (p0 : Int) (p1 : Int) : Option za :=
 some (za.mk 1 (zb.mk p0 p1) 0)
def jx (p0 : zc) (p1 : List za) : Option za :=
 if (p0.B == 8) then
  (xB (qe p0.Imm) (qe p0.Imm)).bind fun a =>
  some a
 else
  (idx p1 p0.B).bind fun b =>
  some b
def zQ (p0 : zb) : Option Bool :=
 some (!decide (p0.Hi < p0.Lo))
def jH (p0 : Int) (p1 : Int) (a : Nat) (again : (Int × Int) -> Option Int) (b : Int × Int) : Option Int :=
 again (bOr .u64 b.1 (zfR .u64 (zeZ .u64 (qe ((qe ((zeZ .u64 (zbv .u64 p0 (qe (a : Int))) 1) + (zeZ .u64 (zbv .u64 p1 (qe (a : Int))) 1))) + b.2)) 1) (qe (a : Int))), zbv .u64 (qe ((qe ((zeZ .u64 (zbv .u64 p0 (qe (a : Int))) 1) + (zeZ .u64 (zbv .u64 p1 (qe (a : Int))) 1))) + b.2)) 1)
def qF (p0 : Int) (p1 : Int) : Option Int :=
 (qO (jH p0 p1) (fun (a : Int × Int) => a.1) 64 0 (0, 0)).bind fun b =>
 some b
def xS (p0 : Int) (p1 : Int) : Option Int :=
 (qF (zi6 .u64 18446744073709551615 p1) 1).bind fun a =>
 (qF p0 a).bind fun b =>
 some b
def xg (p1 : Int) (b : Nat) (again : (Int × Int) -> Option Int) (a : Int × Int) : Option Int :=
 (if ((zeZ .u64 (zbv .u64 p1 (qe (b : Int))) 1) == 1) then
  (qF a.2 a.1).bind fun c =>
  some c
 else
  some a.2).bind fun d =>
 (qF a.1 a.1).bind fun e =>
 again (e, d)
def vL (p0 : Int) (p1 : Int) : Option Int :=
 (qO (xg p1) (fun (a : Int × Int) => a.2) 64 0 (p0, 0)).bind fun b =>
 some b
def qr (p0 : Int) (p1 : Int) (again : (Int × Int × Int) -> Option (Int × Int)) (a : Int × Int × Int) : Option (Int × Int) :=
 if decide (a.2.2 >= 0) then
  (nn (qe a.2.2)).bind fun c =>
  if (((zbv .u64 a.2.1 63) == 1) || decide ((bOr .u64 (zfR .u64 a.2.1 1) (zeZ .u64 (zbv .u64 p0 (qe a.2.2)) 1)) >= p1)) then
   (xS (bOr .u64 (zfR .u64 a.2.1 1) (zeZ .u64 (zbv .u64 p0 (qe a.2.2)) 1)) p1).bind fun b =>
   (nn (qe a.2.2)).bind fun d =>
   again (bOr .u64 a.1 (zfR .u64 1 (qe a.2.2)), b, w64 (a.2.2 - 1))
  else
   again (a.1, bOr .u64 (zfR .u64 a.2.1 1) (zeZ .u64 (zbv .u64 p0 (qe a.2.2)) 1), w64 (a.2.2 - 1))
 else
  some (a.1, a.2.1)
def jM (fu : Nat) (p0 : Int) (p1 : Int) : Option (Int × Int) :=
 (loop (qr p0 p1) fu (0, 0, 63)).bind fun a =>
 some (a.1, a.2)
def qw (p0 : Int) (p2 : Int) (again : (Int × Int) -> Option Int) (a : Int × Int) : Option Int :=
 if (decide (a.2 < p2) && decide (a.1 > 0)) then
  if (p0 == 9) then
   (qF a.1 a.1).bind fun b =>
   again (b, qe (a.2 + 1))
  else
   again (qe (a.1.tdiv 2), qe (a.2 + 1))
 else
  some a.1
def zL (fu : Nat) (p0 : Int) (p1 : Int) (p2 : Int) : Option (Int × Bool) :=
 if (p0 == 1) then
  (qF p1 p2).bind fun c =>
  some (c, true)
 else
  if (p0 == 2) then
   (xS p1 p2).bind fun d =>
   some (d, true)
  else
   if (p0 == 3) then
    (vL p1 p2).bind fun e =>
    some (e, true)
   else
    (if (p0 == 4) then
     some (p0 == 4)
    else
     some (p0 == 5)).bind fun f =>
    if f then
     (if decide (p2 > 0) then
      (jM fu p1 p2).bind fun a =>
      some (a.1, a.2)
     else
      some (0, p1)).bind fun b =>
     if (p0 == 4) then
      some (b.1, true)
     else
      some (b.2, true)
    else
     if (p0 == 6) then
      some (zi6 .u64 18446744073709551615 (bOr .u64 (zi6 .u64 18446744073709551615 p1) (zi6 .u64 18446744073709551615 p2)), true)
     else
      if (p0 == 7) then
       some (zi6 .u64 18446744073709551615 (zeZ .u64 (zi6 .u64 18446744073709551615 p1) (zi6 .u64 18446744073709551615 p2)), true)
      else
       if (p0 == 8) then
        some (bOr .u64 (zhi .u64 p1 p2) (zhi .u64 p2 p1), true)
       else
        (if (p0 == 9) then
         some (p0 == 9)
        else
         some (p0 == 10)).bind fun g =>
        if g then
         (loop (qw p0 p2) fu (p1, 0)).bind fun h =>
         some (h, true)
        else
         some (0, false)
def vM (p0 : Int) (p1 : Int) : Option Bool :=
 (if decide (p0 > 0) then
  (nz p0).bind fun b =>
  some (decide (p1 > (qe (Int.tdiv 18446744073709551615 p0))))
 else
  some false).bind fun a =>
 some a
def qW (p0 : Int) (again : Int -> Option Int) (a : Int) : Option Int :=
 if decide (a < p0) then
  again (qe ((qe (2 * a)) + 1))
 else
  some a
def jc (fu : Nat) (p0 : Int) : Option Int :=
 (loop (qW p0) fu 0).bind fun a =>
 some a
def qn (p1 : Int) (again : (zb × Int) -> Option (zb ⊕ (zb × Bool))) (a : zb × Int) : Option (zb ⊕ (zb × Bool)) :=
 if (decide (a.2 < p1) && decide (a.1.Hi > 0)) then
  if decide (a.1.Hi > 9223372036854775807) then
   some (.inr ((zb.mk 0 0), false))
  else
   again ((zb.mk (qe (2 * a.1.Lo)) (qe (2 * a.1.Hi))), qe (a.2 + 1))
 else
  some (.inl a.1)
def qC (fu : Nat) (p0 : zb) (p1 : Int) : Option (zb × Bool) :=
 (loop (qn p1) fu (p0, 0)).bind fun a => match a with
  | .inl b =>
   some (b, true)
  | .inr r => some r
def qX (p1 : Int) (again : (Int × Int) -> Option Int) (a : Int × Int) : Option Int :=
 if (decide (a.2 < p1) && decide (a.1 > 0)) then
  again (qe (a.1.tdiv 2), qe (a.2 + 1))
 else
  some a.1
def jG (fu : Nat) (p0 : Int) (p1 : Int) : Option Int :=
 (loop (qX p1) fu (p0, 0)).bind fun a =>
 some a
def xQ (fu : Nat) (p0 : Int) (p1 : zb) (p2 : zb) : Option (zb × Bool) :=
 (if decide (p0 < 1) then
  some true
 else
  if decide (p0 > 10) then
   some true
  else
   (zQ p1).bind fun c =>
   if (!c) then
    some true
   else
    (zQ p2).bind fun d =>
    some (!d)).bind fun e =>
 if e then
  some ((zb.mk 0 0), false)
 else
  if ((p1.Lo == p1.Hi) && (p2.Lo == p2.Hi)) then
   (zL fu p0 p1.Lo p2.Lo).bind fun a =>
   some ((zb.mk a.1 a.1), true)
  else
   if (p0 == 1) then
    if decide (p1.Hi > (qe (18446744073709551615 - p2.Hi))) then
     some ((zb.mk 0 18446744073709551615), true)
    else
     some ((zb.mk (qe (p1.Lo + p2.Lo)) (qe (p1.Hi + p2.Hi))), true)
   else
    if (p0 == 2) then
     if decide (p1.Lo < p2.Hi) then
      some ((zb.mk 0 18446744073709551615), true)
     else
      some ((zb.mk (qe (p1.Lo - p2.Hi)) (qe (p1.Hi - p2.Lo))), true)
    else
     if (p0 == 3) then
      (vM p1.Hi p2.Hi).bind fun f =>
      if f then
       some ((zb.mk 0 18446744073709551615), true)
      else
       some ((zb.mk (qe (p1.Lo * p2.Lo)) (qe (p1.Hi * p2.Hi))), true)
     else
      if (p0 == 4) then
       if (p2.Lo == 0) then
        some ((zb.mk 0 p1.Hi), true)
       else
        (nz p2.Hi).bind fun n =>
        (nz p2.Lo).bind fun q =>
        some ((zb.mk (qe (p1.Lo.tdiv p2.Hi)) (qe (p1.Hi.tdiv p2.Lo))), true)
      else
       if (p0 == 5) then
        if (p2.Lo == 0) then
         some ((zb.mk 0 p1.Hi), true)
        else
         if decide (p1.Hi < p2.Lo) then
          some (p1, true)
         else
          some ((zb.mk 0 (zb1 p1.Hi (qe (p2.Hi - 1)))), true)
       else
        if (p0 == 6) then
         some ((zb.mk 0 (zb1 p1.Hi p2.Hi)), true)
        else
         if (p0 == 7) then
          (jc fu (zcz p1.Hi p2.Hi)).bind fun g =>
          some ((zb.mk (zcz p1.Lo p2.Lo) g), true)
         else
          if (p0 == 8) then
           (jc fu (zcz p1.Hi p2.Hi)).bind fun h =>
           some ((zb.mk 0 h), true)
          else
           if (p0 == 9) then
            if (p2.Lo != p2.Hi) then
             some ((zb.mk 0 18446744073709551615), true)
            else
             (qC fu p1 p2.Lo).bind fun b =>
             if (!b.2) then
              some ((zb.mk 0 18446744073709551615), true)
             else
              some (b.1, true)
           else
            (jG fu p1.Lo p2.Hi).bind fun j =>
            (jG fu p1.Hi p2.Lo).bind fun l =>
            some ((zb.mk j l), true)
def zag  : Option za :=
 (xB 0 18446744073709551615).bind fun a =>
 some a
def jy (p0 : Int) : Option za :=
 some (za.mk 1 (zb.mk 0 p0) 0)
def zaq (p0 : Int) : Option (za × Bool) :=
 (if (p0 == 0) then
  some (p0 == 0)
 else
  if (p0 == 4) then
   some (p0 == 4)
  else
   some (p0 == 5)).bind fun a =>
 if a then
  (jy 18446744073709551615).bind fun b =>
  some (b, true)
 else
  (if (p0 == 1) then
   some (p0 == 1)
  else
   if (p0 == 2) then
    some (p0 == 2)
   else
    some (p0 == 3)).bind fun c =>
  if c then
   (jy 1).bind fun d =>
   some (d, true)
  else
   if (p0 == 6) then
    (jy 0).bind fun e =>
    some (e, true)
   else
    some ((za.mk 0 (zb.mk 0 0) 0), false)
def xC (p0 : zb) (p1 : Int) : Option Bool :=
 ((zQ p0).bind fun a =>
 if a then
  if decide (p1 >= p0.Lo) then
   some (decide (p1 <= p0.Hi))
  else
   some false
 else
  some false).bind fun b =>
 some b
def vr (p0 : Int) (p1 : zb) (p2 : zb) (p3 : Bool) : Option (zb × Bool) :=
 (if decide (p0 < 16) then
  some true
 else
  if decide (p0 > 19) then
   some true
  else
   (zQ p1).bind fun a =>
   if (!a) then
    some true
   else
    (zQ p2).bind fun b =>
    some (!b)).bind fun c =>
 if c then
  some ((zb.mk 0 0), false)
 else
  if (p2.Lo != p2.Hi) then
   some (p1, true)
  else
   if (((p0 == 18) && p3) || ((p0 == 19) && (!p3))) then
    if decide (p1.Lo >= p2.Lo) then
     some ((zb.mk 0 0), false)
    else
     some ((zb.mk p1.Lo (zb1 p1.Hi (qe (p2.Lo - 1)))), true)
   else
    if decide (p0 >= 18) then
     if decide (p1.Hi < p2.Lo) then
      some ((zb.mk 0 0), false)
     else
      some ((zb.mk (zcz p1.Lo p2.Lo) p1.Hi), true)
    else
     if (((p0 == 16) && p3) || ((p0 == 17) && (!p3))) then
      (xC p1 p2.Lo).bind fun d =>
      if (!d) then
       some ((zb.mk 0 0), false)
      else
       some (p2, true)
     else
      if ((p1.Lo == p2.Lo) && (p1.Hi == p2.Lo)) then
       some ((zb.mk 0 0), false)
      else
       if (p1.Lo == p2.Lo) then
        some ((zb.mk (qe (p2.Lo + 1)) p1.Hi), true)
       else
        if (p1.Hi == p2.Lo) then
         some ((zb.mk p1.Lo (qe (p2.Lo - 1))), true)
        else
         some (p1, true)
def zY (fu : Nat) (p0 : zj) (p1 : Int) (p2 : List za) (p3 : Bool) : Option ((List za) × Bool) :=
 (idx p0.Co p1).bind fun a =>
 (room (([] : List za).length + p2.length) 32).bind fun E =>
 if (a.Op == 0) then
  (jx a p2).bind fun e =>
  (idx (([] : List za) ++ p2) a.D).bind fun F =>
  some (((([] : List za) ++ p2).set (Int.toNat a.D) e), true)
 else
  (zW a.Op).bind fun f =>
  if f then
   ((idx p2 a.A).bind fun g =>
   (jx a p2).bind fun h =>
   (xQ fu a.Op g.Sp h.Sp).bind fun j =>
   some j.1).bind fun c =>
   (xB c.Lo c.Hi).bind fun l =>
   (idx (([] : List za) ++ p2) a.D).bind fun G =>
   some (((([] : List za) ++ p2).set (Int.toNat a.D) l), true)
  else
   if ((a.Op == 11) || (a.Op == 13)) then
    zag.bind fun n =>
    (idx (([] : List za) ++ p2) a.D).bind fun H =>
    some (((([] : List za) ++ p2).set (Int.toNat a.D) n), true)
   else
    if (a.Op == 14) then
     (idx (([] : List za) ++ p2) a.D).bind fun I =>
     some (((([] : List za) ++ p2).set (Int.toNat a.D) (za.mk 2 (zb.mk 0 0) a.Imm)), true)
    else
     if (a.Op == 21) then
      (zaq a.Imm).bind fun q =>
      (idx (([] : List za) ++ p2) 0).bind fun J =>
      some (((([] : List za) ++ p2).set (Int.toNat 0) q.1), true)
     else
      (jE a.Op).bind fun v =>
      if v then
       ((idx p2 a.A).bind fun z =>
       (jx a p2).bind fun B =>
       (vr a.Op z.Sp B.Sp p3).bind fun d =>
       some (d.1, d.2)).bind fun b =>
       if (!b.2) then
        some (([] : List za), false)
       else
        (xB b.1.Lo b.1.Hi).bind fun C =>
        (idx (([] : List za) ++ p2) a.A).bind fun K =>
        some (((([] : List za) ++ p2).set (Int.toNat a.A) C), true)
      else
       some ((([] : List za) ++ p2), true)
def qt (fu : Nat) (p0 : zj) (p1 : Int) (p2 : List (List za)) (again : ((List (List za)) × Int) -> Option (List (List za))) (a : (List (List za)) × Int) : Option (List (List za)) :=
 if decide (a.2 < p1) then
  (idx p2 a.2).bind fun c =>
  if (((c).length : Int) == 0) then
   again (a.1, w64 (a.2 + 1))
  else
   (idx p0.Co a.2).bind fun g =>
   (jF g).bind fun d =>
   (if (d.2.1 && ((w64 (a.2 + d.1)) == p1)) then
    (zY fu p0 a.2 c true).bind fun e =>
    if e.2 then
     (room (a.1.length + ([e.1]).length) 24).bind fun h =>
     some (a.1 ++ [e.1])
    else
     some a.1
   else
    some a.1).bind fun b =>
   if (d.2.2 && ((w64 (a.2 + 1)) == p1)) then
    (zY fu p0 a.2 c false).bind fun f =>
    if f.2 then
     (room (b.length + ([f.1]).length) 24).bind fun j =>
     again ((b ++ [f.1]), w64 (a.2 + 1))
    else
     again (b, w64 (a.2 + 1))
   else
    again (b, w64 (a.2 + 1))
 else
  some a.1
def jN (fu : Nat) (p0 : zj) (p1 : Int) (p2 : List (List za)) : Option (List (List za)) :=
 (if (p1 == 0) then
  (mkLen 8 32).bind fun a =>
  (room (([] : List (List za)).length + ([(List.replicate a (za.mk 0 (zb.mk 0 0) 0))]).length) 24).bind fun d =>
  some (([] : List (List za)) ++ [(List.replicate a (za.mk 0 (zb.mk 0 0) 0))])
 else
  some ([] : List (List za))).bind fun b =>
 (loop (qt fu p0 p1 p2) fu (b, 0)).bind fun c =>
 some c
def qm (p0 : List zb) (c : Nat) (again : zb -> Option (zb ⊕ (zb × Bool))) (b : zb) : Option (zb ⊕ (zb × Bool)) :=
 (idx p0 (c : Int)).bind fun a =>
 (zQ a).bind fun e =>
 if (!e) then
  some (.inr ((zb.mk 0 0), false))
 else
  (if ((c : Int) == 0) then
   some true
  else
   some (decide (a.Lo < b.Lo))).bind fun f =>
  (if f then
   some a.Lo
  else
   some b.Lo).bind fun d =>
  (if ((c : Int) == 0) then
   some true
  else
   some (decide (a.Hi > b.Hi))).bind fun g =>
  if g then
   again (zb.mk d a.Hi)
  else
   again (zb.mk d b.Hi)
def zah (p0 : List zb) : Option (zb × Bool) :=
 (qO (qm p0) (fun (a : zb) => (.inl a)) (p0).length 0 (zb.mk 0 0)).bind fun b => match b with
  | .inl c =>
   some (c, decide (((p0).length : Int) > 0))
  | .inr r => some r
def jO (p0 : List za) (b : Nat) (again : (List zb) -> Option ((List zb) ⊕ za)) (c : (List zb)) : Option ((List zb) ⊕ za) :=
 ((idx p0 (b : Int)).bind fun a =>
 (idx p0 0).bind fun d =>
 if (a.Ki != d.Ki) then
  some true
 else
  if (a.Ki == 2) then
   some (a.Map != d.Map)
  else
   some false).bind fun f =>
 if f then
  some (.inr (za.mk 0 (zb.mk 0 0) 0))
 else
  (idx p0 (b : Int)).bind fun e =>
  (room (c.length + ([e.Sp]).length) 16).bind fun g =>
  again (c ++ [e.Sp])
def vt (p0 : List za) : Option za :=
 (qO (jO p0) (fun (c : (List zb)) => (.inl c)) (p0).length 0 ([] : List zb)).bind fun d => match d with
  | .inl e =>
   (idx p0 0).bind fun a =>
   if (a.Ki == 1) then
    (zah e).bind fun b =>
    (xB b.1.Lo b.1.Hi).bind fun f =>
    some f
   else
    some a
  | .inr r => some r
def vu (p0 : zc) : Option (Int × Bool) :=
 (jL p0).bind fun a =>
 if (!a) then
  some (0, false)
 else
  if ((decide (p0.Op <= 11) || (p0.Op == 13)) || (p0.Op == 14)) then
   some (p0.D, true)
  else
   some (0, (p0.Op == 21))
def xT (c : (List (List za))) (d : Nat) (e : Nat) (again : (List za) -> Option (List za)) (a : (List za)) : Option (List za) :=
 (idx c (e : Int)).bind fun f =>
 (idx f (d : Int)).bind fun b =>
 (room (a.length + ([b]).length) 32).bind fun g =>
 again (a ++ [b])
def jo (b : (List (List za))) (a : Nat) (again : (List za) -> Option (List za)) (c : (List za)) : Option (List za) :=
 (qO (xT b a) (fun (d : (List za)) => d) (b).length 0 ([] : List za)).bind fun e =>
 (vt e).bind fun f =>
 (idx c (a : Int)).bind fun g =>
 again (c.set (Int.toNat (a : Int)) f)
def xr (p0 : zj) (d : Nat) (again : ((List za) × Int) -> Option (List za)) (a : (List za) × Int) : Option (List za) :=
 if decide (a.2 <= (d : Int)) then
  (idx p0.Co a.2).bind fun e =>
  (vu e).bind fun b =>
  (if b.2 then
   (idx a.1 b.1).bind fun f =>
   some (f.Ki == 1)
  else
   some false).bind fun g =>
  (if g then
   zag.bind fun h =>
   (idx a.1 b.1).bind fun n =>
   some (a.1.set (Int.toNat b.1) h)
  else
   some a.1).bind fun c =>
  (if b.2 then
   (idx c b.1).bind fun j =>
   some (j.Ki == 2)
  else
   some false).bind fun l =>
  if l then
   (idx c b.1).bind fun q =>
   again ((c.set (Int.toNat b.1) (za.mk 0 (zb.mk 0 0) 0)), w64 (a.2 + 1))
  else
   again (c, w64 (a.2 + 1))
 else
  some a.1
def jp (fu : Nat) (p0 : zj) (p1 : Int) (a : Nat) (again : (List za) -> Option (List za)) (b : (List za)) : Option (List za) :=
 ((idx p0.Co (a : Int)).bind fun c =>
 if (c.Op != 20) then
  some true
 else
  some ((w64 ((a : Int) - c.D)) != p1)).bind fun d =>
 if d then
  again b
 else
  (loop (xr p0 a) fu (b, p1)).bind fun e =>
  again e
def xu (fu : Nat) (p0 : zj) (p1 : Int) (p2 : List (List za)) : Option (List za) :=
 (jN fu p0 p1 p2).bind fun a =>
 if (((a).length : Int) == 0) then
  some ([] : List za)
 else
  (mkLen 8 32).bind fun b =>
  (qO (jo a) (fun (c : (List za)) => c) 8 0 (List.replicate b (za.mk 0 (zb.mk 0 0) 0))).bind fun d =>
  (qO (jp fu p0 p1) (fun (e : (List za)) => e) (p0.Co).length 0 d).bind fun f =>
  some f
def vv (p0 : zc) : Option Bool :=
 ((jL p0).bind fun a =>
 if a then
  if decide (p0.Op <= 12) then
   some true
  else
   (jE p0.Op).bind fun b =>
   some b
 else
  some false).bind fun c =>
 some c
def zai (p0 : Int) : Option (List za) :=
 (if (p0 == 0) then
  some (p0 == 0)
 else
  if (p0 == 1) then
   some (p0 == 1)
  else
   some (p0 == 3)).bind fun a =>
 if a then
  (jy 18446744073709551615).bind fun b =>
  some ([(za.mk 2 (zb.mk 0 0) 0), b])
 else
  (if (p0 == 2) then
   some (p0 == 2)
  else
   some (p0 == 4)).bind fun c =>
  if c then
   (jy 18446744073709551615).bind fun d =>
   (jy 18446744073709551615).bind fun e =>
   some ([(za.mk 2 (zb.mk 0 0) 0), d, e])
  else
   if (p0 == 5) then
    (jy 15).bind fun f =>
    some ([f])
   else
    if (p0 == 6) then
     (jy 18446744073709551615).bind fun g =>
     some ([g])
    else
     some ([] : List za)
def xG (p0 : zb) (p1 : zb) : Option Bool :=
 ((zQ p0).bind fun a =>
 if a then
  (zQ p1).bind fun b =>
  if b then
   (xC p1 p0.Lo).bind fun c =>
   if c then
    (xC p1 p0.Hi).bind fun d =>
    some d
   else
    some false
  else
   some false
 else
  some false).bind fun e =>
 some e
def zaQ (p1 : List za) (d : (List za)) (b : Nat) (again : Unit -> Option (Unit ⊕ Int)) (g : Unit) : Option (Unit ⊕ Int) :=
 (idx p1 (b : Int)).bind fun c =>
 (idx d (b : Int)).bind fun a =>
 if (c.Ki != a.Ki) then
  some (.inr 33)
 else
  (if (a.Ki == 1) then
   (xG c.Sp a.Sp).bind fun e =>
   some (!e)
  else
   some false).bind fun f =>
  if f then
   some (.inr 35)
  else
   again ()
def vN (p0 : Int) (p1 : List za) : Option Int :=
 if (decide (p0 < 0) || decide (p0 > 6)) then
  some 34
 else
  (zai p0).bind fun a =>
  if (((a).length : Int) != ((p1).length : Int)) then
   some 2
  else
   (qO (zaQ p1 a) (fun (c : Unit) => (.inl ())) (a).length 0 ()).bind fun b => match b with
    | .inl d =>
     some 0
    | .inr r => some r
def zaj (p0 : za) (p1 : za) : Option Bool :=
 if (p1.Ki == 0) then
  some true
 else
  if (p0.Ki != p1.Ki) then
   some false
  else
   if (p1.Ki == 1) then
    (xG p0.Sp p1.Sp).bind fun a =>
    some a
   else
    some (p0.Map == p1.Map)
def xt (p2 : List za) (p3 : List za) (a : Nat) (again : Unit -> Option (Unit ⊕ Int)) (e : Unit) : Option (Unit ⊕ Int) :=
 (idx p2 (a : Int)).bind fun b =>
 (idx p3 (a : Int)).bind fun c =>
 (zaj b c).bind fun d =>
 if (!d) then
  some (.inr 33)
 else
  again ()
def xj (p0 : zj) (p1 : Int) (p2 : List za) (p3 : List za) : Option Int :=
 (idx p0.Co p1).bind fun a =>
 (vv a).bind fun c =>
 (if c then
  (jx a p2).bind fun d =>
  some d
 else
  some (za.mk 0 (zb.mk 0 0) 0)).bind fun b =>
 ((if (a.Op == 0) then
  if (b.Ki == 0) then
   some (.inr 33)
  else
   some (.inl ())
 else
  if ((a.Op == 13) || (a.Op == 15)) then
   some (.inl ())
  else
   if (a.Op == 14) then
    if decide (a.Imm >= ((p0.Ms).length : Int)) then
     some (.inr 35)
    else
     some (.inl ())
   else
    if (a.Op == 21) then
     (zai a.Imm).bind fun e =>
     (cut p2 1 (w64 (1 + ((e).length : Int)))).bind fun f =>
     (vN a.Imm f).bind fun g =>
     some (.inr g)
    else
     if (a.Op == 11) then
      if (b.Ki != 1) then
       some (.inr 33)
      else
       some (.inl ())
     else
      if ((a.Op == 20) || (a.Op == 22)) then
       (idx p2 a.A).bind fun h =>
       if (h.Ki != 1) then
        some (.inr 33)
       else
        some (.inl ())
      else
       ((idx p2 a.A).bind fun j =>
       if (j.Ki != 1) then
        some true
       else
        some (b.Ki != 1)).bind fun l =>
       if l then
        some (.inr 33)
       else
        some (.inl ())) : Option (Unit ⊕ Int)).bind fun n => match n with
  | .inl v =>
   if (((a.Op == 11) || (a.Op == 12)) && decide (b.Sp.Hi > 15)) then
    some 35
   else
    if (a.Op == 20) then
     (qO (xt p2 p3) (fun (z : Unit) => (.inl ())) 8 0 ()).bind fun q => match q with
      | .inl B =>
       some 0
      | .inr r => some r
    else
     some 0
  | .inr r => some r
def zZ (fu : Nat) (p0 : zj) (b : Nat) (again : (List (List za)) -> Option ((List (List za)) ⊕ ((List (List za)) × Int × Int))) (c : (List (List za))) : Option ((List (List za)) ⊕ ((List (List za)) × Int × Int)) :=
 (xu fu p0 (b : Int) c).bind fun a =>
 (room (c.length + ([a]).length) 24).bind fun h =>
 if (((a).length : Int) == 0) then
  again (c ++ [a])
 else
  (idx p0.Co (b : Int)).bind fun d =>
  if (d.Op == 20) then
   (idx (c ++ [a]) (w64 ((b : Int) - d.D))).bind fun g =>
   (apart (w64 ((b : Int) - d.D)) (c.length : Int)).bind fun j =>
   (xj p0 (b : Int) a g).bind fun e =>
   if (e != 0) then
    some (.inr (([] : List (List za)), (b : Int), e))
   else
    again (c ++ [a])
  else
   (xj p0 (b : Int) a a).bind fun f =>
   if (f != 0) then
    some (.inr (([] : List (List za)), (b : Int), f))
   else
    again (c ++ [a])
def qY (fu : Nat) (p0 : zj) : Option ((List (List za)) × Int × Int) :=
 (ja fu p0.Ms).bind fun b =>
 if (!b) then
  some (([] : List (List za)), 0, 2)
 else
  (jn fu p0.Co).bind fun a =>
  if (a.2 != 0) then
   some (([] : List (List za)), a.1, a.2)
  else
   (qO (zZ fu p0) (fun (c : (List (List za))) => (.inl c)) (p0.Co).length 0 ([] : List (List za))).bind fun d => match d with
    | .inl e =>
     some (e, 0, 0)
    | .inr r => some r
def jP (p0 : zh) : Option zh :=
 (room (p0.Ak.length + ([(zp.mk 2 0 0)]).length) 24).bind fun a =>
 some (zh.mk (p0.Ak ++ [(zp.mk 2 0 0)]))
def jz (fu : Nat) (p0 : zj) (p1 : qv) (p2 : zh) : Option ((Option zd) × Int × zh) :=
 (qY fu p0).bind fun a =>
 if (a.2.2 != 0) then
  some (none, a.2.2, p2)
 else
  (jP p2).bind fun b =>
  ((mkLen 8 8).bind fun c =>
  (mkLen 64 8).bind fun d =>
  some (zd.mk p0 p1 (List.replicate c 0) (List.replicate d 0) 0 0 0)).bind fun e =>
  some ((some e), 0, b)
def qc (fu : Nat) (p0 : ze) (p1 : Int) (p2 : Int) (p3 : zj) : Option (Int × ze) :=
 if (p0.Mode != 1) then
  some (41, p0)
 else
  (jz fu p3 p0.Ev.Ev p0.Book).bind fun a =>
  zhe a.1
   (if (a.2.1 != 0) then
    some (a.2.1, (ze.mk a.2.2 p0.Told p0.Mode p0.Hook p0.Ev p0.Version p0.Prog p0.Calls p0.M))
   else
    some (0, (ze.mk a.2.2 p0.Told 2 p0.Hook p0.Ev p1 p2 0 none)))
   (fun b =>
   if (a.2.1 != 0) then
    some (a.2.1, (ze.mk a.2.2 p0.Told p0.Mode p0.Hook p0.Ev p0.Version p0.Prog p0.Calls p0.M))
   else
    some (0, (ze.mk a.2.2 p0.Told 2 p0.Hook p0.Ev p1 p2 0 (some b))))
def zbQ (p0 : zt) (p1 : List Int) (a : Nat) (again : Unit -> Option (Unit ⊕ (Int × zt))) (d : Unit) : Option (Unit ⊕ (Int × zt)) :=
 (idx p1 (a : Int)).bind fun b =>
 (za1 b).bind fun c =>
 if (!c) then
  some (.inr (2, p0))
 else
  again ()
def zbR (p1 : List Int) (c : Nat) (again : zt -> Option zt) (a : zt) : Option zt :=
 (idx p1 (c : Int)).bind fun d =>
 (ain 4 d).bind fun b =>
 again (zt.mk (jd a.hooks b (zu.mk (a.hooks b).Runs (qe ((a.hooks b).Missed + 1)) (a.hooks b).Steps (a.hooks b).Calls (a.hooks b).Sum)))
def vw (p0 : zt) (p1 : List Int) : Option (Int × zt) :=
 (qO (zbQ p0 p1) (fun (d : Unit) => (.inl ())) (p1).length 0 ()).bind fun a => match a with
  | .inl e =>
   (qO (zbR p1) (fun (b : zt) => b) (p1).length 0 p0).bind fun c =>
   some (0, c)
  | .inr r => some r
def vx (p0 : zi) : Option (Int × zi) :=
 if (p0.mode_ != 1) then
  some (41, p0)
 else
  (vw p0.Stats ([p0.job.hook])).bind fun a =>
  (xa (zi.mk p0.Scratch a.2 p0.mode_ p0.job)).bind fun b =>
  some (0, b)
def zbS (p0 : List zm) (p1 : List Int) (b : Nat) (again : Unit -> Option (Unit ⊕ ((List zm) × Int))) (d : Unit) : Option (Unit ⊕ ((List zm) × Int)) :=
 ((idx p1 (b : Int)).bind fun a =>
 if decide (a < 0) then
  some true
 else
  some (decide (a > 3))).bind fun c =>
 if c then
  some (.inr (p0, 2))
 else
  again ()
def zbT (p1 : List Int) (c : Nat) (again : (List zm) -> Option (List zm)) (a : (List zm)) : Option (List zm) :=
 (idx p1 (c : Int)).bind fun b =>
 (room (a.length + ([(zm.mk b true 0 0 0)]).length) 40).bind fun d =>
 again (a ++ [(zm.mk b true 0 0 0)])
def vy (p0 : List zm) (p1 : List Int) : Option ((List zm) × Int) :=
 (qO (zbS p0 p1) (fun (d : Unit) => (.inl ())) (p1).length 0 ()).bind fun a => match a with
  | .inl e =>
   (qO (zbT p1) (fun (b : (List zm)) => b) (p1).length 0 p0).bind fun c =>
   some (c, 0)
  | .inr r => some r
def qD (p0 : ze) : Option ze :=
 some (ze.mk p0.Book p0.Told 0 0 (je.mk 0 (qv.mk 0 0)) 0 0 p0.Calls p0.M)
def xc (p0 : ze) : Option (Int × ze) :=
 if (p0.Mode != 1) then
  some (41, p0)
 else
  (vy p0.Told ([p0.Hook])).bind fun a =>
  (qD (ze.mk p0.Book a.1 p0.Mode p0.Hook p0.Ev p0.Version p0.Prog p0.Calls p0.M)).bind fun b =>
  some (0, b)
def zz (p0 : zh) (p1 : Int) (again : (Int × Int) -> Option Int) (a : Int × Int) : Option Int :=
 if decide (a.2 < ((p0.Ak).length : Int)) then
  ((idx p0.Ak a.2).bind fun b =>
  if (b.Ki == 3) then
   some (b.At == p1)
  else
   some false).bind fun c =>
  if c then
   (idx p0.Ak a.2).bind fun d =>
   again (qe (a.1 + d.N), w64 (a.2 + 1))
  else
   again (a.1, w64 (a.2 + 1))
 else
  some a.1
def zR (fu : Nat) (p0 : zh) (p1 : Int) : Option (Int × Int) :=
 if (decide (p1 < 0) || decide (p1 > 15)) then
  some (0, 35)
 else
  (loop (zz p0 p1) fu (0, 0)).bind fun a =>
  some (a, 0)
def zI (fu : Nat) (p0 : zh) (p1 : Int) : Option (Int × Int × zh) :=
 if (decide (p1 < 0) || decide (p1 > 15)) then
  some (0, 35, p0)
 else
  (room (p0.Ak.length + ([(zp.mk 3 p1 1)]).length) 24).bind fun b =>
  (zR fu (zh.mk (p0.Ak ++ [(zp.mk 3 p1 1)])) p1).bind fun a =>
  some (a.1, a.2, (zh.mk (p0.Ak ++ [(zp.mk 3 p1 1)])))
def jv (p0 : zd) (g0 : zh) : Option zd :=
 some (zd.mk p0.M p0.E p0.Rg p0.Tu (w64 (p0.At + 1)) p0.Steps p0.Mode)
def qo (fu : Nat) (p0 : zd) (p1 : zc) (p2 : zA) (g0 : zh) : Option (zA × zd × zh) :=
 if decide (p1.Imm <= 4) then
  (idx p0.Rg 1).bind fun b =>
  (idx p0.M.Ms b).bind fun c =>
  (idx p0.Rg 2).bind fun d =>
  (if ((p1.Imm == 2) || (p1.Imm == 4)) then
   (idx p0.Rg 3).bind fun e =>
   some e
  else
   some 0).bind fun f =>
  some ((zA.mk 2 p2.Pc (qq.mk c p1.Imm d f) p2.Val), (zd.mk p0.M p0.E p0.Rg p0.Tu p0.At p0.Steps 1), g0)
 else
  if (p1.Imm == 5) then
   (idx p0.Rg 1).bind fun g =>
   (zI fu g0 (w64 g)).bind fun a =>
   (idx p0.Rg 0).bind fun n =>
   (jv (zd.mk p0.M p0.E (p0.Rg.set (Int.toNat 0) a.1) p0.Tu p0.At p0.Steps p0.Mode) a.2.2).bind fun h =>
   some ((zA.mk p2.Ki p2.Pc p2.It a.1), h, a.2.2)
  else
   (idx p0.Rg 1).bind fun j =>
   (idx p0.Rg 0).bind fun q =>
   (jv (zd.mk p0.M p0.E (p0.Rg.set (Int.toNat 0) 0) p0.Tu p0.At p0.Steps p0.Mode) g0).bind fun l =>
   some ((zA.mk 3 p2.Pc p2.It j), l, g0)
def qx (p0 : zd) (p1 : zc) : Option Int :=
 if (p1.B == 8) then
  some (qe p1.Imm)
 else
  (idx p0.Rg p1.B).bind fun a =>
  some a
def xU (p0 : Int) (p1 : Int) (p2 : Int) : Option (Bool × Bool) :=
 if (p0 == 16) then
  some ((p1 == p2), true)
 else
  if (p0 == 17) then
   some ((!(p1 == p2)), true)
  else
   if (p0 == 18) then
    some (decide (p1 < p2), true)
   else
    if (p0 == 19) then
     some ((!decide (p1 < p2)), true)
    else
     some (false, false)
def xn (p0 : zd) (p1 : zc) (g0 : zh) : Option (Bool × zd) :=
 if (p1.Op == 15) then
  some (true, p0)
 else
  if (p1.Op == 20) then
   ((idx p0.Rg p1.A).bind fun a =>
   if decide (a > 0) then
    (idx p0.Tu p0.At).bind fun b =>
    some (decide (b < p1.Imm))
   else
    some false).bind fun c =>
   if c then
    (idx (zd.mk p0.M p0.E p0.Rg p0.Tu p0.At p0.Steps p0.Mode).Tu (zd.mk p0.M p0.E p0.Rg p0.Tu p0.At p0.Steps p0.Mode).At).bind fun d =>
    some (true, (zd.mk (zd.mk p0.M p0.E p0.Rg p0.Tu p0.At p0.Steps p0.Mode).M (zd.mk p0.M p0.E p0.Rg p0.Tu p0.At p0.Steps p0.Mode).E (zd.mk p0.M p0.E p0.Rg p0.Tu p0.At p0.Steps p0.Mode).Rg ((zd.mk p0.M p0.E p0.Rg p0.Tu p0.At p0.Steps p0.Mode).Tu.set (Int.toNat (zd.mk p0.M p0.E p0.Rg p0.Tu p0.At p0.Steps p0.Mode).At) (w64 (d + 1))) (zd.mk p0.M p0.E p0.Rg p0.Tu p0.At p0.Steps p0.Mode).At (zd.mk p0.M p0.E p0.Rg p0.Tu p0.At p0.Steps p0.Mode).Steps (zd.mk p0.M p0.E p0.Rg p0.Tu p0.At p0.Steps p0.Mode).Mode))
   else
    (idx (zd.mk p0.M p0.E p0.Rg p0.Tu p0.At p0.Steps p0.Mode).Tu (zd.mk p0.M p0.E p0.Rg p0.Tu p0.At p0.Steps p0.Mode).At).bind fun h =>
    some (false, (zd.mk (zd.mk p0.M p0.E p0.Rg p0.Tu p0.At p0.Steps p0.Mode).M (zd.mk p0.M p0.E p0.Rg p0.Tu p0.At p0.Steps p0.Mode).E (zd.mk p0.M p0.E p0.Rg p0.Tu p0.At p0.Steps p0.Mode).Rg ((zd.mk p0.M p0.E p0.Rg p0.Tu p0.At p0.Steps p0.Mode).Tu.set (Int.toNat (zd.mk p0.M p0.E p0.Rg p0.Tu p0.At p0.Steps p0.Mode).At) 0) (zd.mk p0.M p0.E p0.Rg p0.Tu p0.At p0.Steps p0.Mode).At (zd.mk p0.M p0.E p0.Rg p0.Tu p0.At p0.Steps p0.Mode).Steps (zd.mk p0.M p0.E p0.Rg p0.Tu p0.At p0.Steps p0.Mode).Mode))
  else
   (idx p0.Rg p1.A).bind fun e =>
   (qx (zd.mk p0.M p0.E p0.Rg p0.Tu p0.At p0.Steps p0.Mode) p1).bind fun f =>
   (xU p1.Op e f).bind fun g =>
   some (g.1, (zd.mk p0.M p0.E p0.Rg p0.Tu p0.At p0.Steps p0.Mode))
def zE (p0 : zh) (p1 : Int) (again : Int -> Option (Unit ⊕ (Int × Int))) (b : Int) : Option (Unit ⊕ (Int × Int)) :=
 if decide (b >= 0) then
  (idx p0.Ak b).bind fun a =>
  if (a.Ki == 2) then
   some (.inr (0, 0))
  else
   (if (a.Ki == 1) then
    some (a.At == p1)
   else
    some false).bind fun c =>
   if c then
    some (.inr (a.N, 0))
   else
    again (w64 (b - 1))
 else
  some (.inl ())
def zF (fu : Nat) (p0 : zh) (p1 : Int) : Option (Int × Int) :=
 if (decide (p1 < 0) || decide (p1 > 15)) then
  some (0, 35)
 else
  (loop (zE p0 p1) fu (w64 (((p0.Ak).length : Int) - 1))).bind fun a => match a with
   | .inl b =>
    some (0, 0)
   | .inr r => some r
def qK (p0 : zh) (p1 : Int) (p2 : Int) : Option (Int × zh) :=
 if (decide (p1 < 0) || decide (p1 > 15)) then
  some (35, p0)
 else
  (room (p0.Ak.length + ([(zp.mk 1 p1 p2)]).length) 24).bind fun a =>
  some (0, (zh.mk (p0.Ak ++ [(zp.mk 1 p1 p2)])))
def qp (fu : Nat) (p0 : zd) (p1 : zc) (g0 : zh) : Option (zd × zh) :=
 if (p1.Op == 0) then
  (qx (zd.mk p0.M p0.E p0.Rg p0.Tu p0.At p0.Steps p0.Mode) p1).bind fun a =>
  (idx p0.Rg p1.D).bind fun n =>
  some ((zd.mk p0.M p0.E (p0.Rg.set (Int.toNat p1.D) a) p0.Tu p0.At p0.Steps p0.Mode), g0)
 else
  (zW p1.Op).bind fun b =>
  if b then
   (idx p0.Rg p1.A).bind fun c =>
   (qx (zd.mk p0.M p0.E p0.Rg p0.Tu p0.At p0.Steps p0.Mode) p1).bind fun d =>
   (zL fu p1.Op c d).bind fun e =>
   (idx p0.Rg p1.D).bind fun q =>
   some ((zd.mk p0.M p0.E (p0.Rg.set (Int.toNat p1.D) e.1) p0.Tu p0.At p0.Steps p0.Mode), g0)
  else
   if (p1.Op == 11) then
    (qx (zd.mk p0.M p0.E p0.Rg p0.Tu p0.At p0.Steps p0.Mode) p1).bind fun f =>
    (zF fu g0 (w64 f)).bind fun g =>
    (idx p0.Rg p1.D).bind fun v =>
    some ((zd.mk p0.M p0.E (p0.Rg.set (Int.toNat p1.D) g.1) p0.Tu p0.At p0.Steps p0.Mode), g0)
   else
    if (p1.Op == 12) then
     (idx p0.Rg p1.A).bind fun h =>
     (qx (zd.mk p0.M p0.E p0.Rg p0.Tu p0.At p0.Steps p0.Mode) p1).bind fun j =>
     (qK g0 (w64 j) h).bind fun l =>
     some ((zd.mk p0.M p0.E p0.Rg p0.Tu p0.At p0.Steps p0.Mode), l.2)
    else
     if ((p1.Op == 13) && (p1.Imm == 0)) then
      (idx p0.Rg p1.D).bind fun z =>
      some ((zd.mk p0.M p0.E (p0.Rg.set (Int.toNat p1.D) p0.E.A) p0.Tu p0.At p0.Steps p0.Mode), g0)
     else
      if (p1.Op == 13) then
       (idx p0.Rg p1.D).bind fun C =>
       some ((zd.mk p0.M p0.E (p0.Rg.set (Int.toNat p1.D) p0.E.B) p0.Tu p0.At p0.Steps p0.Mode), g0)
      else
       if (p1.Op == 14) then
        (idx p0.Rg p1.D).bind fun F =>
        some ((zd.mk p0.M p0.E (p0.Rg.set (Int.toNat p1.D) (qe p1.Imm)) p0.Tu p0.At p0.Steps p0.Mode), g0)
       else
        some (p0, g0)
def zS (fu : Nat) (p0 : zd) (g0 : zh) : Option (zA × zd × zh) :=
 (idx p0.M.Co p0.At).bind fun b =>
 if (p0.Mode == 1) then
  some ((zA.mk 5 p0.At (qq.mk 0 0 0 0) 0), (zd.mk p0.M p0.E p0.Rg p0.Tu p0.At p0.Steps p0.Mode), g0)
 else
  if (p0.Mode == 2) then
   (idx p0.Rg b.A).bind fun g =>
   some ((zA.mk 6 p0.At (qq.mk 0 0 0 0) g), (zd.mk p0.M p0.E p0.Rg p0.Tu p0.At p0.Steps p0.Mode), g0)
  else
   if (b.Op == 21) then
    (qo fu (zd.mk p0.M p0.E p0.Rg p0.Tu p0.At (w64 (p0.Steps + 1)) p0.Mode) b (zA.mk 1 p0.At (qq.mk 0 0 0 0) 0) g0).bind fun c =>
    some (c.1, c.2.1, c.2.2)
   else
    if (b.Op == 22) then
     (idx p0.Rg b.A).bind fun h =>
     some ((zA.mk 4 p0.At (qq.mk 0 0 0 0) h), (zd.mk p0.M p0.E p0.Rg p0.Tu p0.At (w64 (p0.Steps + 1)) 2), g0)
    else
     (jF b).bind fun d =>
     (if d.2.1 then
      (xn (zd.mk p0.M p0.E p0.Rg p0.Tu p0.At (w64 (p0.Steps + 1)) p0.Mode) b g0).bind fun f =>
      some (f.2, f.1)
     else
      some ((zd.mk p0.M p0.E p0.Rg p0.Tu p0.At (w64 (p0.Steps + 1)) p0.Mode), false)).bind fun a =>
     if a.2 then
      some ((zA.mk 1 p0.At (qq.mk 0 0 0 0) 0), (zd.mk a.1.M a.1.E a.1.Rg a.1.Tu (w64 (a.1.At + d.1)) a.1.Steps a.1.Mode), g0)
     else
      if (!d.2.1) then
       (qp fu a.1 b g0).bind fun e =>
       (jv e.1 e.2).bind fun j =>
       some ((zA.mk 1 p0.At (qq.mk 0 0 0 0) 0), j, e.2)
      else
       (jv a.1 g0).bind fun l =>
       some ((zA.mk 1 p0.At (qq.mk 0 0 0 0) 0), l, g0)
def vO (p0 : List zm) (p1 : Int) (p2 : Int) (p3 : Int) (p4 : Int) : Option ((List zm) × Int) :=
 if (decide (p1 < 0) || decide (p1 > 3)) then
  some (p0, 2)
 else
  (room (p0.length + ([(zm.mk p1 false p2 p3 p4)]).length) 40).bind fun a =>
  some ((p0 ++ [(zm.mk p1 false p2 p3 p4)]), 0)
def zU (fu : Nat) (p0 : ze) : Option (zA × Bool × ze) :=
 if (p0.Mode != 2) then
  some ((zA.mk 0 0 (qq.mk 0 0 0 0) 0), false, p0)
 else
  p0.M.bind fun d =>
  (zS fu d p0.Book).bind fun b =>
  (if (b.1.Ki == 2) then
   some (ze.mk b.2.2 p0.Told 3 p0.Hook p0.Ev p0.Version p0.Prog (w64 (p0.Calls + 1)) (some b.2.1))
  else
   some (ze.mk b.2.2 p0.Told p0.Mode p0.Hook p0.Ev p0.Version p0.Prog p0.Calls (some b.2.1))).bind fun a =>
  if (b.1.Ki == 4) then
   a.M.bind fun c =>
   (vO a.Told a.Hook (qe c.Steps) (qe a.Calls) b.1.Val).bind fun e =>
   (qD (ze.mk a.Book e.1 a.Mode a.Hook a.Ev a.Version a.Prog a.Calls (some (zd.mk c.M c.E c.Rg c.Tu c.At c.Steps c.Mode)))).bind fun f =>
   some (b.1, true, f)
  else
   some (b.1, true, a)
def xK (fu : Nat) (p2 : Int) (again : (zi × ze × Int) -> Option ((zi × ze) ⊕ (Bool × zi × ze))) (c : zi × ze × Int) : Option ((zi × ze) ⊕ (Bool × zi × ze)) :=
 if decide (c.2.2 < p2) then
  (qh fu c.1).bind fun a =>
  (zU fu c.2.1).bind fun b =>
  (if (!((a.1.Ki == b.1.Ki) && ((a.1.Pc == b.1.Pc) && (((a.1.It.Map == b.1.It.Map) && ((a.1.It.Op == b.1.It.Op) && ((a.1.It.Key == b.1.It.Key) && ((a.1.It.Val == b.1.It.Val) && true)))) && ((a.1.Val == b.1.Val) && true))))) then
   some true
  else
   some (!(a.2.1 == b.2.1))).bind fun d =>
  if d then
   some (.inr (false, a.2.2, b.2.2))
  else
   again (a.2.2, b.2.2, w64 (c.2.2 + 1))
 else
  some (.inl (c.1, c.2.1))
def jq (fu : Nat) (p0 : zi) (p1 : ze) (p2 : Int) : Option (Bool × zi × ze) :=
 (loop (xK fu p2) fu (p0, p1, 0)).bind fun b => match b with
  | .inl a =>
   some (true, a.1, a.2)
  | .inr r => some r
def za8 (p0 : Int) (p1 : xx) : Option Int :=
 (if (p0 == 0) then
  some (p0 == 0)
 else
  some (p0 == 4)).bind fun a =>
 if a then
  some p1.Val
 else
  (if (p0 == 1) then
   some (p0 == 1)
  else
   some (p0 == 3)).bind fun b =>
  if b then
   if p1.Found then
    some 1
   else
    some 0
  else
   if (p0 == 2) then
    if (p1.E == 0) then
     some 1
    else
     some 0
   else
    some 0
def jQ (p0 : zg) (p1 : xx) (g0 : zk) : Option (Int × zg) :=
 if (p0.sa != 1) then
  some (2, (zg.mk p0.Ev p0.mo p0.rg p0.tu p0.at_ p0.sp p0.sa))
 else
  (idx p0.mo.Co p0.at_).bind fun a =>
  (za8 a.Imm p1).bind fun b =>
  some (0, (zg.mk p0.Ev p0.mo (jd p0.rg 0 b) p0.tu (w64 (p0.at_ + 1)) p0.sp 0))
def xL (p0 : zi) (p1 : xx) : Option (Int × zi) :=
 if (p0.mode_ != 3) then
  some (41, p0)
 else
  p0.job.machine.bind fun b =>
  (jQ b p1 p0.Scratch).bind fun a =>
  some (a.1, (zi.mk p0.Scratch p0.Stats 2 (xE.mk p0.job.hook p0.job.event p0.job.version p0.job.prog p0.job.calls (some a.2))))
def xV (p0 : Int) (p1 : xx) : Option Int :=
 if ((p0 == 0) || (p0 == 4)) then
  some p1.Val
 else
  if ((((p0 == 1) || (p0 == 3)) && p1.Found) || ((p0 == 2) && (p1.E == 0))) then
   some 1
  else
   some 0
def qQ (p0 : zd) (p1 : xx) (g0 : zh) : Option (Int × zd) :=
 if (p0.Mode != 1) then
  some (2, (zd.mk p0.M p0.E p0.Rg p0.Tu p0.At p0.Steps p0.Mode))
 else
  (idx p0.M.Co p0.At).bind fun a =>
  (xV a.Imm p1).bind fun b =>
  (idx p0.Rg 0).bind fun d =>
  (jv (zd.mk p0.M p0.E (p0.Rg.set (Int.toNat 0) b) p0.Tu p0.At p0.Steps 0) g0).bind fun c =>
  some (0, c)
def jA (p0 : ze) (p1 : xx) : Option (Int × ze) :=
 if (p0.Mode != 3) then
  some (41, p0)
 else
  p0.M.bind fun b =>
  (qQ b p1 p0.Book).bind fun a =>
  some (a.1, (ze.mk p0.Book p0.Told 2 p0.Hook p0.Ev p0.Version p0.Prog p0.Calls (some a.2)))
def zaR (again : ((List zc) × Int) -> Option Unit) (a : (List zc) × Int) : Option Unit :=
 if decide (a.2 < ((a.1).length : Int)) then
  (idx a.1 a.2).bind fun b =>
  again ((a.1.set (Int.toNat a.2) (zc.mk 88 0 0 0 0)), w64 (a.2 + 1))
 else
  some ()
def xW (fu : Nat) (p0 : zi) (p1 : ze) (p2 : qz) : Option (Bool × zi × ze) :=
 if (p2.Ki == 0) then
  (jX p0 p2.Hook p2.Q).bind fun e =>
  (xb p1 p2.Hook p2.Q).bind fun f =>
  some ((e.1 == f.1), e.2, f.2)
 else
  if (p2.Ki == 1) then
   (vq p2.M).bind fun g =>
   (qk fu p0 p2.Version p2.Prog g).bind fun h =>
   (qc fu p1 p2.Version p2.Prog p2.M).bind fun j =>
   (loop zaR fu (g.Co, 0)).bind fun z =>
   some ((h.1 == j.1), h.2, j.2)
  else
   if (p2.Ki == 2) then
    (vx p0).bind fun l =>
    (xc p1).bind fun n =>
    some ((l.1 == n.1), l.2, n.2)
   else
    if (p2.Ki == 3) then
     (jq fu p0 p1 1).bind fun a =>
     some (a.1, a.2.1, a.2.2)
    else
     if (p2.Ki == 4) then
      (xL p0 p2.Res).bind fun q =>
      (jA p1 p2.Res).bind fun v =>
      some ((q.1 == v.1), q.2, v.2)
     else
      if (p2.Ki == 5) then
       (zV p0.Scratch.Ct p2.Hook).bind fun b =>
       (zI fu p1.Book p2.Hook).bind fun c =>
       some (((b.1 == c.1) && (b.2.1 == c.2.1)), (zi.mk (zk.mk p0.Scratch.Wo b.2.2) p0.Stats p0.mode_ p0.job), (ze.mk c.2.2 p1.Told p1.Mode p1.Hook p1.Ev p1.Version p1.Prog p1.Calls p1.M))
      else
       (jq fu p0 p1 (zb1 (zcz p2.Version 0) 32)).bind fun d =>
       some (d.1, d.2.1, d.2.2)
def zaM (p0 : zi) : Option (Int × je) :=
 some (p0.job.hook, p0.job.event)
def zas (p0 : zi) : Option (Int × Int) :=
 some (p0.job.version, p0.job.prog)
def zc8 (p0 : List zm) (p1 : Int) (c : Nat) (again : zu -> Option zu) (a : zu) : Option zu :=
 (idx p0 (c : Int)).bind fun b =>
 if (b.Hook != p1) then
  again a
 else
  if b.Missed then
   again (zu.mk a.Runs (qe (a.Missed + 1)) a.Steps a.Calls a.Sum)
  else
   again (zu.mk (qe (a.Runs + 1)) a.Missed (qe (a.Steps + b.Steps)) (qe (a.Calls + b.Calls)) (qe (a.Sum + b.Result)))
def zaU (p0 : List zm) (p1 : Int) : Option (zu × Int) :=
 if (decide (p1 < 0) || decide (p1 > 3)) then
  some ((zu.mk 0 0 0 0 0), 2)
 else
  (qO (zc8 p0 p1) (fun (a : zu) => a) (p0).length 0 (zu.mk 0 0 0 0 0)).bind fun b =>
  some (b, 0)
def xo (p0 : zX) (p1 : Int) : Option (Int × Int) :=
 if (decide (p1 < 0) || decide (p1 >= 16)) then
  some (0, 35)
 else
  (ain 16 p1).bind fun a =>
  some ((p0.cn a), 0)
def xM (fu : Nat) (p0 : zi) (p1 : ze) (a : Nat) (again : Unit -> Option (Unit ⊕ Bool)) (j : Unit) : Option (Unit ⊕ Bool) :=
 (vB p0.Stats (a : Int)).bind fun b =>
 (zaU p1.Told (a : Int)).bind fun c =>
 (xo p0.Scratch.Ct (a : Int)).bind fun d =>
 (zR fu p1.Book (a : Int)).bind fun f =>
 (qg p0.Scratch.Wo (a : Int)).bind fun e =>
 (zF fu p1.Book (a : Int)).bind fun g =>
 (if (!((b.1.Runs == c.1.Runs) && ((b.1.Missed == c.1.Missed) && ((b.1.Steps == c.1.Steps) && ((b.1.Calls == c.1.Calls) && ((b.1.Sum == c.1.Sum) && true)))))) then
  some true
 else
  if (b.2 != 0) then
   some true
  else
   if (d.1 != f.1) then
    some true
   else
    if (d.2 != 0) then
     some true
    else
     if (e.1 != g.1) then
      some true
     else
      some (e.2 != 0)).bind fun h =>
 if h then
  some (.inr false)
 else
  again ()
def jr (fu : Nat) (p0 : zi) (p1 : ze) : Option Bool :=
 (zaM p0).bind fun a =>
 (zas p0).bind fun b =>
 ((jY p0).bind fun c =>
 if (c != p1.Mode) then
  some true
 else
  if (a.1 != p1.Hook) then
   some true
  else
   if (!((a.2.N == p1.Ev.N) && (((a.2.Ev.A == p1.Ev.Ev.A) && ((a.2.Ev.B == p1.Ev.Ev.B) && true)) && true))) then
    some true
   else
    if (b.1 != p1.Version) then
     some true
    else
     some (b.2 != p1.Prog)).bind fun d =>
 if d then
  some false
 else
  (qO (xM fu p0 p1) (fun (f : Unit) => (.inl ())) 4 0 ()).bind fun e => match e with
   | .inl g =>
    some true
   | .inr r => some r
def vj (fu : Nat) (p0 : List qz) (again : (zi × ze × Int) -> Option (Unit ⊕ Bool)) (b : zi × ze × Int) : Option (Unit ⊕ Bool) :=
 if (decide (b.2.2 < ((p0).length : Int)) && decide (b.2.2 < 100)) then
  ((idx p0 b.2.2).bind fun d =>
  (xW fu b.1 b.2.1 d).bind fun a =>
  if (!a.1) then
   some (a.2.1, a.2.2, true)
  else
   (jr fu a.2.1 a.2.2).bind fun e =>
   some (a.2.1, a.2.2, (!e))).bind fun c =>
  if c.2.2 then
   some (.inr false)
  else
   again (c.1, c.2.1, w64 (b.2.2 + 1))
 else
  some (.inl ())
def xP (fu : Nat) (p0 : List qz) : Option Bool :=
 (xR fu).bind fun a =>
 if (!a) then
  some false
 else
  zb9.bind fun b =>
  zaB.bind fun c =>
  (loop (vj fu p0) fu (b, c, 0)).bind fun d => match d with
   | .inl e =>
    some true
   | .inr r => some r
end Go.Proofs.YtbmknhpfkpmigaaGreatDoor
