import Derived.Test.YtgmmfjpmahcocaaGreatDoorHole
set_option linter.unusedSimpArgs false
namespace Go.Proofs.YtgmmfjpmahcocaaGreatDoor
open Go.Sx
set_option linter.unusedVariables false
structure zc where
 Op : Int
 D : Int
 A : Int
 B : Int
 Imm : Int
def zj (x : zc) : List Value := [.int .i64 x.Op, .int .i64 x.D, .int .i64 x.A, .int .i64 x.B, .int .i64 x.Imm]
structure zi where
 Ms : List Int
 Co : List zc
structure zR where
 wo : Nat -> Int
structure qg where
 cn : Nat -> Int
structure zt where
 Wo : zR
 Ct : qg
def jH (x : zt) : List Value := [.int .u64 (x.Wo.wo 0), .int .u64 (x.Wo.wo 1), .int .u64 (x.Wo.wo 2), .int .u64 (x.Wo.wo 3), .int .u64 (x.Wo.wo 4), .int .u64 (x.Wo.wo 5), .int .u64 (x.Wo.wo 6), .int .u64 (x.Wo.wo 7), .int .u64 (x.Wo.wo 8), .int .u64 (x.Wo.wo 9), .int .u64 (x.Wo.wo 10), .int .u64 (x.Wo.wo 11), .int .u64 (x.Wo.wo 12), .int .u64 (x.Wo.wo 13), .int .u64 (x.Wo.wo 14), .int .u64 (x.Wo.wo 15), .int .u64 (x.Ct.cn 0), .int .u64 (x.Ct.cn 1), .int .u64 (x.Ct.cn 2), .int .u64 (x.Ct.cn 3), .int .u64 (x.Ct.cn 4), .int .u64 (x.Ct.cn 5), .int .u64 (x.Ct.cn 6), .int .u64 (x.Ct.cn 7), .int .u64 (x.Ct.cn 8), .int .u64 (x.Ct.cn 9), .int .u64 (x.Ct.cn 10), .int .u64 (x.Ct.cn 11), .int .u64 (x.Ct.cn 12), .int .u64 (x.Ct.cn 13), .int .u64 (x.Ct.cn 14), .int .u64 (x.Ct.cn 15)]
def znK : Rp zt := zlP (jH) 32 (fun _ => rfl)
def zm7 : Rp zt := zel 59 znK
structure zS where
 name : ByteArray
 fields : ByteArray
def zJ (x : zS) : List Value := [.string x.name, .string x.fields]
def vJ : List zS := [(zS.mk (⟨[115, 101, 116].toArray⟩) (⟨[100, 115].toArray⟩)),
 (zS.mk (⟨[97, 100, 100].toArray⟩) (⟨[100, 97, 115].toArray⟩)),
 (zS.mk (⟨[115, 117, 98].toArray⟩) (⟨[100, 97, 115].toArray⟩)),
 (zS.mk (⟨[109, 117, 108].toArray⟩) (⟨[100, 97, 115].toArray⟩)),
 (zS.mk (⟨[100, 105, 118].toArray⟩) (⟨[100, 97, 115].toArray⟩)),
 (zS.mk (⟨[114, 101, 109].toArray⟩) (⟨[100, 97, 115].toArray⟩)),
 (zS.mk (⟨[97, 110, 100].toArray⟩) (⟨[100, 97, 115].toArray⟩)),
 (zS.mk (⟨[111, 114].toArray⟩) (⟨[100, 97, 115].toArray⟩)),
 (zS.mk (⟨[120, 111, 114].toArray⟩) (⟨[100, 97, 115].toArray⟩)),
 (zS.mk (⟨[115, 104, 108].toArray⟩) (⟨[100, 97, 115].toArray⟩)),
 (zS.mk (⟨[115, 104, 114].toArray⟩) (⟨[100, 97, 115].toArray⟩)),
 (zS.mk (⟨[108, 111, 97, 100].toArray⟩) (⟨[100, 115].toArray⟩)),
 (zS.mk (⟨[115, 116, 111, 114, 101].toArray⟩) (⟨[97, 115].toArray⟩)),
 (zS.mk (⟨[102, 105, 101, 108, 100].toArray⟩) (⟨[100, 102].toArray⟩)),
 (zS.mk (⟨[109, 97, 112].toArray⟩) (⟨[100, 109].toArray⟩)),
 (zS.mk (⟨[106, 117, 109, 112].toArray⟩) (⟨[106].toArray⟩)),
 (zS.mk (⟨[106, 101, 113].toArray⟩) (⟨[106, 97, 115].toArray⟩)),
 (zS.mk (⟨[106, 110, 101].toArray⟩) (⟨[106, 97, 115].toArray⟩)),
 (zS.mk (⟨[106, 108, 116].toArray⟩) (⟨[106, 97, 115].toArray⟩)),
 (zS.mk (⟨[106, 103, 101].toArray⟩) (⟨[106, 97, 115].toArray⟩)),
 (zS.mk (⟨[108, 111, 111, 112].toArray⟩) (⟨[98, 97, 110].toArray⟩)),
 (zS.mk (⟨[99, 97, 108, 108].toArray⟩) (⟨[104].toArray⟩)),
 (zS.mk (⟨[101, 120, 105, 116].toArray⟩) (⟨[97].toArray⟩))]
structure zC where
 Head : Int
 At : Int
 Bound : Int
def zu (x : zC) : List Value := [.int .i64 x.Head, .int .i64 x.At, .int .i64 x.Bound]
structure zd where
 Lo : Int
 Hi : Int
def qo (x : zd) : List Value := [.int .u64 x.Lo, .int .u64 x.Hi]
structure za where
 Ki : Int
 Sp : zd
 Map : Int
def zb (x : za) : List Value := [.int .i64 x.Ki, .int .u64 x.Sp.Lo, .int .u64 x.Sp.Hi, .int .i64 x.Map]
structure ze where
 Module : zi
 ca : List (Nat -> za)
 any : List Bool
 loops : List zC
def zm8 : Rp (List (Nat -> za)) := zie 158 (jU (zb) 8) 32 (fun _ => rfl) (by decide)
def zm9 : Rp (List Bool) := zie 4 (za8) 1 (fun _ => rfl) (by decide)
def zna : Rp (List zC) := zie 164 (zu) 3 (fun _ => rfl) (by decide)
def zaO (wb : World) (Sb : List Nat) : Rp ze := qC (fun (x : ze) vs => [vs.getD 0 undef, vs.getD 1 undef, vs.getD 2 undef, vs.getD 3 undef, vs.getD 4 undef]) 5 (fun _ _ => rfl) (fun x => (x.Module.Ms, (x.Module.Co, (x.ca, (x.any, x.loops))))) (qB (zm3 wb Sb (zx .i64) 1) (qB (zm3 wb Sb (zj) 5) (qB zm8 (qB zm9 zna))))
def vr (wb : World) (Sb : List Nat) : Rp ze := zel 148 (zaO wb Sb)
structure zaz where
 name : ByteArray
 wants : ByteArray
 most : Int
 asks : Int
 isAsked : Bool
def qi (x : zaz) : List Value := [.string x.name, .string x.wants, .int .u64 x.most, .int .i64 x.asks, .bool x.isAsked]
def zbe : List zaz := [(zaz.mk (⟨[103, 101, 116].toArray⟩) (⟨[104, 110].toArray⟩) 18446744073709551615 0 true),
 (zaz.mk (⟨[104, 97, 115].toArray⟩) (⟨[104, 110].toArray⟩) 1 1 true),
 (zaz.mk (⟨[112, 117, 116].toArray⟩) (⟨[104, 110, 110].toArray⟩) 1 2 true),
 (zaz.mk (⟨[100, 101, 108].toArray⟩) (⟨[104, 110].toArray⟩) 1 3 true),
 (zaz.mk (⟨[97, 100, 100].toArray⟩) (⟨[104, 110, 110].toArray⟩) 18446744073709551615 4 true),
 (zaz.mk (⟨[109, 97, 114, 107].toArray⟩) (⟨[115].toArray⟩) 18446744073709551615 0 false),
 (zaz.mk (⟨[110, 111, 116, 101].toArray⟩) (⟨[110].toArray⟩) 0 0 false)]
structure xL where
 A : Int
 B : Int
def ze4 (x : xL) : List Value := [.int .u64 x.A, .int .u64 x.B]
structure zg where
 Ev : xL
 mo : zi
 sc : zt
 rg : Nat -> Int
 tu : Nat -> Int
 at_ : Int
 sp : Int
 sa : Int
def zeM : Rp (List Int) := zie 3 (zx .i64) 1 (fun _ => rfl) (by decide)
def zmc : Rp (List zc) := zie 43 (zj) 5 (fun _ => rfl) (by decide)
def zbc : Rp zg := qC (fun (x : zg) vs => [.int .u64 x.Ev.A, .int .u64 x.Ev.B, vs.getD 0 undef, vs.getD 1 undef, vs.getD 2 undef, .int .u64 (x.rg 0), .int .u64 (x.rg 1), .int .u64 (x.rg 2), .int .u64 (x.rg 3), .int .u64 (x.rg 4), .int .u64 (x.rg 5), .int .u64 (x.rg 6), .int .u64 (x.rg 7), .int .i64 (x.tu 0), .int .i64 (x.tu 1), .int .i64 (x.tu 2), .int .i64 (x.tu 3), .int .i64 (x.tu 4), .int .i64 (x.tu 5), .int .i64 (x.tu 6), .int .i64 (x.tu 7), .int .i64 (x.tu 8), .int .i64 (x.tu 9), .int .i64 (x.tu 10), .int .i64 (x.tu 11), .int .i64 (x.tu 12), .int .i64 (x.tu 13), .int .i64 (x.tu 14), .int .i64 (x.tu 15), .int .i64 (x.tu 16), .int .i64 (x.tu 17), .int .i64 (x.tu 18), .int .i64 (x.tu 19), .int .i64 (x.tu 20), .int .i64 (x.tu 21), .int .i64 (x.tu 22), .int .i64 (x.tu 23), .int .i64 (x.tu 24), .int .i64 (x.tu 25), .int .i64 (x.tu 26), .int .i64 (x.tu 27), .int .i64 (x.tu 28), .int .i64 (x.tu 29), .int .i64 (x.tu 30), .int .i64 (x.tu 31), .int .i64 (x.tu 32), .int .i64 (x.tu 33), .int .i64 (x.tu 34), .int .i64 (x.tu 35), .int .i64 (x.tu 36), .int .i64 (x.tu 37), .int .i64 (x.tu 38), .int .i64 (x.tu 39), .int .i64 (x.tu 40), .int .i64 (x.tu 41), .int .i64 (x.tu 42), .int .i64 (x.tu 43), .int .i64 (x.tu 44), .int .i64 (x.tu 45), .int .i64 (x.tu 46), .int .i64 (x.tu 47), .int .i64 (x.tu 48), .int .i64 (x.tu 49), .int .i64 (x.tu 50), .int .i64 (x.tu 51), .int .i64 (x.tu 52), .int .i64 (x.tu 53), .int .i64 (x.tu 54), .int .i64 (x.tu 55), .int .i64 (x.tu 56), .int .i64 (x.tu 57), .int .i64 (x.tu 58), .int .i64 (x.tu 59), .int .i64 (x.tu 60), .int .i64 (x.tu 61), .int .i64 (x.tu 62), .int .i64 (x.tu 63), .int .i64 x.at_, .int .i64 x.sp, .int .i64 x.sa]) 80 (fun _ _ => rfl) (fun x => (x.mo.Ms, (x.mo.Co, x.sc))) (qB zeM (qB zmc zm7))
def zfG : Rp zg := zel 96 zbc
structure xV where
 Map : Int
 Op : Int
 Key : Int
 Val : Int
structure zA where
 Ki : Int
 Pc : Int
 It : xV
 Val : Int
def qe (x : zA) : List Value := [.int .i64 x.Ki, .int .i64 x.Pc, .int .i64 x.It.Map, .int .i64 x.It.Op, .int .u64 x.It.Key, .int .u64 x.It.Val, .int .u64 x.Val]
structure zE where
 E : Int
 Found : Bool
 Val : Int
 Out : Bool
 OutKey : Int
 OutVal : Int
def qk (x : zE) : List Value := [.int .i64 x.E, .bool x.Found, .int .u64 x.Val, .bool x.Out, .int .u64 x.OutKey, .int .u64 x.OutVal]
def jZ : Rp (List za) := zie 156 (zb) 4 (fun _ => rfl) (by decide)
structure zl where
 Ki : Int
 At : Int
 N : Int
def xo (x : zl) : List Value := [.int .i64 x.Ki, .int .i64 x.At, .int .u64 x.N]
structure zk where
 Ak : List zl
def znL : Rp (List zl) := zie 100 (xo) 3 (fun _ => rfl) (by decide)
def ze5 : Rp zk := qC (fun (x : zk) vs => [vs.getD 0 undef]) 1 (fun _ _ => rfl) (fun x => x.Ak) (znL)
def zb2 : Rp zk := zel 64 ze5
structure zf where
 M : zi
 E : xL
 S : zk
 Rg : List Int
 Tu : List Int
 At : Int
 Steps : Int
 Mode : Int
def znM : Rp (List Int) := zie 26 (zx .u64) 1 (fun _ => rfl) (by decide)
def znN : Rp (List Int) := zie 2 (zx .i64) 1 (fun _ => rfl) (by decide)
def vV (wb : World) (Sb : List Nat) : Rp zf := qC (fun (x : zf) vs => [vs.getD 0 undef, vs.getD 1 undef, .int .u64 x.E.A, .int .u64 x.E.B, vs.getD 2 undef, vs.getD 3 undef, vs.getD 4 undef, .int .i64 x.At, .int .i64 x.Steps, .int .i64 x.Mode]) 10 (fun _ _ => rfl) (fun x => (x.M.Ms, (x.M.Co, (x.S, (x.Rg, x.Tu))))) (qB (zm3 wb Sb (zx .i64) 1) (qB (zm3 wb Sb (zj) 5) (qB zb2 (qB znM znN))))
def zc1 (wb : World) (Sb : List Nat) : Rp zf := zel 73 (vV wb Sb)
structure qG where
 M : zi
 E : xL
 Res : List zE
 Odd : Int
def zdu  : Option zi :=
 some (zi.mk ([2] : List Int) ([(zc.mk 13 2 0 0 0), (zc.mk 14 1 0 0 0), (zc.mk 21 0 0 0 0), (zc.mk 22 0 0 0 0)]))
def zeN  : Option zt :=
 some (zt.mk (zR.mk (fun _ => 0)) (qg.mk (fun _ => 0)))
def vk (p0 : List Int) (p1 : Int) (a : Nat) (again : Unit -> Option (Unit ⊕ Int)) (c : Unit) : Option (Unit ⊕ Int) :=
 (idx p0 (a : Int)).bind fun b =>
 if (p1 == b) then
  some (.inr (a : Int))
 else
  again ()
def zap (p0 : List Int) (p1 : Int) : Option Int :=
 (zQ (vk p0 p1) (fun (b : Unit) => (.inl ())) (p0).length 0 ()).bind fun a => match a with
  | .inl c =>
   some (-1)
  | .inr r => some r
def xg (p0 : List Int) (p1 : Int) : Option Bool :=
 (zap p0 p1).bind fun a =>
 some (decide (a >= 0))
def zc2 (p0 : List Int) (b : Nat) (again : Unit -> Option (Unit ⊕ Bool)) (f : Unit) : Option (Unit ⊕ Bool) :=
 (idx p0 (b : Int)).bind fun a =>
 (if decide (a < 0) then
  some true
 else
  if decide (a >= 4) then
   some true
  else
   (cut p0 0 (b : Int)).bind fun c =>
   (xg c a).bind fun d =>
   some d).bind fun e =>
 if e then
  some (.inr false)
 else
  again ()
def zcG (p0 : List Int) : Option Bool :=
 (zQ (zc2 p0) (fun (b : Unit) => (.inl ())) (p0).length 0 ()).bind fun a => match a with
  | .inl c =>
   some (decide (((p0).length : Int) <= 4))
  | .inr r => some r
def zbF (p0 : Int) : Option (zS × Bool) :=
 if (decide (p0 < 0) || decide (p0 >= 23)) then
  some ((zS.mk ByteArray.empty ByteArray.empty), false)
 else
  (idx vJ p0).bind fun a =>
  some (a, true)
def zbG (p0 : Int) : Option Bool :=
 some (decide (p0 >= 0) && decide (p0 < 8))
def zaP (p0 : Int) (p1 : Int) (p2 : Int) : Option Bool :=
 some (decide (p0 >= p1) && decide (p0 <= p2))
def zbH (p0 : zc) (c : zS × Bool) (d : Nat) (again : (Bool × zc) -> Option (Bool × zc)) (a : Bool × zc) : Option (Bool × zc) :=
 (zhA c.1.fields (d : Int)).bind fun b =>
 if (b == 100) then
  if a.1 then
   (zbG p0.D).bind fun e =>
   again (e, (zc.mk a.2.Op 0 a.2.A a.2.B a.2.Imm))
  else
   again (false, (zc.mk a.2.Op 0 a.2.A a.2.B a.2.Imm))
 else
  if (b == 97) then
   if a.1 then
    (zbG p0.A).bind fun f =>
    again (f, (zc.mk a.2.Op a.2.D 0 a.2.B a.2.Imm))
   else
    again (false, (zc.mk a.2.Op a.2.D 0 a.2.B a.2.Imm))
  else
   if (b == 115) then
    if (p0.B == 8) then
     again (a.1, (zc.mk a.2.Op a.2.D a.2.A 0 0))
    else
     if a.1 then
      (zbG p0.B).bind fun g =>
      again (g, (zc.mk a.2.Op a.2.D a.2.A 0 a.2.Imm))
     else
      again (false, (zc.mk a.2.Op a.2.D a.2.A 0 a.2.Imm))
   else
    if (b == 102) then
     if a.1 then
      (zaP p0.Imm 0 1).bind fun h =>
      again (h, (zc.mk a.2.Op a.2.D a.2.A a.2.B 0))
     else
      again (false, (zc.mk a.2.Op a.2.D a.2.A a.2.B 0))
    else
     if (b == 109) then
      if a.1 then
       (zaP p0.Imm 0 3).bind fun j =>
       again (j, (zc.mk a.2.Op a.2.D a.2.A a.2.B 0))
      else
       again (false, (zc.mk a.2.Op a.2.D a.2.A a.2.B 0))
     else
      if (b == 104) then
       if a.1 then
        (zaP p0.Imm 0 6).bind fun l =>
        again (l, (zc.mk a.2.Op a.2.D a.2.A a.2.B 0))
       else
        again (false, (zc.mk a.2.Op a.2.D a.2.A a.2.B 0))
      else
       if (b == 110) then
        if a.1 then
         (zaP p0.Imm 1 255).bind fun n =>
         again (n, (zc.mk a.2.Op a.2.D a.2.A a.2.B 0))
        else
         again (false, (zc.mk a.2.Op a.2.D a.2.A a.2.B 0))
       else
        if (b == 106) then
         if a.1 then
          (zaP p0.D 0 63).bind fun q =>
          again (q, (zc.mk a.2.Op 0 a.2.A a.2.B a.2.Imm))
         else
          again (false, (zc.mk a.2.Op 0 a.2.A a.2.B a.2.Imm))
        else
         if (b == 98) then
          if a.1 then
           (zaP p0.D 1 63).bind fun v =>
           again (v, (zc.mk a.2.Op 0 a.2.A a.2.B a.2.Imm))
          else
           again (false, (zc.mk a.2.Op 0 a.2.A a.2.B a.2.Imm))
         else
          again (a.1, a.2)
def vc (p0 : zc) : Option Bool :=
 (zbF p0.Op).bind fun b =>
 if (!b.2) then
  some false
 else
  ((room b.1.fields.size 1).bind fun e =>
  zQ (zbH p0 b) (fun (c : Bool × zc) => (c.1, c.2)) b.1.fields.size 0 (b.2, (zc.mk 0 p0.D p0.A p0.B p0.Imm))).bind fun a =>
  (if a.1 then
   some ((a.2.Op == 0) && ((a.2.D == 0) && ((a.2.A == 0) && ((a.2.B == 0) && ((a.2.Imm == 0) && true)))))
  else
   some false).bind fun d =>
  some d
def zdv (p0 : zS) (p1 : Int) (a : Nat) (again : Unit -> Option (Unit ⊕ Bool)) (c : Unit) : Option (Unit ⊕ Bool) :=
 (zhA p0.fields (a : Int)).bind fun b =>
 if (b == p1) then
  some (.inr true)
 else
  again ()
def qu (p0 : zS) (p1 : Int) : Option Bool :=
 ((room p0.fields.size 1).bind fun b =>
 zQ (zdv p0 p1) (fun (c : Unit) => (.inl ())) p0.fields.size 0 ()).bind fun a => match a with
  | .inl d =>
   some false
  | .inr r => some r
def zd6 (p0 : zc) : Option (Int × Bool × Bool) :=
 (vc p0).bind fun b =>
 if (!b) then
  some (0, false, false)
 else
  (zbF p0.Op).bind fun a =>
  (qu a.1 106).bind fun c =>
  if c then
   some (w64 (p0.D + 1), true, (p0.Op != 15))
  else
   (qu a.1 98).bind fun d =>
   if d then
    some (w64 (0 - p0.D), true, true)
   else
    some (0, false, (p0.Op != 22))
def zdE (p0 : List zc) (a : Nat) (again : Unit -> Option (Unit ⊕ Bool)) (d : Unit) : Option (Unit ⊕ Bool) :=
 (idx p0 (a : Int)).bind fun b =>
 (vc b).bind fun c =>
 if (!c) then
  some (.inr false)
 else
  again ()
def ze6 (p0 : List zc) : Option Bool :=
 (zQ (zdE p0) (fun (b : Unit) => (.inl ())) (p0).length 0 ()).bind fun a => match a with
  | .inl c =>
   some true
  | .inr r => some r
def zcr (p0 : List zc) (a : Nat) (again : Unit -> Option (Unit ⊕ (Int × Int))) (e : Unit) : Option (Unit ⊕ (Int × Int)) :=
 (idx p0 (a : Int)).bind fun c =>
 (zd6 c).bind fun b =>
 (ze6 ([c])).bind fun d =>
 if (!d) then
  some (.inr ((a : Int), 12))
 else
  if (b.2.1 && (decide ((w64 ((a : Int) + b.1)) < 0) || decide ((w64 ((a : Int) + b.1)) >= ((p0).length : Int)))) then
   some (.inr ((a : Int), 30))
  else
   if (b.2.2 && ((a : Int) == (w64 (((p0).length : Int) - 1)))) then
    some (.inr ((a : Int), 36))
   else
    again ()
def zc3 (p0 : List zc) : Option (Int × Int) :=
 (zQ (zcr p0) (fun (b : Unit) => (.inl ())) (p0).length 0 ()).bind fun a => match a with
  | .inl c =>
   some (0, 0)
  | .inr r => some r
def zc4 (p0 : List zc) (a : Nat) (again : (List zC) -> Option (List zC)) (c : (List zC)) : Option (List zC) :=
 (idx p0 (a : Int)).bind fun b =>
 if (b.Op == 20) then
  (room (c.length + ([(zC.mk (w64 ((a : Int) - b.D)) (a : Int) b.Imm)]).length) 24).bind fun d =>
  again (c ++ [(zC.mk (w64 ((a : Int) - b.D)) (a : Int) b.Imm)])
 else
  again c
def zbV (p0 : List zc) : Option (List zC) :=
 (zQ (zc4 p0) (fun (a : (List zC)) => a) (p0).length 0 ([] : List zC)).bind fun b =>
 some b
def zfH (p0 : zC) (p1 : Int) : Option Bool :=
 some (decide (p1 >= p0.Head) && decide (p1 <= p0.At))
def zbr (a : zC) (c : List zC) (d : Nat) (again : Unit -> Option (Unit ⊕ (Int × Int))) (e : Unit) : Option (Unit ⊕ (Int × Int)) :=
 (idx c (d : Int)).bind fun b =>
 if (decide (b.At >= a.Head) && decide (b.Head < a.Head)) then
  some (.inr (a.At, 31))
 else
  again ()
def zau (a : (List zC)) (b : Nat) (again : Unit -> Option (Unit ⊕ (Int × Int))) (f : Unit) : Option (Unit ⊕ (Int × Int)) :=
 (idx a (b : Int)).bind fun d =>
 (cut a 0 (b : Int)).bind fun c =>
 (zQ (zbr d c) (fun (g : Unit) => (.inl ())) (c).length 0 ()).bind fun e => match e with
  | .inl h =>
   again ()
  | .inr r => some (.inr r)
def zbt (d : (List zC)) (a : Nat) (b : Int × Bool × Bool) (e : Nat) (again : Unit -> Option (Unit ⊕ (Int × Int))) (j : Unit) : Option (Unit ⊕ (Int × Int)) :=
 (idx d (e : Int)).bind fun c =>
 (if b.2.1 then
  if decide (b.1 > 0) then
   (zfH c (a : Int)).bind fun f =>
   if (!f) then
    (zfH c (w64 ((a : Int) + b.1))).bind fun g =>
    if g then
     some ((w64 ((a : Int) + b.1)) != c.Head)
    else
     some false
   else
    some false
  else
   some false
 else
  some false).bind fun h =>
 if h then
  some (.inr ((a : Int), 31))
 else
  again ()
def zbu (p0 : List zc) (a : (List zC)) (b : Nat) (again : Unit -> Option (Unit ⊕ (Int × Int))) (f : Unit) : Option (Unit ⊕ (Int × Int)) :=
 (idx p0 (b : Int)).bind fun c =>
 (zd6 c).bind fun d =>
 (zQ (zbt a b d) (fun (g : Unit) => (.inl ())) (a).length 0 ()).bind fun e => match e with
  | .inl h =>
   again ()
  | .inr r => some (.inr r)
def zc5 (p0 : List zc) : Option (Int × Int) :=
 (zbV p0).bind fun a =>
 (zQ (zau a) (fun (d : Unit) => (.inl ())) (a).length 0 ()).bind fun b => match b with
  | .inl e =>
   (zQ (zbu p0 a) (fun (f : Unit) => (.inl ())) (p0).length 0 ()).bind fun c => match c with
    | .inl g =>
     some (0, 0)
    | .inr r => some r
  | .inr r => some r
def zcl (c : (List zC)) (d : Nat) (e : Nat) (again : Int -> Option Int) (a : Int) : Option Int :=
 (idx c (e : Int)).bind fun b =>
 (zfH b (d : Int)).bind fun f =>
 if f then
  again (vH (w64 (a * (w64 (b.Bound + 1)))) 257)
 else
  again a
def zdF (a : (List zC)) (b : Nat) (again : Int -> Option Int) (c : Int) : Option Int :=
 (zQ (zcl a b) (fun (d : Int) => d) (a).length 0 1).bind fun e =>
 again (vH (w64 (c + e)) 257)
def ze7 (p0 : List zc) : Option Int :=
 (zbV p0).bind fun a =>
 (zQ (zdF a) (fun (b : Int) => b) (p0).length 0 0).bind fun c =>
 some c
def zaQ (p0 : List zc) : Option (Int × Int) :=
 if (((p0).length : Int) == 0) then
  some (0, 10)
 else
  if decide (((p0).length : Int) > 64) then
   some (0, 11)
  else
   (zc3 p0).bind fun a =>
   if (a.2 != 0) then
    some (a.1, a.2)
   else
    (zc5 p0).bind fun b =>
    if (b.2 != 0) then
     some (b.1, b.2)
    else
     (ze7 p0).bind fun c =>
     if decide (c > 256) then
      some (0, 32)
     else
      some (0, 0)
def zd7 (p0 : List zc) : Option ((List zC) × Int) :=
 (zaQ p0).bind fun a =>
 if (a.2 != 0) then
  some (([] : List zC), a.2)
 else
  (zbV p0).bind fun b =>
  some (b, 0)
def vd (p0 : zc) : Option (Int × Bool) :=
 (vc p0).bind fun a =>
 if (!a) then
  some (0, false)
 else
  (zbF p0.Op).bind fun b =>
  (qu b.1 100).bind fun c =>
  if c then
   some (p0.D, true)
  else
   some (0, (p0.Op == 21))
def zav  : Option zd :=
 some (zd.mk 0 18446744073709551615)
def jA (p0 : zd) : Option za :=
 some (za.mk 1 p0 0)
def qx (p1 : Int) (e : List zc) (f : Nat) (again : (List (Nat -> za)) -> Option (List (Nat -> za))) (a : (List (Nat -> za))) : Option (List (Nat -> za)) :=
 (idx e (f : Int)).bind fun g =>
 (vd g).bind fun d =>
 if (!d.2) then
  again a
 else
  (idx a p1).bind fun b =>
  (ain 8 d.1).bind fun c =>
  if ((b c).Ki == 1) then
   zav.bind fun h =>
   (jA h).bind fun j =>
   again (a.set (Int.toNat p1) (zW b c j))
  else
   again (a.set (Int.toNat p1) (zW b c (za.mk 0 (zd.mk 0 0) 0)))
def qZ (p0 : ze) (p1 : Int) (d : Nat) (again : (List (Nat -> za)) -> Option ze) (b : (List (Nat -> za))) : Option ze :=
 (idx p0.loops (d : Int)).bind fun a =>
 if (a.Head != p1) then
  again b
 else
  (cut p0.Module.Co a.Head (w64 (a.At + 1))).bind fun c =>
  (zQ (qx p1 c) (fun (e : (List (Nat -> za))) => e) (c).length 0 b).bind fun f =>
  again f
def qL (p0 : ze) (p1 : Int) : Option ze :=
 (zQ (qZ p0 p1) (fun (a : (List (Nat -> za))) => (ze.mk p0.Module a p0.any p0.loops)) (p0.loops).length 0 p0.ca).bind fun b =>
 some b
def zd8 (p0 : zc) : Option Bool :=
 (zbF p0.Op).bind fun a =>
 ((vc p0).bind fun b =>
 if b then
  (qu a.1 115).bind fun c =>
  some c
 else
  some false).bind fun d =>
 some d
def zc6 (p0 : Int) : Option zd :=
 some (zd.mk p0 p0)
def zbI (p0 : zc) (p1 : Nat -> za) : Option za :=
 if (p0.B == 8) then
  (zc6 (zp p0.Imm)).bind fun a =>
  (jA a).bind fun b =>
  some b
 else
  (ain 8 p0.B).bind fun c =>
  some (p1 c)
def zF (p0 : List za) (a : Nat) (again : Unit -> Option (Unit ⊕ Int)) (c : Unit) : Option (Unit ⊕ Int) :=
 (idx p0 (a : Int)).bind fun b =>
 if (b.Ki != 1) then
  some (.inr 33)
 else
  again ()
def xn (p0 : List za) : Option Int :=
 (zQ (zF p0) (fun (b : Unit) => (.inl ())) (p0).length 0 ()).bind fun a => match a with
  | .inl c =>
   some 0
  | .inr r => some r
def ve (p0 : zd) : Option Bool :=
 some (decide (p0.Lo <= p0.Hi))
def vl (p0 : zd) (p1 : zd) : Option Bool :=
 ((ve p0).bind fun a =>
 if a then
  if decide (p1.Lo <= p0.Lo) then
   some (decide (p0.Hi <= p1.Hi))
  else
   some false
 else
  some false).bind fun b =>
 some b
def zbg (p0 : za) : Option Int :=
 (vl p0.Sp (zd.mk 0 15)).bind fun a =>
 if (!a) then
  some 35
 else
  some 0
def qh (p0 : List Int) (b : Nat) (again : Unit -> Option (Unit ⊕ Int)) (c : Unit) : Option (Unit ⊕ Int) :=
 (idx p0 (b : Int)).bind fun a =>
 if (a != 0) then
  some (.inr a)
 else
  again ()
def zbh (p0 : List Int) : Option Int :=
 (zQ (qh p0) (fun (b : Unit) => (.inl ())) (p0).length 0 ()).bind fun a => match a with
  | .inl c =>
   some 0
  | .inr r => some r
def zbW (p0 : za) (p1 : za) : Option Bool :=
 if (p1.Ki == 1) then
  (if (p0.Ki == 1) then
   (vl p0.Sp p1.Sp).bind fun a =>
   some a
  else
   some false).bind fun b =>
  some b
 else
  if (p1.Ki == 2) then
   some ((p0.Ki == p1.Ki) && (((p0.Sp.Lo == p1.Sp.Lo) && ((p0.Sp.Hi == p1.Sp.Hi) && true)) && ((p0.Map == p1.Map) && true)))
  else
   some true
def xH (p0 : Int) : Option (zaz × Bool) :=
 if (decide (p0 < 0) || decide (p0 >= 7)) then
  some ((zaz.mk ByteArray.empty ByteArray.empty 0 0 false), false)
 else
  (idx zbe p0).bind fun a =>
  some (a, true)
def zc7 (p0 : Int) : Option za :=
 some (za.mk 1 (zd.mk 0 p0) 0)
def zfX (b : zaz × Bool) (again : ((List za) × Nat) -> Option (List za)) (a : (List za) × Nat) : Option (List za) :=
 if decide (a.2 < b.1.wants.size) then
  if ((zfV b.1.wants a.2) == 104) then
   (room (a.1.length + ([(za.mk 2 (zd.mk 0 0) 0)]).length) 32).bind fun e =>
   again ((a.1 ++ [(za.mk 2 (zd.mk 0 0) 0)]), (zc0 b.1.wants a.2))
  else
   if ((zfV b.1.wants a.2) == 115) then
    (zc7 15).bind fun c =>
    (room (a.1.length + ([c]).length) 32).bind fun f =>
    again ((a.1 ++ [c]), (zc0 b.1.wants a.2))
   else
    (zc7 18446744073709551615).bind fun d =>
    (room (a.1.length + ([d]).length) 32).bind fun g =>
    again ((a.1 ++ [d]), (zc0 b.1.wants a.2))
 else
  some a.1
def qV (fu : Nat) (p0 : Int) : Option (List za) :=
 (xH p0).bind fun a =>
 (loop (zfX a) fu (([] : List za), 0)).bind fun b =>
 some b
def vW (p1 : List za) (d : (List za)) (b : Nat) (again : Unit -> Option (Unit ⊕ Int)) (g : Unit) : Option (Unit ⊕ Int) :=
 (idx d (b : Int)).bind fun a =>
 (idx p1 (b : Int)).bind fun c =>
 if (a.Ki != c.Ki) then
  some (.inr 33)
 else
  (if (a.Ki == 1) then
   (vl c.Sp a.Sp).bind fun e =>
   some (!e)
  else
   some false).bind fun f =>
  if f then
   some (.inr 35)
  else
   again ()
def zaR (fu : Nat) (p0 : Int) (p1 : List za) : Option Int :=
 (xH p0).bind fun b =>
 if (!b.2) then
  some 34
 else
  (qV fu p0).bind fun a =>
  if (((a).length : Int) != ((p1).length : Int)) then
   some 2
  else
   (zQ (vW p1 a) (fun (d : Unit) => (.inl ())) (a).length 0 ()).bind fun c => match c with
    | .inl e =>
     some 0
    | .inr r => some r
def zaG (p0 : Int) : Option (za × Bool) :=
 (xH p0).bind fun a =>
 if (!a.2) then
  some ((za.mk 0 (zd.mk 0 0) 0), false)
 else
  (zc7 a.1.most).bind fun b =>
  some (b, true)
def zc8 (p0 : Int) (p1 : Int) (p2 : Int) : Option (Int × Bool) :=
 if (p0 == 1) then
  some (zp (p1 + p2), true)
 else
  if (p0 == 2) then
   some (zp (p1 - p2), true)
  else
   if (p0 == 3) then
    some (zp (p1 * p2), true)
   else
    if (p0 == 4) then
     if (p2 == 0) then
      some (0, true)
     else
      (nz p2).bind fun a =>
      some (zp (p1.tdiv p2), true)
    else
     if (p0 == 5) then
      if (p2 == 0) then
       some (p1, true)
      else
       (nz p2).bind fun b =>
       some (p1.tmod p2, true)
     else
      if (p0 == 6) then
       some (xP .u64 p1 p2, true)
      else
       if (p0 == 7) then
        some (bOr .u64 p1 p2, true)
       else
        if (p0 == 8) then
         some (zgg .u64 p1 p2, true)
        else
         if (p0 == 9) then
          (nn p2).bind fun c =>
          some (zbO .u64 p1 p2, true)
         else
          if (p0 == 10) then
           (nn p2).bind fun d =>
           some (qQ .u64 p1 p2, true)
          else
           some (0, false)
def xd (p0 : zd) : Option Bool :=
 some (p0.Lo == p0.Hi)
def zc9 (p0 : zd) (p1 : zd) : Option zd :=
 (zjw p0.Hi p1.Hi 0).bind fun a =>
 if decide (a.2 > 0) then
  zav.bind fun b =>
  some b
 else
  some (zd.mk (zp (p0.Lo + p1.Lo)) a.1)
def zd9 (p0 : Int) (p1 : Int) : Option (Int × Int) :=
 some (zp ((zp ((zp ((qQ .u64 p0 32) * (qQ .u64 p1 32))) + (qQ .u64 (zp ((zp ((qQ .u64 p0 32) * (xP .u64 p1 4294967295))) + (qQ .u64 (zp ((xP .u64 p0 4294967295) * (xP .u64 p1 4294967295))) 32))) 32))) + (qQ .u64 (zp ((xP .u64 (zp ((zp ((qQ .u64 p0 32) * (xP .u64 p1 4294967295))) + (qQ .u64 (zp ((xP .u64 p0 4294967295) * (xP .u64 p1 4294967295))) 32))) 4294967295) + (zp ((xP .u64 p0 4294967295) * (qQ .u64 p1 32))))) 32)), zp (p0 * p1))
def vK (p0 : zd) (p1 : zd) : Option zd :=
 (zd9 p0.Hi p1.Hi).bind fun a =>
 if decide (a.1 > 0) then
  zav.bind fun b =>
  some b
 else
  some (zd.mk (zp (p0.Lo * p1.Lo)) a.2)
def vL (p0 : zd) (p1 : zd) : Option zd :=
 if (p1.Lo == 0) then
  some (zd.mk 0 p0.Hi)
 else
  (nz p1.Hi).bind fun a =>
  (nz p1.Lo).bind fun b =>
  some (zd.mk (zp (p0.Lo.tdiv p1.Hi)) (zp (p0.Hi.tdiv p1.Lo)))
def zb3 (p0 : zd) (p1 : zd) : Option zd :=
 if (p1.Lo == 0) then
  some (zd.mk 0 p0.Hi)
 else
  if decide (p0.Hi < p1.Lo) then
   some p0
  else
   some (zd.mk 0 (vH p0.Hi (zp (p1.Hi - 1))))
def zcH (p0 : Int) : Option Int :=
 (if decide (p0 >= 4294967296) then
  some (qQ .u64 p0 32, 32)
 else
  some (p0, 0)).bind fun a =>
 (if decide (a.1 >= 65536) then
  some (qQ .u64 a.1 16, w64 (a.2 + 16))
 else
  some (a.1, a.2)).bind fun b =>
 (if decide (b.1 >= 256) then
  some (qQ .u64 b.1 8, w64 (b.2 + 8))
 else
  some (b.1, b.2)).bind fun c =>
 (zhA (⟨[0, 1, 2, 2, 3, 3, 3, 3, 4, 4, 4, 4, 4, 4, 4, 4, 5, 5, 5, 5, 5, 5, 5, 5, 5, 5, 5, 5, 5, 5, 5, 5, 6, 6, 6, 6, 6, 6, 6, 6, 6, 6, 6, 6, 6, 6, 6, 6, 6, 6, 6, 6, 6, 6, 6, 6, 6, 6, 6, 6, 6, 6, 6, 6, 7, 7, 7, 7, 7, 7, 7, 7, 7, 7, 7, 7, 7, 7, 7, 7, 7, 7, 7, 7, 7, 7, 7, 7, 7, 7, 7, 7, 7, 7, 7, 7, 7, 7, 7, 7, 7, 7, 7, 7, 7, 7, 7, 7, 7, 7, 7, 7, 7, 7, 7, 7, 7, 7, 7, 7, 7, 7, 7, 7, 7, 7, 7, 7, 8, 8, 8, 8, 8, 8, 8, 8, 8, 8, 8, 8, 8, 8, 8, 8, 8, 8, 8, 8, 8, 8, 8, 8, 8, 8, 8, 8, 8, 8, 8, 8, 8, 8, 8, 8, 8, 8, 8, 8, 8, 8, 8, 8, 8, 8, 8, 8, 8, 8, 8, 8, 8, 8, 8, 8, 8, 8, 8, 8, 8, 8, 8, 8, 8, 8, 8, 8, 8, 8, 8, 8, 8, 8, 8, 8, 8, 8, 8, 8, 8, 8, 8, 8, 8, 8, 8, 8, 8, 8, 8, 8, 8, 8, 8, 8, 8, 8, 8, 8, 8, 8, 8, 8, 8, 8, 8, 8, 8, 8, 8, 8, 8, 8, 8, 8, 8, 8, 8, 8, 8, 8, 8, 8, 8, 8, 8, 8].toArray⟩) (IntKind.u8.wrap c.1)).bind fun d =>
 some (w64 (c.2 + (w64 d)))
def zaY (p0 : Int) : Option Int :=
 (zcH p0).bind fun a =>
 (nn a).bind fun b =>
 some (zp ((zbO .u64 1 a) - 1))
def zbJ (p0 : zd) (p1 : zd) : Option zd :=
 ((xd p1).bind fun a =>
 if (!a) then
  some true
 else
  (zcH p0.Hi).bind fun b =>
  if decide (b > 0) then
   if decide (p1.Lo > 64) then
    some true
   else
    (zcH p0.Hi).bind fun c =>
    some (decide ((zp ((zp c) + p1.Lo)) > 64))
  else
   some false).bind fun d =>
 if d then
  zav.bind fun e =>
  some e
 else
  (nn p1.Lo).bind fun f =>
  (nn p1.Lo).bind fun g =>
  some (zd.mk (zbO .u64 p0.Lo p1.Lo) (zbO .u64 p0.Hi p1.Lo))
def zdG (p0 : Int) (p1 : zd) (p2 : zd) : Option (zd × Bool) :=
 (zc8 p0 p1.Lo p2.Lo).bind fun a =>
 (if (!a.2) then
  some true
 else
  (ve p1).bind fun b =>
  if (!b) then
   some true
  else
   (ve p2).bind fun c =>
   some (!c)).bind fun d =>
 if d then
  some ((zd.mk 0 0), false)
 else
  ((xd p1).bind fun e =>
  if e then
   (xd p2).bind fun f =>
   some f
  else
   some false).bind fun g =>
  if g then
   (zc6 a.1).bind fun h =>
   some (h, true)
  else
   if (p0 == 1) then
    (zc9 p1 p2).bind fun j =>
    some (j, true)
   else
    if (p0 == 2) then
     if decide (p1.Lo < p2.Hi) then
      zav.bind fun l =>
      some (l, true)
     else
      some ((zd.mk (zp (p1.Lo - p2.Hi)) (zp (p1.Hi - p2.Lo))), true)
    else
     if (p0 == 3) then
      (vK p1 p2).bind fun n =>
      some (n, true)
     else
      if (p0 == 4) then
       (vL p1 p2).bind fun q =>
       some (q, true)
      else
       if (p0 == 5) then
        (zb3 p1 p2).bind fun v =>
        some (v, true)
       else
        if (p0 == 6) then
         some ((zd.mk 0 (vH p1.Hi p2.Hi)), true)
        else
         if (p0 == 7) then
          (zaY (bOr .u64 p1.Hi p2.Hi)).bind fun z =>
          some ((zd.mk (zay p1.Lo p2.Lo) z), true)
         else
          if (p0 == 8) then
           (zaY (bOr .u64 p1.Hi p2.Hi)).bind fun A =>
           some ((zd.mk 0 A), true)
          else
           if (p0 == 9) then
            (zbJ p1 p2).bind fun B =>
            some (B, true)
           else
            (nn p2.Hi).bind fun C =>
            (nn p2.Lo).bind fun D =>
            some ((zd.mk (qQ .u64 p1.Lo p2.Hi) (qQ .u64 p1.Hi p2.Lo)), true)
def ql (p0 : ze) (p1 : Int) (a : zc × (Nat -> za)) (c : Nat) (again : Unit -> Option (Unit ⊕ ((Nat -> za) × Int))) (f : Unit) : Option (Unit ⊕ ((Nat -> za) × Int)) :=
 (ain 8 (c : Int)).bind fun b =>
 (idx p0.ca (w64 (p1 - a.1.D))).bind fun d =>
 (zbW (a.2 b) (d b)).bind fun e =>
 if (!e) then
  some (.inr (a.2, 33))
 else
  again ()
def jV (fu : Nat) (p0 : ze) (p1 : Int) : Option ((Nat -> za) × Int) :=
 ((idx p0.Module.Co p1).bind fun f =>
 (idx p0.ca p1).bind fun g =>
 some (f, g)).bind fun a =>
 (zd8 a.1).bind fun h =>
 (if h then
  (zbI a.1 a.2).bind fun j =>
  some j
 else
  some (za.mk 0 (zd.mk 0 0) 0)).bind fun b =>
 (ain 8 a.1.A).bind fun c =>
 if (a.1.Op == 0) then
  if (b.Ki == 0) then
   some (a.2, 33)
  else
   (ain 8 a.1.D).bind fun l =>
   some ((zW a.2 l b), 0)
 else
  if (a.1.Op == 11) then
   zav.bind fun n =>
   (jA n).bind fun q =>
   (ain 8 a.1.D).bind fun v =>
   (xn ([b])).bind fun z =>
   (zbg b).bind fun B =>
   (zbh ([z, B])).bind fun C =>
   some ((zW a.2 v q), C)
  else
   if (a.1.Op == 12) then
    (xn ([(a.2 c), b])).bind fun E =>
    (zbg b).bind fun F =>
    (zbh ([E, F])).bind fun G =>
    some (a.2, G)
   else
    if (a.1.Op == 13) then
     zav.bind fun H =>
     (jA H).bind fun I =>
     (ain 8 a.1.D).bind fun J =>
     some ((zW a.2 J I), 0)
    else
     if (a.1.Op == 14) then
      (ain 8 a.1.D).bind fun d =>
      if decide (a.1.Imm >= ((p0.Module.Ms).length : Int)) then
       some ((zW a.2 d (za.mk 2 (zd.mk 0 0) a.1.Imm)), 35)
      else
       some ((zW a.2 d (za.mk 2 (zd.mk 0 0) a.1.Imm)), 0)
     else
      if (a.1.Op == 15) then
       some (a.2, 0)
      else
       (if (a.1.Op == 16) then
        some (a.1.Op == 16)
       else
        if (a.1.Op == 17) then
         some (a.1.Op == 17)
        else
         if (a.1.Op == 18) then
          some (a.1.Op == 18)
         else
          some (a.1.Op == 19)).bind fun K =>
       if K then
        (xn ([(a.2 c), b])).bind fun L =>
        some (a.2, L)
       else
        if (a.1.Op == 20) then
         (xn ([(a.2 c)])).bind fun e =>
         if (e != 0) then
          some (a.2, e)
         else
          (zQ (ql p0 p1 a) (fun (W : Unit) => (.inl ())) 8 0 ()).bind fun M => match M with
           | .inl X =>
            some (a.2, 0)
           | .inr r => some r
        else
         if (a.1.Op == 21) then
          (qV fu a.1.Imm).bind fun N =>
          (cut (jY 8 a.2) 1 (w64 (1 + ((N).length : Int)))).bind fun O =>
          (zaR fu a.1.Imm O).bind fun P =>
          (zaG a.1.Imm).bind fun Q =>
          some ((zW a.2 0 Q.1), P)
         else
          if (a.1.Op == 22) then
           (xn ([(a.2 c)])).bind fun R =>
           some (a.2, R)
          else
           (zdG a.1.Op (a.2 c).Sp b.Sp).bind fun S =>
           (jA S.1).bind fun T =>
           (ain 8 a.1.D).bind fun U =>
           (xn ([(a.2 c), b])).bind fun V =>
           some ((zW a.2 U T), V)
def zdH (p0 : List zd) (c : Nat) (again : zd -> Option (zd ⊕ (zd × Bool))) (b : zd) : Option (zd ⊕ (zd × Bool)) :=
 (idx p0 (c : Int)).bind fun a =>
 (ve a).bind fun d =>
 if (!d) then
  some (.inr ((zd.mk 0 0), false))
 else
  again (zd.mk (vH b.Lo a.Lo) (zay b.Hi a.Hi))
def ze8 (p0 : List zd) : Option (zd × Bool) :=
 (zQ (zdH p0) (fun (a : zd) => (.inl a)) (p0).length 0 (zd.mk 18446744073709551615 0)).bind fun b => match b with
  | .inl c =>
   if (((p0).length : Int) == 0) then
    some ((zd.mk 0 0), false)
   else
    some (c, true)
  | .inr r => some r
def zcn (p0 : za) (p1 : za) : Option za :=
 if ((p0.Ki != p1.Ki) || (p0.Map != p1.Map)) then
  some (za.mk 0 (zd.mk 0 0) 0)
 else
  if (p0.Ki == 1) then
   (ze8 ([p0.Sp, p1.Sp])).bind fun a =>
   (jA a.1).bind fun b =>
   some b
  else
   some p0
def qf (p1 : Int) (p2 : Nat -> za) (d : Nat) (again : ze -> Option ze) (a : ze) : Option ze :=
 (idx a.ca p1).bind fun c =>
 (ain 8 (d : Int)).bind fun b =>
 (zcn (c b) (p2 b)).bind fun e =>
 again (ze.mk a.Module (a.ca.set (Int.toNat p1) (zW c b e)) a.any a.loops)
def zD (p0 : ze) (p1 : Int) (p2 : Nat -> za) : Option ze :=
 (idx p0.any p1).bind fun a =>
 if (!a) then
  (idx p0.ca p1).bind fun d =>
  some (ze.mk p0.Module (p0.ca.set (Int.toNat p1) p2) (p0.any.set (Int.toNat p1) true) p0.loops)
 else
  (zQ (qf p1 p2) (fun (b : ze) => b) 8 0 p0).bind fun c =>
  some c
def zaH (p0 : Int) (p1 : Int) (p2 : Int) : Option (Bool × Bool) :=
 if (p0 == 16) then
  some ((p1 == p2), true)
 else
  if (p0 == 17) then
   some ((p1 != p2), true)
  else
   if (p0 == 18) then
    some (decide (p1 < p2), true)
   else
    if (p0 == 19) then
     some (decide (p1 >= p2), true)
    else
     some (false, false)
def zco (p0 : List zd) (c : Nat) (again : zd -> Option (zd ⊕ (zd × Bool))) (b : zd) : Option (zd ⊕ (zd × Bool)) :=
 (idx p0 (c : Int)).bind fun a =>
 (ve a).bind fun d =>
 if (!d) then
  some (.inr ((zd.mk 0 0), false))
 else
  again (zd.mk (zay b.Lo a.Lo) (vH b.Hi a.Hi))
def vt (p0 : List zd) : Option (zd × Bool) :=
 zav.bind fun b =>
 (zQ (zco p0) (fun (c : zd) => (.inl c)) (p0).length 0 b).bind fun d => match d with
  | .inl a =>
   (if (((p0).length : Int) == 0) then
    some true
   else
    (ve a).bind fun e =>
    some (!e)).bind fun f =>
   if f then
    some ((zd.mk 0 0), false)
   else
    some (a, true)
  | .inr r => some r
def jI (p0 : Int) (p1 : zd) (p2 : zd) (p3 : Bool) : Option (zd × Bool) :=
 (zaH p0 0 0).bind fun d =>
 (if (!d.2) then
  some true
 else
  (ve p1).bind fun e =>
  if (!e) then
   some true
  else
   (ve p2).bind fun f =>
   some (!f)).bind fun g =>
 if g then
  some ((zd.mk 0 0), false)
 else
  (xd p2).bind fun h =>
  if (!h) then
   some (p1, true)
  else
   (if ((p0 == 18) && p3) then
    some ((p0 == 18) && p3)
   else
    if (p0 == 19) then
     some (!p3)
    else
     some false).bind fun j =>
   if j then
    if (p2.Lo == 0) then
     some ((zd.mk 0 0), false)
    else
     (vt ([p1, (zd.mk 0 (zp (p2.Lo - 1)))])).bind fun a =>
     some (a.1, a.2)
   else
    (if (p0 == 18) then
     some (p0 == 18)
    else
     some (p0 == 19)).bind fun l =>
    if l then
     (vt ([p1, (zd.mk p2.Lo 18446744073709551615)])).bind fun b =>
     some (b.1, b.2)
    else
     (if ((p0 == 16) && p3) then
      some ((p0 == 16) && p3)
     else
      if (p0 == 17) then
       some (!p3)
      else
       some false).bind fun n =>
     if n then
      (vt ([p1, p2])).bind fun c =>
      some (c.1, c.2)
     else
      if ((p1.Lo == p2.Lo) && ((p1.Hi == p2.Hi) && true)) then
       some ((zd.mk 0 0), false)
      else
       if (p1.Lo == p2.Lo) then
        some ((zd.mk (zp (p1.Lo + 1)) p1.Hi), true)
       else
        if (p1.Hi == p2.Lo) then
         some ((zd.mk p1.Lo (zp (p1.Hi - 1))), true)
        else
         some (p1, true)
def zV (p1 : Int) (p2 : Nat -> za) (a : zc) (f : Int × Bool × Bool) (g : za) (h : Nat) (again : ze -> Option ze) (b : ze) : Option ze :=
 (idx ([true, false]) (h : Int)).bind fun c =>
 (if (!c) then
  some (w64 (p1 + 1))
 else
  some (w64 (p1 + f.1))).bind fun j =>
 ((ain 8 a.A).bind fun l =>
 (jI a.Op (p2 l).Sp g.Sp c).bind fun d =>
 some (d.1, d.2)).bind fun e =>
 if e.2 then
  (jA e.1).bind fun n =>
  (ain 8 a.A).bind fun q =>
  (zD b j (zW p2 q n)).bind fun v =>
  again v
 else
  again b
def jB (p0 : ze) (p1 : Int) (p2 : Nat -> za) : Option ze :=
 (idx p0.Module.Co p1).bind fun b =>
 (zd6 b).bind fun a =>
 if ((!a.2.1) || decide (a.1 < 0)) then
  (if a.2.2 then
   (zD p0 (w64 (p1 + 1)) p2).bind fun c =>
   some c
  else
   some p0).bind fun d =>
  some d
 else
  if (!a.2.2) then
   (zD p0 (w64 (p1 + a.1)) p2).bind fun e =>
   some e
  else
   (zbI b p2).bind fun f =>
   (zQ (zV p1 p2 b a f) (fun (g : ze) => g) 2 0 p0).bind fun h =>
   some h
def zL (fu : Nat) (a : Nat) (again : ze -> Option (ze ⊕ ((Option ze) × Int × Int))) (b : ze) : Option (ze ⊕ ((Option ze) × Int × Int)) :=
 (idx b.any (a : Int)).bind fun e =>
 if (!e) then
  again b
 else
  (qL b (a : Int)).bind fun d =>
  (jV fu d (a : Int)).bind fun c =>
  if (c.2 != 0) then
   some (.inr (none, (a : Int), c.2))
  else
   (jB d (a : Int) c.1).bind fun f =>
   again f
def jC (fu : Nat) (p0 : zi) : Option ((Option ze) × Int × Int) :=
 (zcG p0.Ms).bind fun c =>
 if (!c) then
  some (none, 0, 2)
 else
  (zaQ p0.Co).bind fun b =>
  if (b.2 != 0) then
   some (none, b.1, b.2)
  else
   ((mkLen ((p0.Co).length : Int) 256).bind fun d =>
   (mkLen ((p0.Co).length : Int) 1).bind fun e =>
   some (ze.mk p0 (List.replicate d (fun _ => (za.mk 0 (zd.mk 0 0) 0))) (List.replicate e false) ([] : List zC))).bind fun a =>
   (zd7 p0.Co).bind fun f =>
   (idx a.any 0).bind fun l =>
   (zQ (zL fu) (fun (g : ze) => (.inl g)) (p0.Co).length 0 (ze.mk a.Module a.ca (a.any.set (Int.toNat 0) true) f.1)).bind fun h => match h with
    | .inl j =>
     some ((some j), 0, 0)
    | .inr r => some r
def zbi (fu : Nat) (p0 : zi) : Option (Int × Int) :=
 (jC fu p0).bind fun a =>
 zlN a.1
  (some (a.2.1, a.2.2))
  (fun b =>
  some (a.2.1, a.2.2))
def zaZ (p0 : zR) : Option zR :=
 some (zR.mk (fun _ => 0))
def xW (p0 : List Int) : Option (List Int) :=
 (room (([] : List Int).length + p0.length) 8).bind fun a =>
 some (([] : List Int) ++ p0)
def zH (p0 : List zc) : Option (List zc) :=
 (room (([] : List zc).length + p0.length) 40).bind fun a =>
 some (([] : List zc) ++ p0)
def ze9 (p0 : Int) : Option (Int × Bool) :=
 (xH p0).bind fun a =>
 some (a.1.asks, a.1.isAsked)
def qM (p0 : qg) (p1 : Int) : Option (Int × Int × qg) :=
 if (decide (p1 < 0) || decide (p1 >= 16)) then
  some (0, 35, p0)
 else
  (ain 16 p1).bind fun a =>
  some (((zW p0.cn a (zp ((p0.cn a) + 1))) a), 0, (qg.mk (zW p0.cn a (zp ((p0.cn a) + 1)))))
def vm (fu : Nat) (p0 : zg) (p1 : Int) : Option (zA × zg) :=
 (ze9 p1).bind fun c =>
 if c.2 then
  (idx p0.mo.Ms (p0.rg 1)).bind fun d =>
  (qV fu p1).bind fun e =>
  (if decide (((e).length : Int) > 2) then
   some (p0.rg 3)
  else
   some 0).bind fun f =>
  some ((zA.mk 2 p0.at_ (xV.mk d c.1 (p0.rg 2) f) 0), (zg.mk p0.Ev p0.mo p0.sc p0.rg p0.tu p0.at_ p0.sp 1))
 else
  (if (p1 == 5) then
   (qM p0.sc.Ct (w64 (p0.rg 1))).bind fun b =>
   some ((zg.mk p0.Ev p0.mo (zt.mk p0.sc.Wo b.2.2) (zW p0.rg 0 b.1) p0.tu p0.at_ p0.sp p0.sa), (zA.mk 1 p0.at_ (xV.mk 0 0 0 0) b.1))
  else
   some ((zg.mk p0.Ev p0.mo p0.sc (zW p0.rg 0 0) p0.tu p0.at_ p0.sp p0.sa), (zA.mk 3 p0.at_ (xV.mk 0 0 0 0) (p0.rg 1)))).bind fun a =>
  some (a.2, (zg.mk a.1.Ev a.1.mo a.1.sc a.1.rg a.1.tu (w64 (a.1.at_ + 1)) a.1.sp a.1.sa))
def qc (p0 : zg) (p1 : zc) : Option Int :=
 if (p1.B == 8) then
  some (zp p1.Imm)
 else
  (ain 8 p1.B).bind fun a =>
  some (p0.rg a)
def xa (p0 : zR) (p1 : Int) : Option (Int × Int) :=
 if (decide (p1 < 0) || decide (p1 >= 16)) then
  some (0, 35)
 else
  (ain 16 p1).bind fun a =>
  some ((p0.wo a), 0)
def jJ (p0 : zR) (p1 : Int) (p2 : Int) : Option (Int × zR) :=
 if (decide (p1 < 0) || decide (p1 >= 16)) then
  some (35, p0)
 else
  (ain 16 p1).bind fun a =>
  some (0, (zR.mk (zW p0.wo a p2)))
def zT (p0 : zg) (p1 : zc) : Option (Int × zg) :=
 if (p1.Op == 0) then
  (qc p0 p1).bind fun e =>
  (ain 8 p1.D).bind fun f =>
  some (1, (zg.mk p0.Ev p0.mo p0.sc (zW p0.rg f e) p0.tu p0.at_ p0.sp p0.sa))
 else
  if (p1.Op == 11) then
   (qc p0 p1).bind fun g =>
   (xa p0.sc.Wo (w64 g)).bind fun h =>
   (ain 8 p1.D).bind fun j =>
   some (1, (zg.mk p0.Ev p0.mo p0.sc (zW p0.rg j h.1) p0.tu p0.at_ p0.sp p0.sa))
  else
   if (p1.Op == 12) then
    (ain 8 p1.A).bind fun l =>
    (qc p0 p1).bind fun n =>
    (jJ p0.sc.Wo (w64 n) (p0.rg l)).bind fun q =>
    some (1, (zg.mk p0.Ev p0.mo (zt.mk q.2 p0.sc.Ct) p0.rg p0.tu p0.at_ p0.sp p0.sa))
   else
    if (p1.Op == 13) then
     (ain 8 p1.D).bind fun a =>
     if (p1.Imm == 1) then
      some (1, (zg.mk p0.Ev p0.mo p0.sc (zW (zW p0.rg a p0.Ev.A) a p0.Ev.B) p0.tu p0.at_ p0.sp p0.sa))
     else
      some (1, (zg.mk p0.Ev p0.mo p0.sc (zW p0.rg a p0.Ev.A) p0.tu p0.at_ p0.sp p0.sa))
    else
     if (p1.Op == 14) then
      (ain 8 p1.D).bind fun v =>
      some (1, (zg.mk p0.Ev p0.mo p0.sc (zW p0.rg v (zp p1.Imm)) p0.tu p0.at_ p0.sp p0.sa))
     else
      if (p1.Op == 15) then
       some (w64 (p1.D + 1), p0)
      else
       if (p1.Op == 20) then
        ((ain 8 p1.A).bind fun z =>
        if ((p0.rg z) != 0) then
         (ain 64 p0.at_).bind fun C =>
         some (decide ((p0.tu C) < p1.Imm))
        else
         some false).bind fun E =>
        if E then
         (ain 64 p0.at_).bind fun b =>
         some (w64 (0 - p1.D), (zg.mk p0.Ev p0.mo p0.sc p0.rg (zW p0.tu b (w64 ((p0.tu b) + 1))) p0.at_ p0.sp p0.sa))
        else
         (ain 64 p0.at_).bind fun F =>
         some (1, (zg.mk p0.Ev p0.mo p0.sc p0.rg (zW p0.tu F 0) p0.at_ p0.sp p0.sa))
       else
        (ain 8 p1.A).bind fun c =>
        (qc p0 p1).bind fun G =>
        (zc8 p1.Op (p0.rg c) G).bind fun d =>
        if d.2 then
         (ain 8 p1.D).bind fun H =>
         some (1, (zg.mk p0.Ev p0.mo p0.sc (zW p0.rg H d.1) p0.tu p0.at_ p0.sp p0.sa))
        else
         (qc p0 p1).bind fun I =>
         (zaH p1.Op (p0.rg c) I).bind fun J =>
         if J.1 then
          some (w64 (p1.D + 1), p0)
         else
          some (1, p0)
def qI (fu : Nat) (p0 : zg) : Option (zA × zg) :=
 if (p0.sa == 1) then
  some ((zA.mk 5 p0.at_ (xV.mk 0 0 0 0) 0), p0)
 else
  if (p0.sa == 2) then
   (idx p0.mo.Co p0.at_).bind fun d =>
   (ain 8 d.A).bind fun e =>
   some ((zA.mk 6 p0.at_ (xV.mk 0 0 0 0) (p0.rg e)), p0)
  else
   (idx p0.mo.Co p0.at_).bind fun b =>
   if (b.Op == 21) then
    (vm fu (zg.mk p0.Ev p0.mo p0.sc p0.rg p0.tu p0.at_ (w64 (p0.sp + 1)) p0.sa) b.Imm).bind fun c =>
    some (c.1, c.2)
   else
    if (b.Op == 22) then
     (ain 8 b.A).bind fun f =>
     some ((zA.mk 4 p0.at_ (xV.mk 0 0 0 0) (p0.rg f)), (zg.mk p0.Ev p0.mo p0.sc p0.rg p0.tu p0.at_ (w64 (p0.sp + 1)) 2))
    else
     (zT (zg.mk p0.Ev p0.mo p0.sc p0.rg p0.tu p0.at_ (w64 (p0.sp + 1)) p0.sa) b).bind fun a =>
     some ((zA.mk 1 p0.at_ (xV.mk 0 0 0 0) 0), (zg.mk a.2.Ev a.2.mo a.2.sc a.2.rg a.2.tu (w64 (p0.at_ + a.1)) a.2.sp a.2.sa))
def zbX (p0 : Int) (p1 : zE) : Option Int :=
 (if (p0 == 0) then
  some (p0 == 0)
 else
  some (p0 == 4)).bind fun a =>
 if a then
  some p1.Val
 else
  (if (p0 == 1) then
   some (p0 == 1)
  else
   some (p0 == 3)).bind fun b =>
  if b then
   if p1.Found then
    some 1
   else
    some 0
  else
   if (p0 == 2) then
    if (p1.E == 0) then
     some 1
    else
     some 0
   else
    some 0
def qN (p0 : zg) (p1 : zE) : Option (Int × zg) :=
 if (p0.sa != 1) then
  some (2, p0)
 else
  (idx p0.mo.Co p0.at_).bind fun a =>
  (zbX a.Imm p1).bind fun b =>
  some (0, (zg.mk p0.Ev p0.mo p0.sc (zW p0.rg 0 b) p0.tu (w64 (p0.at_ + 1)) p0.sp 0))
def zdI (again : Unit -> Option ((List zA) × Int)) (a : Unit) : Option ((List zA) × Int) :=
 none
def zz (fu : Nat) (again : ((List zE) × zg × (List zA)) -> Option ((List zA) × Int)) (a : (List zE) × zg × (List zA)) : Option ((List zA) × Int) :=
 (qI fu a.2.1).bind fun b =>
 (room (a.2.2.length + ([b.1]).length) 56).bind fun g =>
 (if (b.1.Ki == 4) then
  some (b.1.Ki == 4)
 else
  if (b.1.Ki == 2) then
   some (((a.1).length : Int) == 0)
  else
   some false).bind fun c =>
 if c then
  some ((a.2.2 ++ [b.1]), 0)
 else
  if (b.1.Ki == 2) then
   (idx a.1 0).bind fun d =>
   (qN b.2 d).bind fun e =>
   (cut a.1 1 (a.1.length : Int)).bind fun f =>
   again (f, e.2, (a.2.2 ++ [b.1]))
  else
   again (a.1, b.2, (a.2.2 ++ [b.1]))
def zbK (fu : Nat) (p0 : zi) (p1 : xL) (p2 : List zE) : Option ((List zA) × Int) :=
 zeN.bind fun b =>
 (zbi fu p0).bind fun a =>
 if (a.2 != 0) then
  if (a.2 != 0) then
   some (([] : List zA), a.2)
  else
   loop zdI fu ()
 else
  (zaZ b.Wo).bind fun c =>
  (xW p0.Ms).bind fun d =>
  (zH p0.Co).bind fun e =>
  loop (zz fu) fu (p2, (zg.mk p1 (zi.mk d e) (zt.mk c b.Ct) (fun _ => 0) (fun _ => 0) 0 0 0), ([] : List zA))
def zbj (fu : Nat)  : Option Bool :=
 zdu.bind fun d =>
 (zbK fu d (xL.mk 20 3) ([(zE.mk 0 true 9 false 0 0)])).bind fun c =>
 (if (c.2 == 0) then
  if (((c.1).length : Int) == 4) then
   (idx c.1 2).bind fun a =>
   if ((a.Ki == 2) && ((a.Pc == 2) && (((a.It.Map == 2) && ((a.It.Op == 0) && ((a.It.Key == 20) && ((a.It.Val == 0) && true)))) && ((a.Val == 0) && true)))) then
    (idx c.1 3).bind fun b =>
    some ((b.Ki == 4) && ((b.Pc == 3) && (((b.It.Map == 0) && ((b.It.Op == 0) && ((b.It.Key == 0) && ((b.It.Val == 0) && true)))) && ((b.Val == 9) && true))))
   else
    some false
  else
   some false
 else
  some false).bind fun e =>
 some e
def vz (p0 : zi) : Option zi :=
 ((room (([] : List Int).length + p0.Ms.length) 8).bind fun a =>
 (room (([] : List zc).length + p0.Co.length) 40).bind fun b =>
 some ()).bind fun c =>
 some (zi.mk (([] : List Int) ++ p0.Ms) (([] : List zc) ++ p0.Co))
def zaI (p0 : List Int) (a : Nat) (b : Nat) (again : Unit -> Option (Unit ⊕ Bool)) (e : Unit) : Option (Unit ⊕ Bool) :=
 (idx p0 (b : Int)).bind fun c =>
 (idx p0 (a : Int)).bind fun d =>
 if (c == d) then
  some (.inr false)
 else
  again ()
def zaJ (p0 : List Int) (a : Nat) (again : Unit -> Option (Unit ⊕ Bool)) (e : Unit) : Option (Unit ⊕ Bool) :=
 ((idx p0 (a : Int)).bind fun b =>
 if decide (b < 0) then
  some true
 else
  some (decide (b > 3))).bind fun c =>
 if c then
  some (.inr false)
 else
  ((room a 1).bind fun f =>
  zQ (zaI p0 a) (fun (g : Unit) => (.inl ())) a 0 ()).bind fun d => match d with
   | .inl h =>
    again ()
   | .inr r => some (.inr r)
def vu (fu : Nat) (p0 : List Int) : Option Bool :=
 if decide (((p0).length : Int) > 4) then
  some false
 else
  (zQ (zaJ p0) (fun (b : Unit) => (.inl ())) (p0).length 0 ()).bind fun a => match a with
   | .inl c =>
    some true
   | .inr r => some r
def zX (p0 : Int) : Option Bool :=
 some (decide (p0 >= 0) && decide (p0 <= 7))
def qJ (p0 : zc) : Option Bool :=
 ((zX p0.B).bind fun a =>
 if a then
  if (p0.Imm == 0) then
   some true
  else
   some (p0.B == 8)
 else
  some (p0.B == 8)).bind fun b =>
 some b
def zY (p0 : Int) : Option Bool :=
 some (decide (p0 >= 1) && decide (p0 <= 10))
def jD (p0 : Int) : Option Bool :=
 some (decide (p0 >= 16) && decide (p0 <= 19))
def jK (p0 : zc) : Option Bool :=
 if ((p0.Op == 0) || (p0.Op == 11)) then
  ((zX p0.D).bind fun a =>
  if a then
   if (p0.A == 0) then
    (qJ p0).bind fun b =>
    some b
   else
    some false
  else
   some false).bind fun c =>
  some c
 else
  (zY p0.Op).bind fun d =>
  if d then
   ((zX p0.D).bind fun e =>
   if e then
    (zX p0.A).bind fun f =>
    if f then
     (qJ p0).bind fun g =>
     some g
    else
     some false
   else
    some false).bind fun h =>
   some h
  else
   if (p0.Op == 12) then
    (if (p0.D == 0) then
     (zX p0.A).bind fun j =>
     if j then
      (qJ p0).bind fun l =>
      some l
     else
      some false
    else
     some false).bind fun n =>
    some n
   else
    if (p0.Op == 13) then
     ((zX p0.D).bind fun q =>
     if q then
      if (p0.A == 0) then
       if (p0.B == 0) then
        if (p0.Imm == 0) then
         some true
        else
         some (p0.Imm == 1)
       else
        some false
      else
       some false
     else
      some false).bind fun v =>
     some v
    else
     if (p0.Op == 14) then
      ((zX p0.D).bind fun z =>
      if z then
       if (p0.A == 0) then
        if (p0.B == 0) then
         if decide (p0.Imm >= 0) then
          some (decide (p0.Imm <= 3))
         else
          some false
        else
         some false
       else
        some false
      else
       some false).bind fun C =>
      some C
     else
      if (p0.Op == 15) then
       some ((((decide (p0.D >= 0) && decide (p0.D <= 63)) && (p0.A == 0)) && (p0.B == 0)) && (p0.Imm == 0))
      else
       (jD p0.Op).bind fun E =>
       if E then
        (if decide (p0.D >= 0) then
         if decide (p0.D <= 63) then
          (zX p0.A).bind fun F =>
          if F then
           (qJ p0).bind fun G =>
           some G
          else
           some false
         else
          some false
        else
         some false).bind fun H =>
        some H
       else
        if (p0.Op == 20) then
         (if decide (p0.D >= 1) then
          if decide (p0.D <= 63) then
           (zX p0.A).bind fun I =>
           if I then
            if (p0.B == 0) then
             if decide (p0.Imm >= 1) then
              some (decide (p0.Imm <= 255))
             else
              some false
            else
             some false
           else
            some false
          else
           some false
         else
          some false).bind fun J =>
         some J
        else
         if (p0.Op == 21) then
          some (((((p0.D == 0) && (p0.A == 0)) && (p0.B == 0)) && decide (p0.Imm >= 0)) && decide (p0.Imm <= 6))
         else
          if (p0.Op == 22) then
           (if (p0.D == 0) then
            (zX p0.A).bind fun K =>
            if K then
             if (p0.B == 0) then
              some (p0.Imm == 0)
             else
              some false
            else
             some false
           else
            some false).bind fun L =>
           some L
          else
           some false
def xe (p0 : zc) : Option (Int × Bool × Bool) :=
 (jK p0).bind fun a =>
 if (!a) then
  some (0, false, false)
 else
  if (p0.Op == 15) then
   some (w64 (p0.D + 1), true, false)
  else
   (jD p0.Op).bind fun b =>
   if b then
    some (w64 (p0.D + 1), true, true)
   else
    if (p0.Op == 20) then
     some (w64 (0 - p0.D), true, true)
    else
     some (0, false, (p0.Op != 22))
def vM (b : Nat) (again : ((List (List Int)) × Int) -> Option (List (List Int))) (a : (List (List Int)) × Int) : Option (List (List Int)) :=
 if decide (a.2 <= (b : Int)) then
  (idx a.1 a.2).bind fun c =>
  (room (c.length + ([(b : Int)]).length) 8).bind fun d =>
  again ((a.1.set (Int.toNat a.2) (c ++ [(b : Int)])), w64 (a.2 + 1))
 else
  some a.1
def vN (fu : Nat) (p0 : List zc) (a : Nat) (again : (List (List Int)) -> Option (List (List Int))) (b : (List (List Int))) : Option (List (List Int)) :=
 (idx p0 (a : Int)).bind fun c =>
 if (c.Op != 20) then
  again b
 else
  (loop (vM a) fu (b, w64 ((a : Int) - c.D))).bind fun d =>
  again d
def vA (fu : Nat) (p0 : List zc) : Option (List (List Int)) :=
 (mkLen ((p0).length : Int) 24).bind fun a =>
 (zQ (vN fu p0) (fun (b : (List (List Int))) => b) (p0).length 0 (List.replicate a [])).bind fun c =>
 some c
def za0 (p0 : List Int) (p1 : Int) (a : Nat) (again : Unit -> Option (Unit ⊕ Bool)) (c : Unit) : Option (Unit ⊕ Bool) :=
 (idx p0 (a : Int)).bind fun b =>
 if (b == p1) then
  some (.inr true)
 else
  again ()
def vf (p0 : List Int) (p1 : Int) : Option Bool :=
 (zQ (za0 p0 p1) (fun (b : Unit) => (.inl ())) (p0).length 0 ()).bind fun a => match a with
  | .inl c =>
   some false
  | .inr r => some r
def xh (p1 : List (List Int)) (c : Nat) (d : Nat) (e : Nat) (again : (Int × Bool) -> Option (Int × Bool)) (a : Int × Bool) : Option (Int × Bool) :=
 (idx p1 (e : Int)).bind fun b =>
 (vf b (d : Int)).bind fun f =>
 if f then
  (vf b (c : Int)).bind fun g =>
  if g then
   again (w64 (a.1 + 1), a.2)
  else
   again (a.1, false)
 else
  again (a.1, a.2)
def xi (p0 : List zc) (p1 : List (List Int)) (a : Nat) (b : Nat) (again : Unit -> Option (Unit ⊕ (Int × Bool))) (f : Unit) : Option (Unit ⊕ (Int × Bool)) :=
 (idx p0 (b : Int)).bind fun e =>
 if (e.Op != 20) then
  again ()
 else
  (zQ (xh p1 a b) (fun (c : Int × Bool) => (c.1, c.2)) (p0).length 0 (0, true)).bind fun d =>
  if (decide (d.1 > 0) && (!d.2)) then
   some (.inr ((a : Int), true))
  else
   again ()
def xj (p0 : List zc) (p1 : List (List Int)) (a : Nat) (again : Unit -> Option (Unit ⊕ (Int × Bool))) (d : Unit) : Option (Unit ⊕ (Int × Bool)) :=
 (idx p0 (a : Int)).bind fun b =>
 if (b.Op != 20) then
  again ()
 else
  ((room a 1).bind fun e =>
  zQ (xi p0 p1 a) (fun (f : Unit) => (.inl ())) a 0 ()).bind fun c => match c with
   | .inl g =>
    again ()
   | .inr r => some (.inr r)
def xX (fu : Nat) (p0 : List zc) (p1 : List (List Int)) : Option (Int × Bool) :=
 (zQ (xj p0 p1) (fun (b : Unit) => (.inl ())) (p0).length 0 ()).bind fun a => match a with
  | .inl c =>
   some (0, false)
  | .inr r => some r
def xk (p0 : List zc) (p1 : List (List Int)) (a : Nat) (d : Int × Bool × Bool) (again : Int -> Option (Unit ⊕ (Int × Bool))) (b : Int) : Option (Unit ⊕ (Int × Bool)) :=
 (idx p1 (w64 ((a : Int) + d.1))).bind fun e =>
 if decide (b < ((e).length : Int)) then
  (idx e b).bind fun c =>
  ((idx p1 (a : Int)).bind fun f =>
  (vf f c).bind fun g =>
  if (!g) then
   (idx p0 c).bind fun h =>
   some ((w64 ((a : Int) + d.1)) != (w64 (c - h.D)))
  else
   some false).bind fun j =>
  if j then
   some (.inr ((a : Int), true))
  else
   again (w64 (b + 1))
 else
  some (.inl ())
def xl (fu : Nat) (p0 : List zc) (p1 : List (List Int)) (b : Nat) (again : Unit -> Option (Unit ⊕ (Int × Bool))) (e : Unit) : Option (Unit ⊕ (Int × Bool)) :=
 (idx p0 (b : Int)).bind fun c =>
 (xe c).bind fun a =>
 if ((!a.2.1) || decide (a.1 < 0)) then
  again ()
 else
  (loop (xk p0 p1 b a) fu 0).bind fun d => match d with
   | .inl f =>
    again ()
   | .inr r => some (.inr r)
def xY (fu : Nat) (p0 : List zc) (p1 : List (List Int)) : Option (Int × Bool) :=
 (zQ (xl fu p0 p1) (fun (b : Unit) => (.inl ())) (p0).length 0 ()).bind fun a => match a with
  | .inl c =>
   some (0, false)
  | .inr r => some r
def vn (p0 : List zc) (p1 : List (List Int)) (b : Nat) (again : (Int × Int) -> Option Int) (a : Int × Int) : Option Int :=
 ((idx p1 (b : Int)).bind fun c =>
 if decide (a.2 < ((c).length : Int)) then
  some (decide (a.1 <= 256))
 else
  some false).bind fun d =>
 if d then
  (idx p1 (b : Int)).bind fun e =>
  (idx e a.2).bind fun f =>
  (idx p0 f).bind fun g =>
  again (w64 (a.1 * (w64 (g.Imm + 1))), w64 (a.2 + 1))
 else
  some a.1
def zaK (fu : Nat) (p0 : List zc) (p1 : List (List Int)) (a : Nat) (again : Int -> Option Int) (b : Int) : Option Int :=
 (loop (vn p0 p1 a) fu (1, 0)).bind fun c =>
 again (w64 (b + c))
def zaA (fu : Nat) (p0 : List zc) (p1 : List (List Int)) : Option Int :=
 (zQ (zaK fu p0 p1) (fun (a : Int) => a) (p0).length 0 0).bind fun b =>
 some b
def xZ (p0 : List zc) (a : Nat) (again : Unit -> Option (Unit ⊕ (Int × Int))) (e : Unit) : Option (Unit ⊕ (Int × Int)) :=
 (idx p0 (a : Int)).bind fun c =>
 (jK c).bind fun d =>
 if (!d) then
  some (.inr ((a : Int), 12))
 else
  (xe c).bind fun b =>
  if (b.2.1 && (decide ((w64 ((a : Int) + b.1)) < 0) || decide ((w64 ((a : Int) + b.1)) > (w64 (((p0).length : Int) - 1))))) then
   some (.inr ((a : Int), 30))
  else
   if (b.2.2 && ((w64 ((a : Int) + 1)) == ((p0).length : Int))) then
    some (.inr ((a : Int), 36))
   else
    again ()
def vX (fu : Nat) (p0 : List zc) : Option (Int × Int) :=
 if (((p0).length : Int) == 0) then
  some (0, 10)
 else
  if decide (((p0).length : Int) > 64) then
   some (0, 11)
  else
   (zQ (xZ p0) (fun (f : Unit) => (.inl ())) (p0).length 0 ()).bind fun d => match d with
    | .inl g =>
     (vA fu p0).bind fun a =>
     (xX fu p0 a).bind fun b =>
     if b.2 then
      some (b.1, 31)
     else
      (xY fu p0 a).bind fun c =>
      if c.2 then
       some (c.1, 31)
      else
       (zaA fu p0 a).bind fun e =>
       if decide (e > 256) then
        some (0, 32)
       else
        some (0, 0)
    | .inr r => some r
def xp (p0 : Int) (p1 : Int) : Option za :=
 some (za.mk 1 (zd.mk p0 p1) 0)
def qW (p0 : zc) (p1 : List za) : Option za :=
 if (p0.B == 8) then
  (xp (zp p0.Imm) (zp p0.Imm)).bind fun a =>
  some a
 else
  (idx p1 p0.B).bind fun b =>
  some b
def zK (p0 : zd) : Option Bool :=
 some (!decide (p0.Hi < p0.Lo))
def qp (p0 : Int) (p1 : Int) (a : Nat) (again : (Int × Int) -> Option Int) (b : Int × Int) : Option Int :=
 again (bOr .u64 b.1 (zbO .u64 (xP .u64 (zp ((zp ((xP .u64 (qQ .u64 p0 (zp (a : Int))) 1) + (xP .u64 (qQ .u64 p1 (zp (a : Int))) 1))) + b.2)) 1) (zp (a : Int))), qQ .u64 (zp ((zp ((xP .u64 (qQ .u64 p0 (zp (a : Int))) 1) + (xP .u64 (qQ .u64 p1 (zp (a : Int))) 1))) + b.2)) 1)
def qs (p0 : Int) (p1 : Int) : Option Int :=
 (zQ (qp p0 p1) (fun (a : Int × Int) => a.1) 64 0 (0, 0)).bind fun b =>
 some b
def vg (p0 : Int) (p1 : Int) : Option Int :=
 (qs (zgg .u64 18446744073709551615 p1) 1).bind fun a =>
 (qs p0 a).bind fun b =>
 some b
def qy (p1 : Int) (b : Nat) (again : (Int × Int) -> Option Int) (a : Int × Int) : Option Int :=
 (if ((xP .u64 (qQ .u64 p1 (zp (b : Int))) 1) == 1) then
  (qs a.2 a.1).bind fun c =>
  some c
 else
  some a.2).bind fun d =>
 (qs a.1 a.1).bind fun e =>
 again (e, d)
def vY (p0 : Int) (p1 : Int) : Option Int :=
 (zQ (qy p1) (fun (a : Int × Int) => a.2) 64 0 (p0, 0)).bind fun b =>
 some b
def qz (p0 : Int) (p1 : Int) (again : (Int × Int × Int) -> Option (Int × Int)) (a : Int × Int × Int) : Option (Int × Int) :=
 if decide (a.2.2 >= 0) then
  (nn (zp a.2.2)).bind fun c =>
  if (((qQ .u64 a.2.1 63) == 1) || decide ((bOr .u64 (zbO .u64 a.2.1 1) (xP .u64 (qQ .u64 p0 (zp a.2.2)) 1)) >= p1)) then
   (vg (bOr .u64 (zbO .u64 a.2.1 1) (xP .u64 (qQ .u64 p0 (zp a.2.2)) 1)) p1).bind fun b =>
   (nn (zp a.2.2)).bind fun d =>
   again (bOr .u64 a.1 (zbO .u64 1 (zp a.2.2)), b, w64 (a.2.2 - 1))
  else
   again (a.1, bOr .u64 (zbO .u64 a.2.1 1) (xP .u64 (qQ .u64 p0 (zp a.2.2)) 1), w64 (a.2.2 - 1))
 else
  some (a.1, a.2.1)
def vZ (fu : Nat) (p0 : Int) (p1 : Int) : Option (Int × Int) :=
 (loop (qz p0 p1) fu (0, 0, 63)).bind fun a =>
 some (a.1, a.2)
def qv (p0 : Int) (p2 : Int) (again : (Int × Int) -> Option Int) (a : Int × Int) : Option Int :=
 if (decide (a.2 < p2) && decide (a.1 > 0)) then
  if (p0 == 9) then
   (qs a.1 a.1).bind fun b =>
   again (b, zp (a.2 + 1))
  else
   again (zp (a.1.tdiv 2), zp (a.2 + 1))
 else
  some a.1
def qa (fu : Nat) (p0 : Int) (p1 : Int) (p2 : Int) : Option (Int × Bool) :=
 if (p0 == 1) then
  (qs p1 p2).bind fun c =>
  some (c, true)
 else
  if (p0 == 2) then
   (vg p1 p2).bind fun d =>
   some (d, true)
  else
   if (p0 == 3) then
    (vY p1 p2).bind fun e =>
    some (e, true)
   else
    (if (p0 == 4) then
     some (p0 == 4)
    else
     some (p0 == 5)).bind fun f =>
    if f then
     (if decide (p2 > 0) then
      (vZ fu p1 p2).bind fun a =>
      some (a.1, a.2)
     else
      some (0, p1)).bind fun b =>
     if (p0 == 4) then
      some (b.1, true)
     else
      some (b.2, true)
    else
     if (p0 == 6) then
      some (zgg .u64 18446744073709551615 (bOr .u64 (zgg .u64 18446744073709551615 p1) (zgg .u64 18446744073709551615 p2)), true)
     else
      if (p0 == 7) then
       some (zgg .u64 18446744073709551615 (xP .u64 (zgg .u64 18446744073709551615 p1) (zgg .u64 18446744073709551615 p2)), true)
      else
       if (p0 == 8) then
        some (bOr .u64 (zeU .u64 p1 p2) (zeU .u64 p2 p1), true)
       else
        (if (p0 == 9) then
         some (p0 == 9)
        else
         some (p0 == 10)).bind fun g =>
        if g then
         (loop (qv p0 p2) fu (p1, 0)).bind fun h =>
         some (h, true)
        else
         some (0, false)
def zaa (p0 : Int) (p1 : Int) : Option Bool :=
 (if decide (p0 > 0) then
  (nz p0).bind fun b =>
  some (decide (p1 > (zp (Int.tdiv 18446744073709551615 p0))))
 else
  some false).bind fun a =>
 some a
def jL (p0 : Int) (again : Int -> Option Int) (a : Int) : Option Int :=
 if decide (a < p0) then
  again (zp ((zp (2 * a)) + 1))
 else
  some a
def xJ (fu : Nat) (p0 : Int) : Option Int :=
 (loop (jL p0) fu 0).bind fun a =>
 some a
def qF (p1 : Int) (again : (zd × Int) -> Option (zd ⊕ (zd × Bool))) (a : zd × Int) : Option (zd ⊕ (zd × Bool)) :=
 if (decide (a.2 < p1) && decide (a.1.Hi > 0)) then
  if decide (a.1.Hi > 9223372036854775807) then
   some (.inr ((zd.mk 0 0), false))
  else
   again ((zd.mk (zp (2 * a.1.Lo)) (zp (2 * a.1.Hi))), zp (a.2 + 1))
 else
  some (.inl a.1)
def xq (fu : Nat) (p0 : zd) (p1 : Int) : Option (zd × Bool) :=
 (loop (qF p1) fu (p0, 0)).bind fun a => match a with
  | .inl b =>
   some (b, true)
  | .inr r => some r
def jM (p1 : Int) (again : (Int × Int) -> Option Int) (a : Int × Int) : Option Int :=
 if (decide (a.2 < p1) && decide (a.1 > 0)) then
  again (zp (a.1.tdiv 2), zp (a.2 + 1))
 else
  some a.1
def vv (fu : Nat) (p0 : Int) (p1 : Int) : Option Int :=
 (loop (jM p1) fu (p0, 0)).bind fun a =>
 some a
def zbv (fu : Nat) (p0 : Int) (p1 : zd) (p2 : zd) : Option (zd × Bool) :=
 (if decide (p0 < 1) then
  some true
 else
  if decide (p0 > 10) then
   some true
  else
   (zK p1).bind fun c =>
   if (!c) then
    some true
   else
    (zK p2).bind fun d =>
    some (!d)).bind fun e =>
 if e then
  some ((zd.mk 0 0), false)
 else
  if ((p1.Lo == p1.Hi) && (p2.Lo == p2.Hi)) then
   (qa fu p0 p1.Lo p2.Lo).bind fun a =>
   some ((zd.mk a.1 a.1), true)
  else
   if (p0 == 1) then
    if decide (p1.Hi > (zp (18446744073709551615 - p2.Hi))) then
     some ((zd.mk 0 18446744073709551615), true)
    else
     some ((zd.mk (zp (p1.Lo + p2.Lo)) (zp (p1.Hi + p2.Hi))), true)
   else
    if (p0 == 2) then
     if decide (p1.Lo < p2.Hi) then
      some ((zd.mk 0 18446744073709551615), true)
     else
      some ((zd.mk (zp (p1.Lo - p2.Hi)) (zp (p1.Hi - p2.Lo))), true)
    else
     if (p0 == 3) then
      (zaa p1.Hi p2.Hi).bind fun f =>
      if f then
       some ((zd.mk 0 18446744073709551615), true)
      else
       some ((zd.mk (zp (p1.Lo * p2.Lo)) (zp (p1.Hi * p2.Hi))), true)
     else
      if (p0 == 4) then
       if (p2.Lo == 0) then
        some ((zd.mk 0 p1.Hi), true)
       else
        (nz p2.Hi).bind fun n =>
        (nz p2.Lo).bind fun q =>
        some ((zd.mk (zp (p1.Lo.tdiv p2.Hi)) (zp (p1.Hi.tdiv p2.Lo))), true)
      else
       if (p0 == 5) then
        if (p2.Lo == 0) then
         some ((zd.mk 0 p1.Hi), true)
        else
         if decide (p1.Hi < p2.Lo) then
          some (p1, true)
         else
          some ((zd.mk 0 (vH p1.Hi (zp (p2.Hi - 1)))), true)
       else
        if (p0 == 6) then
         some ((zd.mk 0 (vH p1.Hi p2.Hi)), true)
        else
         if (p0 == 7) then
          (xJ fu (zay p1.Hi p2.Hi)).bind fun g =>
          some ((zd.mk (zay p1.Lo p2.Lo) g), true)
         else
          if (p0 == 8) then
           (xJ fu (zay p1.Hi p2.Hi)).bind fun h =>
           some ((zd.mk 0 h), true)
          else
           if (p0 == 9) then
            if (p2.Lo != p2.Hi) then
             some ((zd.mk 0 18446744073709551615), true)
            else
             (xq fu p1 p2.Lo).bind fun b =>
             if (!b.2) then
              some ((zd.mk 0 18446744073709551615), true)
             else
              some (b.1, true)
           else
            (vv fu p1.Lo p2.Hi).bind fun j =>
            (vv fu p1.Hi p2.Lo).bind fun l =>
            some ((zd.mk j l), true)
def zaB  : Option za :=
 (xp 0 18446744073709551615).bind fun a =>
 some a
def qX (p0 : Int) : Option za :=
 some (za.mk 1 (zd.mk 0 p0) 0)
def za1 (p0 : Int) : Option (za × Bool) :=
 (if (p0 == 0) then
  some (p0 == 0)
 else
  if (p0 == 4) then
   some (p0 == 4)
  else
   some (p0 == 5)).bind fun a =>
 if a then
  (qX 18446744073709551615).bind fun b =>
  some (b, true)
 else
  (if (p0 == 1) then
   some (p0 == 1)
  else
   if (p0 == 2) then
    some (p0 == 2)
   else
    some (p0 == 3)).bind fun c =>
  if c then
   (qX 1).bind fun d =>
   some (d, true)
  else
   if (p0 == 6) then
    (qX 0).bind fun e =>
    some (e, true)
   else
    some ((za.mk 0 (zd.mk 0 0) 0), false)
def xr (p0 : zd) (p1 : Int) : Option Bool :=
 ((zK p0).bind fun a =>
 if a then
  if decide (p1 >= p0.Lo) then
   some (decide (p1 <= p0.Hi))
  else
   some false
 else
  some false).bind fun b =>
 some b
def vB (p0 : Int) (p1 : zd) (p2 : zd) (p3 : Bool) : Option (zd × Bool) :=
 (if decide (p0 < 16) then
  some true
 else
  if decide (p0 > 19) then
   some true
  else
   (zK p1).bind fun a =>
   if (!a) then
    some true
   else
    (zK p2).bind fun b =>
    some (!b)).bind fun c =>
 if c then
  some ((zd.mk 0 0), false)
 else
  if (p2.Lo != p2.Hi) then
   some (p1, true)
  else
   if (((p0 == 18) && p3) || ((p0 == 19) && (!p3))) then
    if decide (p1.Lo >= p2.Lo) then
     some ((zd.mk 0 0), false)
    else
     some ((zd.mk p1.Lo (vH p1.Hi (zp (p2.Lo - 1)))), true)
   else
    if decide (p0 >= 18) then
     if decide (p1.Hi < p2.Lo) then
      some ((zd.mk 0 0), false)
     else
      some ((zd.mk (zay p1.Lo p2.Lo) p1.Hi), true)
    else
     if (((p0 == 16) && p3) || ((p0 == 17) && (!p3))) then
      (xr p1 p2.Lo).bind fun d =>
      if (!d) then
       some ((zd.mk 0 0), false)
      else
       some (p2, true)
     else
      if ((p1.Lo == p2.Lo) && (p1.Hi == p2.Lo)) then
       some ((zd.mk 0 0), false)
      else
       if (p1.Lo == p2.Lo) then
        some ((zd.mk (zp (p2.Lo + 1)) p1.Hi), true)
       else
        if (p1.Hi == p2.Lo) then
         some ((zd.mk p1.Lo (zp (p2.Lo - 1))), true)
        else
         some (p1, true)
def qD (fu : Nat) (p0 : zi) (p1 : Int) (p2 : List za) (p3 : Bool) : Option ((List za) × Bool) :=
 (idx p0.Co p1).bind fun a =>
 (room (([] : List za).length + p2.length) 32).bind fun E =>
 if (a.Op == 0) then
  (qW a p2).bind fun e =>
  (idx (([] : List za) ++ p2) a.D).bind fun F =>
  some (((([] : List za) ++ p2).set (Int.toNat a.D) e), true)
 else
  (zY a.Op).bind fun f =>
  if f then
   ((idx p2 a.A).bind fun g =>
   (qW a p2).bind fun h =>
   (zbv fu a.Op g.Sp h.Sp).bind fun j =>
   some j.1).bind fun c =>
   (xp c.Lo c.Hi).bind fun l =>
   (idx (([] : List za) ++ p2) a.D).bind fun G =>
   some (((([] : List za) ++ p2).set (Int.toNat a.D) l), true)
  else
   if ((a.Op == 11) || (a.Op == 13)) then
    zaB.bind fun n =>
    (idx (([] : List za) ++ p2) a.D).bind fun H =>
    some (((([] : List za) ++ p2).set (Int.toNat a.D) n), true)
   else
    if (a.Op == 14) then
     (idx (([] : List za) ++ p2) a.D).bind fun I =>
     some (((([] : List za) ++ p2).set (Int.toNat a.D) (za.mk 2 (zd.mk 0 0) a.Imm)), true)
    else
     if (a.Op == 21) then
      (za1 a.Imm).bind fun q =>
      (idx (([] : List za) ++ p2) 0).bind fun J =>
      some (((([] : List za) ++ p2).set (Int.toNat 0) q.1), true)
     else
      (jD a.Op).bind fun v =>
      if v then
       ((idx p2 a.A).bind fun z =>
       (qW a p2).bind fun B =>
       (vB a.Op z.Sp B.Sp p3).bind fun d =>
       some (d.1, d.2)).bind fun b =>
       if (!b.2) then
        some (([] : List za), false)
       else
        (xp b.1.Lo b.1.Hi).bind fun C =>
        (idx (([] : List za) ++ p2) a.A).bind fun K =>
        some (((([] : List za) ++ p2).set (Int.toNat a.A) C), true)
      else
       some ((([] : List za) ++ p2), true)
def qA (fu : Nat) (p0 : zi) (p1 : Int) (p2 : List (List za)) (again : ((List (List za)) × Int) -> Option (List (List za))) (a : (List (List za)) × Int) : Option (List (List za)) :=
 if decide (a.2 < p1) then
  (idx p2 a.2).bind fun c =>
  if (((c).length : Int) == 0) then
   again (a.1, w64 (a.2 + 1))
  else
   (idx p0.Co a.2).bind fun g =>
   (xe g).bind fun d =>
   (if (d.2.1 && ((w64 (a.2 + d.1)) == p1)) then
    (qD fu p0 a.2 c true).bind fun e =>
    if e.2 then
     (room (a.1.length + ([e.1]).length) 24).bind fun h =>
     some (a.1 ++ [e.1])
    else
     some a.1
   else
    some a.1).bind fun b =>
   if (d.2.2 && ((w64 (a.2 + 1)) == p1)) then
    (qD fu p0 a.2 c false).bind fun f =>
    if f.2 then
     (room (b.length + ([f.1]).length) 24).bind fun j =>
     again ((b ++ [f.1]), w64 (a.2 + 1))
    else
     again (b, w64 (a.2 + 1))
   else
    again (b, w64 (a.2 + 1))
 else
  some a.1
def zab (fu : Nat) (p0 : zi) (p1 : Int) (p2 : List (List za)) : Option (List (List za)) :=
 (if (p1 == 0) then
  (mkLen 8 32).bind fun a =>
  (room (([] : List (List za)).length + ([(List.replicate a (za.mk 0 (zd.mk 0 0) 0))]).length) 24).bind fun d =>
  some (([] : List (List za)) ++ [(List.replicate a (za.mk 0 (zd.mk 0 0) 0))])
 else
  some ([] : List (List za))).bind fun b =>
 (loop (qA fu p0 p1 p2) fu (b, 0)).bind fun c =>
 some c
def zM (p0 : List zd) (c : Nat) (again : zd -> Option (zd ⊕ (zd × Bool))) (b : zd) : Option (zd ⊕ (zd × Bool)) :=
 (idx p0 (c : Int)).bind fun a =>
 (zK a).bind fun e =>
 if (!e) then
  some (.inr ((zd.mk 0 0), false))
 else
  (if ((c : Int) == 0) then
   some true
  else
   some (decide (a.Lo < b.Lo))).bind fun f =>
  (if f then
   some a.Lo
  else
   some b.Lo).bind fun d =>
  (if ((c : Int) == 0) then
   some true
  else
   some (decide (a.Hi > b.Hi))).bind fun g =>
  if g then
   again (zd.mk d a.Hi)
  else
   again (zd.mk d b.Hi)
def zaC (p0 : List zd) : Option (zd × Bool) :=
 (zQ (zM p0) (fun (a : zd) => (.inl a)) (p0).length 0 (zd.mk 0 0)).bind fun b => match b with
  | .inl c =>
   some (c, decide (((p0).length : Int) > 0))
  | .inr r => some r
def qq (p0 : List za) (b : Nat) (again : (List zd) -> Option ((List zd) ⊕ za)) (c : (List zd)) : Option ((List zd) ⊕ za) :=
 ((idx p0 (b : Int)).bind fun a =>
 (idx p0 0).bind fun d =>
 if (a.Ki != d.Ki) then
  some true
 else
  if (a.Ki == 2) then
   some (a.Map != d.Map)
  else
   some false).bind fun f =>
 if f then
  some (.inr (za.mk 0 (zd.mk 0 0) 0))
 else
  (idx p0 (b : Int)).bind fun e =>
  (room (c.length + ([e.Sp]).length) 16).bind fun g =>
  again (c ++ [e.Sp])
def vC (p0 : List za) : Option za :=
 (zQ (qq p0) (fun (c : (List zd)) => (.inl c)) (p0).length 0 ([] : List zd)).bind fun d => match d with
  | .inl e =>
   (idx p0 0).bind fun a =>
   if (a.Ki == 1) then
    (zaC e).bind fun b =>
    (xp b.1.Lo b.1.Hi).bind fun f =>
    some f
   else
    some a
  | .inr r => some r
def vD (p0 : zc) : Option (Int × Bool) :=
 (jK p0).bind fun a =>
 if (!a) then
  some (0, false)
 else
  if ((decide (p0.Op <= 11) || (p0.Op == 13)) || (p0.Op == 14)) then
   some (p0.D, true)
  else
   some (0, (p0.Op == 21))
def jN (c : (List (List za))) (d : Nat) (e : Nat) (again : (List za) -> Option (List za)) (a : (List za)) : Option (List za) :=
 (idx c (e : Int)).bind fun f =>
 (idx f (d : Int)).bind fun b =>
 (room (a.length + ([b]).length) 32).bind fun g =>
 again (a ++ [b])
def jO (b : (List (List za))) (a : Nat) (again : (List za) -> Option (List za)) (c : (List za)) : Option (List za) :=
 (zQ (jN b a) (fun (d : (List za)) => d) (b).length 0 ([] : List za)).bind fun e =>
 (vC e).bind fun f =>
 (idx c (a : Int)).bind fun g =>
 again (c.set (Int.toNat (a : Int)) f)
def vh (p0 : zi) (d : Nat) (again : ((List za) × Int) -> Option (List za)) (a : (List za) × Int) : Option (List za) :=
 if decide (a.2 <= (d : Int)) then
  (idx p0.Co a.2).bind fun e =>
  (vD e).bind fun b =>
  (if b.2 then
   (idx a.1 b.1).bind fun f =>
   some (f.Ki == 1)
  else
   some false).bind fun g =>
  (if g then
   zaB.bind fun h =>
   (idx a.1 b.1).bind fun n =>
   some (a.1.set (Int.toNat b.1) h)
  else
   some a.1).bind fun c =>
  (if b.2 then
   (idx c b.1).bind fun j =>
   some (j.Ki == 2)
  else
   some false).bind fun l =>
  if l then
   (idx c b.1).bind fun q =>
   again ((c.set (Int.toNat b.1) (za.mk 0 (zd.mk 0 0) 0)), w64 (a.2 + 1))
  else
   again (c, w64 (a.2 + 1))
 else
  some a.1
def jP (fu : Nat) (p0 : zi) (p1 : Int) (a : Nat) (again : (List za) -> Option (List za)) (b : (List za)) : Option (List za) :=
 ((idx p0.Co (a : Int)).bind fun c =>
 if (c.Op != 20) then
  some true
 else
  some ((w64 ((a : Int) - c.D)) != p1)).bind fun d =>
 if d then
  again b
 else
  (loop (vh p0 a) fu (b, p1)).bind fun e =>
  again e
def zbw (fu : Nat) (p0 : zi) (p1 : Int) (p2 : List (List za)) : Option (List za) :=
 (zab fu p0 p1 p2).bind fun a =>
 if (((a).length : Int) == 0) then
  some ([] : List za)
 else
  (mkLen 8 32).bind fun b =>
  (zQ (jO a) (fun (c : (List za)) => c) 8 0 (List.replicate b (za.mk 0 (zd.mk 0 0) 0))).bind fun d =>
  (zQ (jP fu p0 p1) (fun (e : (List za)) => e) (p0.Co).length 0 d).bind fun f =>
  some f
def vE (p0 : zc) : Option Bool :=
 ((jK p0).bind fun a =>
 if a then
  if decide (p0.Op <= 12) then
   some true
  else
   (jD p0.Op).bind fun b =>
   some b
 else
  some false).bind fun c =>
 some c
def zaD (p0 : Int) : Option (List za) :=
 (if (p0 == 0) then
  some (p0 == 0)
 else
  if (p0 == 1) then
   some (p0 == 1)
  else
   some (p0 == 3)).bind fun a =>
 if a then
  (qX 18446744073709551615).bind fun b =>
  some ([(za.mk 2 (zd.mk 0 0) 0), b])
 else
  (if (p0 == 2) then
   some (p0 == 2)
  else
   some (p0 == 4)).bind fun c =>
  if c then
   (qX 18446744073709551615).bind fun d =>
   (qX 18446744073709551615).bind fun e =>
   some ([(za.mk 2 (zd.mk 0 0) 0), d, e])
  else
   if (p0 == 5) then
    (qX 15).bind fun f =>
    some ([f])
   else
    if (p0 == 6) then
     (qX 18446744073709551615).bind fun g =>
     some ([g])
    else
     some ([] : List za)
def xM (p0 : zd) (p1 : zd) : Option Bool :=
 ((zK p0).bind fun a =>
 if a then
  (zK p1).bind fun b =>
  if b then
   (xr p1 p0.Lo).bind fun c =>
   if c then
    (xr p1 p0.Hi).bind fun d =>
    some d
   else
    some false
  else
   some false
 else
  some false).bind fun e =>
 some e
def va (p1 : List za) (d : (List za)) (b : Nat) (again : Unit -> Option (Unit ⊕ Int)) (g : Unit) : Option (Unit ⊕ Int) :=
 (idx p1 (b : Int)).bind fun c =>
 (idx d (b : Int)).bind fun a =>
 if (c.Ki != a.Ki) then
  some (.inr 33)
 else
  (if (a.Ki == 1) then
   (xM c.Sp a.Sp).bind fun e =>
   some (!e)
  else
   some false).bind fun f =>
  if f then
   some (.inr 35)
  else
   again ()
def zac (p0 : Int) (p1 : List za) : Option Int :=
 if (decide (p0 < 0) || decide (p0 > 6)) then
  some 34
 else
  (zaD p0).bind fun a =>
  if (((a).length : Int) != ((p1).length : Int)) then
   some 2
  else
   (zQ (va p1 a) (fun (c : Unit) => (.inl ())) (a).length 0 ()).bind fun b => match b with
    | .inl d =>
     some 0
    | .inr r => some r
def zaE (p0 : za) (p1 : za) : Option Bool :=
 if (p1.Ki == 0) then
  some true
 else
  if (p0.Ki != p1.Ki) then
   some false
  else
   if (p1.Ki == 1) then
    (xM p0.Sp p1.Sp).bind fun a =>
    some a
   else
    some (p0.Map == p1.Map)
def qK (p2 : List za) (p3 : List za) (a : Nat) (again : Unit -> Option (Unit ⊕ Int)) (e : Unit) : Option (Unit ⊕ Int) :=
 (idx p2 (a : Int)).bind fun b =>
 (idx p3 (a : Int)).bind fun c =>
 (zaE b c).bind fun d =>
 if (!d) then
  some (.inr 33)
 else
  again ()
def xK (p0 : zi) (p1 : Int) (p2 : List za) (p3 : List za) : Option Int :=
 (idx p0.Co p1).bind fun a =>
 (vE a).bind fun c =>
 (if c then
  (qW a p2).bind fun d =>
  some d
 else
  some (za.mk 0 (zd.mk 0 0) 0)).bind fun b =>
 ((if (a.Op == 0) then
  if (b.Ki == 0) then
   some (.inr 33)
  else
   some (.inl ())
 else
  if ((a.Op == 13) || (a.Op == 15)) then
   some (.inl ())
  else
   if (a.Op == 14) then
    if decide (a.Imm >= ((p0.Ms).length : Int)) then
     some (.inr 35)
    else
     some (.inl ())
   else
    if (a.Op == 21) then
     (zaD a.Imm).bind fun e =>
     (cut p2 1 (w64 (1 + ((e).length : Int)))).bind fun f =>
     (zac a.Imm f).bind fun g =>
     some (.inr g)
    else
     if (a.Op == 11) then
      if (b.Ki != 1) then
       some (.inr 33)
      else
       some (.inl ())
     else
      if ((a.Op == 20) || (a.Op == 22)) then
       (idx p2 a.A).bind fun h =>
       if (h.Ki != 1) then
        some (.inr 33)
       else
        some (.inl ())
      else
       ((idx p2 a.A).bind fun j =>
       if (j.Ki != 1) then
        some true
       else
        some (b.Ki != 1)).bind fun l =>
       if l then
        some (.inr 33)
       else
        some (.inl ())) : Option (Unit ⊕ Int)).bind fun n => match n with
  | .inl v =>
   if (((a.Op == 11) || (a.Op == 12)) && decide (b.Sp.Hi > 15)) then
    some 35
   else
    if (a.Op == 20) then
     (zQ (qK p2 p3) (fun (z : Unit) => (.inl ())) 8 0 ()).bind fun q => match q with
      | .inl B =>
       some 0
      | .inr r => some r
    else
     some 0
  | .inr r => some r
def qm (fu : Nat) (p0 : zi) (b : Nat) (again : (List (List za)) -> Option ((List (List za)) ⊕ ((List (List za)) × Int × Int))) (c : (List (List za))) : Option ((List (List za)) ⊕ ((List (List za)) × Int × Int)) :=
 (zbw fu p0 (b : Int) c).bind fun a =>
 (room (c.length + ([a]).length) 24).bind fun h =>
 if (((a).length : Int) == 0) then
  again (c ++ [a])
 else
  (idx p0.Co (b : Int)).bind fun d =>
  if (d.Op == 20) then
   (idx (c ++ [a]) (w64 ((b : Int) - d.D))).bind fun g =>
   (apart (w64 ((b : Int) - d.D)) (c.length : Int)).bind fun j =>
   (xK p0 (b : Int) a g).bind fun e =>
   if (e != 0) then
    some (.inr (([] : List (List za)), (b : Int), e))
   else
    again (c ++ [a])
  else
   (xK p0 (b : Int) a a).bind fun f =>
   if (f != 0) then
    some (.inr (([] : List (List za)), (b : Int), f))
   else
    again (c ++ [a])
def vO (fu : Nat) (p0 : zi) : Option ((List (List za)) × Int × Int) :=
 (vu fu p0.Ms).bind fun b =>
 if (!b) then
  some (([] : List (List za)), 0, 2)
 else
  (vX fu p0.Co).bind fun a =>
  if (a.2 != 0) then
   some (([] : List (List za)), a.1, a.2)
  else
   (zQ (qm fu p0) (fun (c : (List (List za))) => (.inl c)) (p0.Co).length 0 ([] : List (List za))).bind fun d => match d with
    | .inl e =>
     some (e, 0, 0)
    | .inr r => some r
def xN (p0 : zk) : Option zk :=
 (room (p0.Ak.length + ([(zl.mk 2 0 0)]).length) 24).bind fun a =>
 some (zk.mk (p0.Ak ++ [(zl.mk 2 0 0)]))
def vi (fu : Nat) (p0 : zi) (p1 : xL) (p2 : zk) : Option ((Option zf) × Int) :=
 (vO fu p0).bind fun a =>
 if (a.2.2 != 0) then
  some (none, a.2.2)
 else
  (xN p2).bind fun b =>
  ((mkLen 8 8).bind fun c =>
  (mkLen 64 8).bind fun d =>
  some (zf.mk p0 p1 b (List.replicate c 0) (List.replicate d 0) 0 0 0)).bind fun e =>
  some ((some e), 0)
def zB (p0 : zk) (p1 : Int) (again : (Int × Int) -> Option Int) (a : Int × Int) : Option Int :=
 if decide (a.2 < ((p0.Ak).length : Int)) then
  ((idx p0.Ak a.2).bind fun b =>
  if (b.Ki == 3) then
   some (b.At == p1)
  else
   some false).bind fun c =>
  if c then
   (idx p0.Ak a.2).bind fun d =>
   again (zp (a.1 + d.N), w64 (a.2 + 1))
  else
   again (a.1, w64 (a.2 + 1))
 else
  some a.1
def xB (fu : Nat) (p0 : zk) (p1 : Int) : Option (Int × Int) :=
 if (decide (p1 < 0) || decide (p1 > 15)) then
  some (0, 35)
 else
  (loop (zB p0 p1) fu (0, 0)).bind fun a =>
  some (a, 0)
def jW (fu : Nat) (p0 : zk) (p1 : Int) : Option (Int × Int × zk) :=
 if (decide (p1 < 0) || decide (p1 > 15)) then
  some (0, 35, p0)
 else
  (room (p0.Ak.length + ([(zl.mk 3 p1 1)]).length) 24).bind fun b =>
  (xB fu (zk.mk (p0.Ak ++ [(zl.mk 3 p1 1)])) p1).bind fun a =>
  some (a.1, a.2, (zk.mk (p0.Ak ++ [(zl.mk 3 p1 1)])))
def zP (p0 : zf) : Option zf :=
 some (zf.mk p0.M p0.E p0.S p0.Rg p0.Tu (w64 (p0.At + 1)) p0.Steps p0.Mode)
def vx (fu : Nat) (p0 : zf) (p1 : zc) (p2 : zA) : Option (zA × zf) :=
 if decide (p1.Imm <= 4) then
  (idx p0.Rg 1).bind fun b =>
  (idx p0.M.Ms b).bind fun c =>
  (idx p0.Rg 2).bind fun d =>
  (if ((p1.Imm == 2) || (p1.Imm == 4)) then
   (idx p0.Rg 3).bind fun e =>
   some e
  else
   some 0).bind fun f =>
  some ((zA.mk 2 p2.Pc (xV.mk c p1.Imm d f) p2.Val), (zf.mk p0.M p0.E p0.S p0.Rg p0.Tu p0.At p0.Steps 1))
 else
  if (p1.Imm == 5) then
   (idx p0.Rg 1).bind fun g =>
   (jW fu p0.S (w64 g)).bind fun a =>
   (idx p0.Rg 0).bind fun n =>
   (zP (zf.mk p0.M p0.E a.2.2 (p0.Rg.set (Int.toNat 0) a.1) p0.Tu p0.At p0.Steps p0.Mode)).bind fun h =>
   some ((zA.mk p2.Ki p2.Pc p2.It a.1), h)
  else
   (idx p0.Rg 1).bind fun j =>
   (idx p0.Rg 0).bind fun q =>
   (zP (zf.mk p0.M p0.E p0.S (p0.Rg.set (Int.toNat 0) 0) p0.Tu p0.At p0.Steps p0.Mode)).bind fun l =>
   some ((zA.mk 3 p2.Pc p2.It j), l)
def zN (p0 : zf) (p1 : zc) : Option Int :=
 if (p1.B == 8) then
  some (zp p1.Imm)
 else
  (idx p0.Rg p1.B).bind fun a =>
  some a
def zad (p0 : Int) (p1 : Int) (p2 : Int) : Option (Bool × Bool) :=
 if (p0 == 16) then
  some ((p1 == p2), true)
 else
  if (p0 == 17) then
   some ((!(p1 == p2)), true)
  else
   if (p0 == 18) then
    some (decide (p1 < p2), true)
   else
    if (p0 == 19) then
     some ((!decide (p1 < p2)), true)
    else
     some (false, false)
def xC (p0 : zf) (p1 : zc) : Option (Bool × zf) :=
 if (p1.Op == 15) then
  some (true, p0)
 else
  if (p1.Op == 20) then
   ((idx p0.Rg p1.A).bind fun a =>
   if decide (a > 0) then
    (idx p0.Tu p0.At).bind fun b =>
    some (decide (b < p1.Imm))
   else
    some false).bind fun c =>
   if c then
    (idx p0.Tu p0.At).bind fun d =>
    some (true, (zf.mk p0.M p0.E p0.S p0.Rg (p0.Tu.set (Int.toNat p0.At) (w64 (d + 1))) p0.At p0.Steps p0.Mode))
   else
    (idx p0.Tu p0.At).bind fun h =>
    some (false, (zf.mk p0.M p0.E p0.S p0.Rg (p0.Tu.set (Int.toNat p0.At) 0) p0.At p0.Steps p0.Mode))
  else
   (idx p0.Rg p1.A).bind fun e =>
   (zN p0 p1).bind fun f =>
   (zad p1.Op e f).bind fun g =>
   some (g.1, p0)
def zG (p0 : zk) (p1 : Int) (again : Int -> Option (Unit ⊕ (Int × Int))) (b : Int) : Option (Unit ⊕ (Int × Int)) :=
 if decide (b >= 0) then
  (idx p0.Ak b).bind fun a =>
  if (a.Ki == 2) then
   some (.inr (0, 0))
  else
   (if (a.Ki == 1) then
    some (a.At == p1)
   else
    some false).bind fun c =>
   if c then
    some (.inr (a.N, 0))
   else
    again (w64 (b - 1))
 else
  some (.inl ())
def qO (fu : Nat) (p0 : zk) (p1 : Int) : Option (Int × Int) :=
 if (decide (p1 < 0) || decide (p1 > 15)) then
  some (0, 35)
 else
  (loop (zG p0 p1) fu (w64 (((p0.Ak).length : Int) - 1))).bind fun a => match a with
   | .inl b =>
    some (0, 0)
   | .inr r => some r
def jG (p0 : zk) (p1 : Int) (p2 : Int) : Option (Int × zk) :=
 if (decide (p1 < 0) || decide (p1 > 15)) then
  some (35, p0)
 else
  (room (p0.Ak.length + ([(zl.mk 1 p1 p2)]).length) 24).bind fun a =>
  some (0, (zk.mk (p0.Ak ++ [(zl.mk 1 p1 p2)])))
def xD (fu : Nat) (p0 : zf) (p1 : zc) : Option zf :=
 if (p1.Op == 0) then
  (zN p0 p1).bind fun a =>
  (idx p0.Rg p1.D).bind fun n =>
  some (zf.mk p0.M p0.E p0.S (p0.Rg.set (Int.toNat p1.D) a) p0.Tu p0.At p0.Steps p0.Mode)
 else
  (zY p1.Op).bind fun b =>
  if b then
   (idx p0.Rg p1.A).bind fun c =>
   (zN p0 p1).bind fun d =>
   (qa fu p1.Op c d).bind fun e =>
   (idx p0.Rg p1.D).bind fun q =>
   some (zf.mk p0.M p0.E p0.S (p0.Rg.set (Int.toNat p1.D) e.1) p0.Tu p0.At p0.Steps p0.Mode)
  else
   if (p1.Op == 11) then
    (zN p0 p1).bind fun f =>
    (qO fu p0.S (w64 f)).bind fun g =>
    (idx p0.Rg p1.D).bind fun v =>
    some (zf.mk p0.M p0.E p0.S (p0.Rg.set (Int.toNat p1.D) g.1) p0.Tu p0.At p0.Steps p0.Mode)
   else
    if (p1.Op == 12) then
     (idx p0.Rg p1.A).bind fun h =>
     (zN p0 p1).bind fun j =>
     (jG p0.S (w64 j) h).bind fun l =>
     some (zf.mk p0.M p0.E l.2 p0.Rg p0.Tu p0.At p0.Steps p0.Mode)
    else
     if ((p1.Op == 13) && (p1.Imm == 0)) then
      (idx p0.Rg p1.D).bind fun z =>
      some (zf.mk p0.M p0.E p0.S (p0.Rg.set (Int.toNat p1.D) p0.E.A) p0.Tu p0.At p0.Steps p0.Mode)
     else
      if (p1.Op == 13) then
       (idx p0.Rg p1.D).bind fun C =>
       some (zf.mk p0.M p0.E p0.S (p0.Rg.set (Int.toNat p1.D) p0.E.B) p0.Tu p0.At p0.Steps p0.Mode)
      else
       if (p1.Op == 14) then
        (idx p0.Rg p1.D).bind fun F =>
        some (zf.mk p0.M p0.E p0.S (p0.Rg.set (Int.toNat p1.D) (zp p1.Imm)) p0.Tu p0.At p0.Steps p0.Mode)
       else
        some p0
def xE (fu : Nat) (p0 : zf) : Option (zA × zf) :=
 (idx p0.M.Co p0.At).bind fun b =>
 if (p0.Mode == 1) then
  some ((zA.mk 5 p0.At (xV.mk 0 0 0 0) 0), p0)
 else
  if (p0.Mode == 2) then
   (idx p0.Rg b.A).bind fun f =>
   some ((zA.mk 6 p0.At (xV.mk 0 0 0 0) f), p0)
  else
   if (b.Op == 21) then
    (vx fu (zf.mk p0.M p0.E p0.S p0.Rg p0.Tu p0.At (w64 (p0.Steps + 1)) p0.Mode) b (zA.mk 1 p0.At (xV.mk 0 0 0 0) 0)).bind fun d =>
    some (d.1, d.2)
   else
    if (b.Op == 22) then
     (idx p0.Rg b.A).bind fun g =>
     some ((zA.mk 4 p0.At (xV.mk 0 0 0 0) g), (zf.mk p0.M p0.E p0.S p0.Rg p0.Tu p0.At (w64 (p0.Steps + 1)) 2))
    else
     (xe b).bind fun c =>
     (if c.2.1 then
      (xC (zf.mk p0.M p0.E p0.S p0.Rg p0.Tu p0.At (w64 (p0.Steps + 1)) p0.Mode) b).bind fun e =>
      some (e.2, e.1)
     else
      some ((zf.mk p0.M p0.E p0.S p0.Rg p0.Tu p0.At (w64 (p0.Steps + 1)) p0.Mode), false)).bind fun a =>
     if a.2 then
      some ((zA.mk 1 p0.At (xV.mk 0 0 0 0) 0), (zf.mk a.1.M a.1.E a.1.S a.1.Rg a.1.Tu (w64 (a.1.At + c.1)) a.1.Steps a.1.Mode))
     else
      if (!c.2.1) then
       (xD fu a.1 b).bind fun h =>
       (zP h).bind fun j =>
       some ((zA.mk 1 p0.At (xV.mk 0 0 0 0) 0), j)
      else
       (zP a.1).bind fun l =>
       some ((zA.mk 1 p0.At (xV.mk 0 0 0 0) 0), l)
def zaf (p0 : Int) (p1 : zE) : Option Int :=
 if ((p0 == 0) || (p0 == 4)) then
  some p1.Val
 else
  if ((((p0 == 1) || (p0 == 3)) && p1.Found) || ((p0 == 2) && (p1.E == 0))) then
   some 1
  else
   some 0
def xb (p0 : zf) (p1 : zE) : Option (Int × zf) :=
 if (p0.Mode != 1) then
  some (2, p0)
 else
  (idx p0.M.Co p0.At).bind fun a =>
  (zaf a.Imm p1).bind fun b =>
  (idx p0.Rg 0).bind fun d =>
  (zP (zf.mk p0.M p0.E p0.S (p0.Rg.set (Int.toNat 0) b) p0.Tu p0.At p0.Steps 0)).bind fun c =>
  some (0, c)
def zo (fu : Nat) (p2 : List zE) (again : (zf × (List zA) × Int) -> Option (List zA)) (a : zf × (List zA) × Int) : Option (List zA) :=
 if (a.1.Mode != 2) then
  (xE fu a.1).bind fun b =>
  (room (a.2.1.length + ([b.1]).length) 56).bind fun e =>
  if (b.2.Mode == 1) then
   if decide (a.2.2 >= ((p2).length : Int)) then
    some (a.2.1 ++ [b.1])
   else
    (idx p2 a.2.2).bind fun c =>
    (xb b.2 c).bind fun d =>
    again (d.2, (a.2.1 ++ [b.1]), w64 (a.2.2 + 1))
  else
   again (b.2, (a.2.1 ++ [b.1]), a.2.2)
 else
  some a.2.1
def zbR (again : Unit -> Option ((List zA) × Int)) (a : Unit) : Option ((List zA) × Int) :=
 none
def zag (fu : Nat) (p0 : zi) (p1 : xL) (p2 : List zE) : Option ((List zA) × Int) :=
 (vi fu p0 p1 (zk.mk ([] : List zl))).bind fun a =>
 zlN a.1
  (if (a.2 != 0) then
   some (([] : List zA), a.2)
  else
   loop zbR fu ())
  (fun b =>
  if (a.2 != 0) then
   some (([] : List zA), a.2)
  else
   (loop (zo fu p2) fu (b, ([] : List zA), 0)).bind fun c =>
   some (c, 0))
def zaq (p0 : List zA) (p1 : List zA) (c : Nat) (again : Unit -> Option (Unit ⊕ Bool)) (d : Unit) : Option (Unit ⊕ Bool) :=
 (idx p0 (c : Int)).bind fun a =>
 (idx p1 (c : Int)).bind fun b =>
 if (!((a.Ki == b.Ki) && ((a.Pc == b.Pc) && (((a.It.Map == b.It.Map) && ((a.It.Op == b.It.Op) && ((a.It.Key == b.It.Key) && ((a.It.Val == b.It.Val) && true)))) && ((a.Val == b.Val) && true))))) then
  some (.inr false)
 else
  again ()
def zah (p0 : List zA) (p1 : List zA) : Option Bool :=
 if (((p0).length : Int) != ((p1).length : Int)) then
  some false
 else
  (zQ (zaq p0 p1) (fun (b : Unit) => (.inl ())) (p0).length 0 ()).bind fun a => match a with
   | .inl c =>
    some true
   | .inr r => some r
def xt (p0 : qG) (b : zi) (a : Nat) (again : Unit -> Option (Unit ⊕ Bool)) (e : Unit) : Option (Unit ⊕ Bool) :=
 (idx b.Ms (a : Int)).bind fun c =>
 (idx p0.M.Ms (a : Int)).bind fun d =>
 if (c != d) then
  some (.inr false)
 else
  again ()
def xu (p0 : qG) (d : zi) (c : Nat) (again : Unit -> Option (Unit ⊕ Bool)) (e : Unit) : Option (Unit ⊕ Bool) :=
 (idx d.Co (c : Int)).bind fun a =>
 (idx p0.M.Co (c : Int)).bind fun b =>
 if (!((a.Op == b.Op) && ((a.D == b.D) && ((a.A == b.A) && ((a.B == b.B) && ((a.Imm == b.Imm) && true)))))) then
  some (.inr false)
 else
  again ()
def xv (p0 : qG) (c : Nat) (again : Unit -> Option (Unit ⊕ Bool)) (d : Unit) : Option (Unit ⊕ Bool) :=
 (idx (([] : List zE) ++ p0.Res) (c : Int)).bind fun a =>
 (idx p0.Res (c : Int)).bind fun b =>
 if (!((a.E == b.E) && ((a.Found == b.Found) && ((a.Val == b.Val) && ((a.Out == b.Out) && ((a.OutKey == b.OutKey) && ((a.OutVal == b.OutVal) && true))))))) then
  some (.inr false)
 else
  again ()
def xc (fu : Nat) (p0 : qG) : Option Bool :=
 (zbj fu).bind fun d =>
 if (!d) then
  some false
 else
  (vz p0.M).bind fun a =>
  (room (([] : List zE).length + p0.Res.length) 48).bind fun l =>
  (zbK fu a p0.E (([] : List zE) ++ p0.Res)).bind fun b =>
  (zag fu p0.M p0.E p0.Res).bind fun c =>
  ((zah b.1 c.1).bind fun e =>
  if (!e) then
   some true
  else
   if (b.2 != c.2) then
    some true
   else
    if (((a.Ms).length : Int) != ((p0.M.Ms).length : Int)) then
     some true
    else
     some (((a.Co).length : Int) != ((p0.M.Co).length : Int))).bind fun f =>
  if f then
   some false
  else
   (zQ (xt p0 a) (fun (n : Unit) => (.inl ())) (a.Ms).length 0 ()).bind fun g => match g with
    | .inl q =>
     (zQ (xu p0 a) (fun (v : Unit) => (.inl ())) (a.Co).length 0 ()).bind fun h => match h with
      | .inl z =>
       (zQ (xv p0) (fun (A : Unit) => (.inl ())) ((([] : List zE) ++ p0.Res)).length 0 ()).bind fun j => match j with
        | .inl B =>
         some true
        | .inr r => some r
      | .inr r => some r
    | .inr r => some r
end Go.Proofs.YtgmmfjpmahcocaaGreatDoor
