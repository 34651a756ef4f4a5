/- Texts KOld, KOld2, KOps, KFlow of this proof. -/
import Derived.Test.YtbmknhpfkpmigaaGreatDoorF1
set_option linter.unusedVariables false
set_option linter.unusedSimpArgs false
namespace Go.Proofs.YtbmknhpfkpmigaaGreatDoor
open Go.Sx
structure EM where
 Ev : qw
 mo : zj
 sc : zk
 rg : Nat -> Int
 tu : Nat -> Int
 at_ : Int
 sp : Int
 sa : Int
def zke (fu : Nat) (p0 : zj) (p1 : qw) (p2 : zk) : Option ((Option EM) × Int) :=
 (va fu p0).bind fun r20 =>
 if (r20.2 != 0) then
  some (none, r20.2)
 else
  (vp p2.Wo).bind fun r29 =>
  (xf p0.Ms).bind fun r55 =>
  (zy p0.Co).bind fun r63 =>
  some ((some (EM.mk p1 (zj.mk r55 r63) (zk.mk r29 p2.Ct) (fun _ => 0) (fun _ => 0) 0 0 0)), 0)
def zgU (fu : Nat) (p0 : EM) (p1 : Int) : Option (zA × EM) :=
 (zdc p1).bind fun r29 =>
 if r29.2 then
  (idx p0.mo.Ms (p0.rg 1)).bind fun x49 =>
  (qO fu p1).bind fun r64 =>
  (if decide (((r64).length : Int) > 2) then
   some (p0.rg 3)
  else
   some 0).bind fun o78 =>
  some ((zA.mk 2 p0.at_ (qr.mk x49 r29.1 (p0.rg 2) o78) 0), (EM.mk p0.Ev p0.mo p0.sc p0.rg p0.tu p0.at_ p0.sp 1))
 else
  (if (p1 == 5) then
   (zW p0.sc.Ct (w64 (p0.rg 1))).bind fun r133 =>
   some ((EM.mk p0.Ev p0.mo (zk.mk p0.sc.Wo r133.2.2) (jf p0.rg 0 r133.1) p0.tu p0.at_ p0.sp p0.sa), (zA.mk 1 p0.at_ (qr.mk 0 0 0 0) r133.1))
  else
   some ((EM.mk p0.Ev p0.mo p0.sc (jf p0.rg 0 0) p0.tu p0.at_ p0.sp p0.sa), (zA.mk 3 p0.at_ (qr.mk 0 0 0 0) (p0.rg 1)))).bind fun o121 =>
  some (o121.2, (EM.mk o121.1.Ev o121.1.mo o121.1.sc o121.1.rg o121.1.tu (w64 (o121.1.at_ + 1)) o121.1.sp o121.1.sa))
def zcp (p0 : EM) (p1 : zc) : Option Int :=
 if (p1.B == 8) then
  some (qf p1.Imm)
 else
  (ain 8 p1.B).bind fun i12 =>
  some (p0.rg i12)
def zfA (p0 : EM) (p1 : zc) : Option (Int × EM) :=
 if (p1.Op == 0) then
  (zcp p0 p1).bind fun r31 =>
  (ain 8 p1.D).bind fun i35 =>
  some (1, (EM.mk p0.Ev p0.mo p0.sc (jf p0.rg i35 r31) p0.tu p0.at_ p0.sp p0.sa))
 else
  if (p1.Op == 11) then
   (zcp p0 p1).bind fun r68 =>
   (qh p0.sc.Wo (w64 r68)).bind fun r72 =>
   (ain 8 p1.D).bind fun i76 =>
   some (1, (EM.mk p0.Ev p0.mo p0.sc (jf p0.rg i76 r72.1) p0.tu p0.at_ p0.sp p0.sa))
  else
   if (p1.Op == 12) then
    (ain 8 p1.A).bind fun i108 =>
    (zcp p0 p1).bind fun r110 =>
    (qW p0.sc.Wo (w64 r110) (p0.rg i108)).bind fun r114 =>
    some (1, (EM.mk p0.Ev p0.mo (zk.mk r114.2 p0.sc.Ct) p0.rg p0.tu p0.at_ p0.sp p0.sa))
   else
    if (p1.Op == 13) then
     (ain 8 p1.D).bind fun i140 =>
     if (p1.Imm == 1) then
      some (1, (EM.mk p0.Ev p0.mo p0.sc (jf (jf p0.rg i140 p0.Ev.A) i140 p0.Ev.B) p0.tu p0.at_ p0.sp p0.sa))
     else
      some (1, (EM.mk p0.Ev p0.mo p0.sc (jf p0.rg i140 p0.Ev.A) p0.tu p0.at_ p0.sp p0.sa))
    else
     if (p1.Op == 14) then
      (ain 8 p1.D).bind fun i173 =>
      some (1, (EM.mk p0.Ev p0.mo p0.sc (jf p0.rg i173 (qf p1.Imm)) p0.tu p0.at_ p0.sp p0.sa))
     else
      if (p1.Op == 15) then
       some (w64 (p1.D + 1), p0)
      else
       if (p1.Op == 20) then
        ((ain 8 p1.A).bind fun i210 =>
        if ((p0.rg i210) != 0) then
         (ain 64 p0.at_).bind fun i213 =>
         some (decide ((p0.tu i213) < p1.Imm))
        else
         some false).bind fun o206 =>
        if o206 then
         (ain 64 p0.at_).bind fun i238 =>
         some (w64 (0 - p1.D), (EM.mk p0.Ev p0.mo p0.sc p0.rg (jf p0.tu i238 (w64 ((p0.tu i238) + 1))) p0.at_ p0.sp p0.sa))
        else
         (ain 64 p0.at_).bind fun i262 =>
         some (1, (EM.mk p0.Ev p0.mo p0.sc p0.rg (jf p0.tu i262 0) p0.at_ p0.sp p0.sa))
       else
        (ain 8 p1.A).bind fun i293 =>
        (zcp p0 p1).bind fun r295 =>
        (zb7 p1.Op (p0.rg i293) r295).bind fun r299 =>
        if r299.2 then
         (ain 8 p1.D).bind fun i311 =>
         some (1, (EM.mk p0.Ev p0.mo p0.sc (jf p0.rg i311 r299.1) p0.tu p0.at_ p0.sp p0.sa))
        else
         (zcp p0 p1).bind fun r327 =>
         (vZ p1.Op (p0.rg i293) r327).bind fun r331 =>
         if r331.1 then
          some (w64 (p1.D + 1), p0)
         else
          some (1, p0)
def zel (fu : Nat) (p0 : EM) : Option (zA × EM) :=
 if (p0.sa == 1) then
  some ((zA.mk 5 p0.at_ (qr.mk 0 0 0 0) 0), p0)
 else
  if (p0.sa == 2) then
   (idx p0.mo.Co p0.at_).bind fun x37 =>
   (ain 8 x37.A).bind fun i43 =>
   some ((zA.mk 6 p0.at_ (qr.mk 0 0 0 0) (p0.rg i43)), p0)
  else
   (idx p0.mo.Co p0.at_).bind fun x62 =>
   if (x62.Op == 21) then
    (zgU fu (EM.mk p0.Ev p0.mo p0.sc p0.rg p0.tu p0.at_ (w64 (p0.sp + 1)) p0.sa) x62.Imm).bind fun r80 =>
    some (r80.1, r80.2)
   else
    if (x62.Op == 22) then
     (ain 8 x62.A).bind fun i96 =>
     some ((zA.mk 4 p0.at_ (qr.mk 0 0 0 0) (p0.rg i96)), (EM.mk p0.Ev p0.mo p0.sc p0.rg p0.tu p0.at_ (w64 (p0.sp + 1)) 2))
    else
     (zfA (EM.mk p0.Ev p0.mo p0.sc p0.rg p0.tu p0.at_ (w64 (p0.sp + 1)) p0.sa) x62).bind fun r132 =>
     some ((zA.mk 1 p0.at_ (qr.mk 0 0 0 0) 0), (EM.mk r132.2.Ev r132.2.mo r132.2.sc r132.2.rg r132.2.tu (w64 (p0.at_ + r132.1)) r132.2.sp r132.2.sa))
def zcq (p0 : EM) (p1 : xz) : Option (Int × EM) :=
 if (p0.sa != 1) then
  some (2, p0)
 else
  (idx p0.mo.Co p0.at_).bind fun x36 =>
  (zbc x36.Imm p1).bind fun r42 =>
  some (0, (EM.mk p0.Ev p0.mo p0.sc (jf p0.rg 0 r42) p0.tu (w64 (p0.at_ + 1)) p0.sp 0))
def pk (M : zh) (S : zk) : EM := ⟨M.Ev, M.mo, S, M.rg, M.tu, M.at_, M.sp, M.sa⟩
theorem Br.ite {α β : Type} {f : α -> β} {c : Bool} {A B : Option β} {A' B' : Option α} (h1 : A = A'.map f) (h2 : B = B'.map f) : (if c then A else B) = (if c then A' else B').map f := by
 cases c with
 | true => exact h1
 | false => exact h2
theorem Br.bind {α β γ : Type} {f : α -> β} {o : Option γ} {A : γ -> Option β} {A' : γ -> Option α} (h : ∀ x, A x = (A' x).map f) : o.bind A = (o.bind A').map f := by
 cases o with
 | none => rfl
 | some x => exact h x
theorem Br.bind2 {α β γ δ : Type} {f : α -> β} {g : γ -> δ} {o : Option δ} {o' : Option γ} {A : δ -> Option β} {A' : γ -> Option α} (ho : o = o'.map g) (h : ∀ x, A (g x) = (A' x).map f) : o.bind A = (o'.bind A').map f := by
 subst ho
 cases o' with
 | none => rfl
 | some x => exact h x
def pk2 {α : Type} (r : α × zh × zk) : α × EM := (r.1, pk r.2.1 r.2.2)
theorem zph (M : zh) (S : zk) (i : zc) : zfA (pk M S) i = (qP M i S).map pk2 := by
 unfold zfA qP
 refine Br.ite (Br.bind fun _ => Br.bind fun _ => rfl) ?_
 refine Br.ite (Br.bind fun _ => Br.bind fun _ => Br.bind fun _ => rfl) ?_
 refine Br.ite (Br.bind fun _ => Br.bind fun _ => Br.bind fun _ => rfl) ?_
 refine Br.ite (Br.bind fun _ => Br.ite rfl rfl) ?_
 refine Br.ite (Br.bind fun _ => rfl) ?_
 refine Br.ite rfl ?_
 refine Br.ite (Br.bind fun _ => Br.ite (Br.bind fun _ => rfl) (Br.bind fun _ => rfl)) ?_
 exact Br.bind fun _ => Br.bind fun _ => Br.bind fun _ => Br.ite (Br.bind fun _ => rfl) (Br.bind fun _ => Br.bind fun _ => Br.ite rfl rfl)
theorem zol (fu : Nat) (M : zh) (S : zk) (k : Int) : zgU fu (pk M S) k = (qU fu M k S).map pk2 := by
 unfold zgU qU
 refine Br.bind fun _ => Br.ite (Br.bind fun _ => Br.bind fun _ => Br.bind fun _ => rfl) ?_
 exact Br.bind2 (g := fun o : zh × zk × zA => (pk o.1 o.2.1, o.2.2)) (Br.ite (Br.bind fun _ => rfl) rfl) (fun _ => rfl)
theorem zom (fu : Nat) (M : zh) (S : zk) : zel fu (pk M S) = (qm fu M S).map pk2 := by
 unfold zel qm
 refine Br.ite rfl (Br.ite (Br.bind fun _ => Br.bind fun _ => rfl) (Br.bind fun _ => Br.ite ?_ (Br.ite (Br.bind fun _ => rfl) ?_)))
 ·exact Br.bind2 (g := pk2) (zol fu ⟨M.Ev, M.mo, M.rg, M.tu, M.at_, w64 (M.sp + 1), M.sa⟩ S _) (fun _ => rfl)
 ·exact Br.bind2 (g := pk2) (zph ⟨M.Ev, M.mo, M.rg, M.tu, M.at_, w64 (M.sp + 1), M.sa⟩ S _) (fun _ => rfl)
theorem zlO (M : zh) (S : zk) (r : xz) : zcq (pk M S) r = (jR M r S).map (fun x => (x.1, pk x.2 S)) := by
 unfold zcq jR
 exact Br.ite rfl (Br.bind fun _ => Br.bind fun _ => rfl)
theorem zpi (fu : Nat) (m : zj) (E : qw) (S : zk) : zke fu m E S = (zao fu m E S).map (fun x => (x.1.map (fun M => pk M x.2.2), x.2.1)) := by
 unfold zke zao
 exact Br.bind fun _ => Br.ite rfl (Br.bind fun _ => Br.bind fun _ => Br.bind fun _ => rfl)
end Go.Proofs.YtbmknhpfkpmigaaGreatDoor
namespace Go.Proofs.YtbmknhpfkpmigaaGreatDoor
open Go.Sx
structure SM where
 M : zj
 E : qw
 S : zi
 Rg : List Int
 Tu : List Int
 At : Int
 Steps : Int
 Mode : Int
def zkf (fu : Nat) (p0 : zj) (p1 : qw) (p2 : zi) : Option ((Option SM) × Int) :=
 (ja fu p0).bind fun r24 =>
 if (r24.2.2 != 0) then
  some (none, r24.2.2)
 else
  (jQ p2).bind fun r38 =>
  ((mkLen 8 8).bind fun m71 =>
  (mkLen 64 8).bind fun m75 =>
  some (SM.mk p0 p1 r38 (List.replicate m71 0) (List.replicate m75 0) 0 0 0)).bind fun o67 =>
  some ((some o67), 0)
def zhZ (p0 : SM) : Option SM :=
 some (SM.mk p0.M p0.E p0.S p0.Rg p0.Tu (w64 (p0.At + 1)) p0.Steps p0.Mode)
def zh0 (fu : Nat) (p0 : SM) (p1 : zc) (p2 : zA) : Option (zA × SM) :=
 if decide (p1.Imm <= 4) then
  (idx p0.Rg 1).bind fun x70 =>
  (idx p0.M.Ms x70).bind fun x76 =>
  (idx p0.Rg 2).bind fun x82 =>
  (if ((p1.Imm == 2) || (p1.Imm == 4)) then
   (idx p0.Rg 3).bind fun x118 =>
   some x118
  else
   some 0).bind fun o108 =>
  some ((zA.mk 2 p2.Pc (qr.mk x76 p1.Imm x82 o108) p2.Val), (SM.mk p0.M p0.E p0.S p0.Rg p0.Tu p0.At p0.Steps 1))
 else
  if (p1.Imm == 5) then
   (idx p0.Rg 1).bind fun x173 =>
   (zI fu p0.S (w64 x173)).bind fun r179 =>
   (idx p0.Rg 0).bind fun x193 =>
   (zhZ (SM.mk p0.M p0.E r179.2.2 (p0.Rg.set (Int.toNat 0) r179.1) p0.Tu p0.At p0.Steps p0.Mode)).bind fun r207 =>
   some ((zA.mk p2.Ki p2.Pc p2.It r179.1), r207)
  else
   (idx p0.Rg 1).bind fun x251 =>
   (idx p0.Rg 0).bind fun x265 =>
   (zhZ (SM.mk p0.M p0.E p0.S (p0.Rg.set (Int.toNat 0) 0) p0.Tu p0.At p0.Steps p0.Mode)).bind fun r279 =>
   some ((zA.mk 3 p2.Pc p2.It x251), r279)
def zcr (p0 : SM) (p1 : zc) : Option Int :=
 if (p1.B == 8) then
  some (qf p1.Imm)
 else
  (idx p0.Rg p1.B).bind fun x19 =>
  some x19
def zgV (p0 : SM) (p1 : zc) : Option (Bool × SM) :=
 if (p1.Op == 15) then
  some (true, p0)
 else
  if (p1.Op == 20) then
   ((idx p0.Rg p1.A).bind fun x67 =>
   if decide (x67 > 0) then
    (idx p0.Tu p0.At).bind fun x74 =>
    some (decide (x74 < p1.Imm))
   else
    some false).bind fun o62 =>
   if o62 then
    (idx p0.Tu p0.At).bind fun x126 =>
    some (true, (SM.mk p0.M p0.E p0.S p0.Rg (p0.Tu.set (Int.toNat p0.At) (w64 (x126 + 1))) p0.At p0.Steps p0.Mode))
   else
    (idx p0.Tu p0.At).bind fun x177 =>
    some (false, (SM.mk p0.M p0.E p0.S p0.Rg (p0.Tu.set (Int.toNat p0.At) 0) p0.At p0.Steps p0.Mode))
  else
   (idx p0.Rg p1.A).bind fun x231 =>
   (zcr p0 p1).bind fun r237 =>
   (xV p1.Op x231 r237).bind fun r241 =>
   some (r241.1, p0)
def zgW (fu : Nat) (p0 : SM) (p1 : zc) : Option SM :=
 if (p1.Op == 0) then
  (zcr p0 p1).bind fun r50 =>
  (idx p0.Rg p1.D).bind fun x54 =>
  some (SM.mk p0.M p0.E p0.S (p0.Rg.set (Int.toNat p1.D) r50) p0.Tu p0.At p0.Steps p0.Mode)
 else
  (zX p1.Op).bind fun r67 =>
  if r67 then
   (idx p0.Rg p1.A).bind fun x118 =>
   (zcr p0 p1).bind fun r124 =>
   (zL fu p1.Op x118 r124).bind fun r128 =>
   (idx p0.Rg p1.D).bind fun x143 =>
   some (SM.mk p0.M p0.E p0.S (p0.Rg.set (Int.toNat p1.D) r128.1) p0.Tu p0.At p0.Steps p0.Mode)
  else
   if (p1.Op == 11) then
    (zcr p0 p1).bind fun r193 =>
    (zF fu p0.S (w64 r193)).bind fun r197 =>
    (idx p0.Rg p1.D).bind fun x213 =>
    some (SM.mk p0.M p0.E p0.S (p0.Rg.set (Int.toNat p1.D) r197.1) p0.Tu p0.At p0.Steps p0.Mode)
   else
    if (p1.Op == 12) then
     (idx p0.Rg p1.A).bind fun x269 =>
     (zcr p0 p1).bind fun r275 =>
     (qM p0.S (w64 r275) x269).bind fun r279 =>
     some (SM.mk p0.M p0.E r279.2 p0.Rg p0.Tu p0.At p0.Steps p0.Mode)
    else
     if ((p1.Op == 13) && (p1.Imm == 0)) then
      (idx p0.Rg p1.D).bind fun x326 =>
      some (SM.mk p0.M p0.E p0.S (p0.Rg.set (Int.toNat p1.D) p0.E.A) p0.Tu p0.At p0.Steps p0.Mode)
     else
      if (p1.Op == 13) then
       (idx p0.Rg p1.D).bind fun x374 =>
       some (SM.mk p0.M p0.E p0.S (p0.Rg.set (Int.toNat p1.D) p0.E.B) p0.Tu p0.At p0.Steps p0.Mode)
      else
       if (p1.Op == 14) then
        (idx p0.Rg p1.D).bind fun x422 =>
        some (SM.mk p0.M p0.E p0.S (p0.Rg.set (Int.toNat p1.D) (qf p1.Imm)) p0.Tu p0.At p0.Steps p0.Mode)
       else
        some p0
def zgX (fu : Nat) (p0 : SM) : Option (zA × SM) :=
 (idx p0.M.Co p0.At).bind fun x47 =>
 if (p0.Mode == 1) then
  some ((zA.mk 5 p0.At (qr.mk 0 0 0 0) 0), p0)
 else
  if (p0.Mode == 2) then
   (idx p0.Rg x47.A).bind fun x83 =>
   some ((zA.mk 6 p0.At (qr.mk 0 0 0 0) x83), p0)
  else
   if (x47.Op == 21) then
    (zh0 fu (SM.mk p0.M p0.E p0.S p0.Rg p0.Tu p0.At (w64 (p0.Steps + 1)) p0.Mode) x47 (zA.mk 1 p0.At (qr.mk 0 0 0 0) 0)).bind fun r104 =>
    some (r104.1, r104.2)
   else
    if (x47.Op == 22) then
     (idx p0.Rg x47.A).bind fun x126 =>
     some ((zA.mk 4 p0.At (qr.mk 0 0 0 0) x126), (SM.mk p0.M p0.E p0.S p0.Rg p0.Tu p0.At (w64 (p0.Steps + 1)) 2))
    else
     (jG x47).bind fun r140 =>
     (if r140.2.1 then
      (zgV (SM.mk p0.M p0.E p0.S p0.Rg p0.Tu p0.At (w64 (p0.Steps + 1)) p0.Mode) x47).bind fun r157 =>
      some (r157.2, r157.1)
     else
      some ((SM.mk p0.M p0.E p0.S p0.Rg p0.Tu p0.At (w64 (p0.Steps + 1)) p0.Mode), false)).bind fun o153 =>
     if o153.2 then
      some ((zA.mk 1 p0.At (qr.mk 0 0 0 0) 0), (SM.mk o153.1.M o153.1.E o153.1.S o153.1.Rg o153.1.Tu (w64 (o153.1.At + r140.1)) o153.1.Steps o153.1.Mode))
     else
      if (!r140.2.1) then
       (zgW fu o153.1 x47).bind fun r203 =>
       (zhZ r203).bind fun r213 =>
       some ((zA.mk 1 p0.At (qr.mk 0 0 0 0) 0), r213)
      else
       (zhZ o153.1).bind fun r225 =>
       some ((zA.mk 1 p0.At (qr.mk 0 0 0 0) 0), r225)
def zem (p0 : SM) (p1 : xz) : Option (Int × SM) :=
 if (p0.Mode != 1) then
  some (2, p0)
 else
  (idx p0.M.Co p0.At).bind fun x57 =>
  (xW x57.Imm p1).bind fun r63 =>
  (idx p0.Rg 0).bind fun x67 =>
  (zhZ (SM.mk p0.M p0.E p0.S (p0.Rg.set (Int.toNat 0) r63) p0.Tu p0.At p0.Steps 0)).bind fun r83 =>
  some (0, r83)
def pkS (s : ze) (b : zi) : SM := ⟨s.M, s.E, b, s.Rg, s.Tu, s.At, s.Steps, s.Mode⟩
def zpG {α : Type} (r : α × ze × zi) : α × SM := (r.1, pkS r.2.1 r.2.2)
theorem zkG (s : ze) (b : zi) (i : zc) : zgV (pkS s b) i = (xp s i b).map (fun x => (x.1, pkS x.2 b)) := by
 unfold zgV xp
 refine Br.ite rfl (Br.ite ?_ ?_)
 ·exact Br.bind fun _ => Br.ite (Br.bind fun _ => rfl) (Br.bind fun _ => rfl)
 ·exact Br.bind fun _ => Br.bind fun _ => Br.bind fun _ => rfl
theorem zkH (fu : Nat) (s : ze) (b : zi) (i : zc) : zgW fu (pkS s b) i = (qq fu s i b).map (fun x => pkS x.1 x.2) := by
 unfold zgW qq
 refine Br.ite (Br.bind fun _ => Br.bind fun _ => rfl) ?_
 refine Br.bind fun _ => Br.ite (Br.bind fun _ => Br.bind fun _ => Br.bind fun _ => Br.bind fun _ => rfl) ?_
 refine Br.ite (Br.bind fun _ => Br.bind fun _ => Br.bind fun _ => rfl) ?_
 refine Br.ite (Br.bind fun _ => Br.bind fun _ => Br.bind fun _ => rfl) ?_
 refine Br.ite (Br.bind fun _ => rfl) ?_
 refine Br.ite (Br.bind fun _ => rfl) ?_
 exact Br.ite (Br.bind fun _ => rfl) rfl
theorem zkI (fu : Nat) (s : ze) (b : zi) (i : zc) (a : zA) : zh0 fu (pkS s b) i a = (qp fu s i a b).map zpG := by
 unfold zh0 qp
 refine Br.ite (Br.bind fun _ => Br.bind fun _ => Br.bind fun _ => Br.bind fun _ => rfl) ?_
 refine Br.ite (Br.bind fun _ => Br.bind fun _ => Br.bind fun _ => rfl) ?_
 exact Br.bind fun _ => Br.bind fun _ => rfl
theorem zkJ (fu : Nat) (s : ze) (b : zi) : zgX fu (pkS s b) = (zT fu s b).map zpG := by
 unfold zgX zT
 refine Br.bind fun x => Br.ite rfl (Br.ite (Br.bind fun _ => rfl) (Br.ite ?_ (Br.ite (Br.bind fun _ => rfl) ?_)))
 ·exact Br.bind2 (g := zpG) (zkI fu ⟨s.M, s.E, s.Rg, s.Tu, s.At, w64 (s.Steps + 1), s.Mode⟩ b _ _) (fun _ => rfl)
 ·refine Br.bind fun g => Br.bind2 (g := fun o : ze × Bool => (pkS o.1 b, o.2)) (Br.ite (Br.bind2 (zkG ⟨s.M, s.E, s.Rg, s.Tu, s.At, w64 (s.Steps + 1), s.Mode⟩ b _) (fun _ => rfl)) rfl) (fun o => ?_)
  refine Br.ite rfl (Br.ite ?_ ?_)
  ·exact Br.bind2 (zkH fu o.1 b _) (fun _ => rfl)
  ·rfl
theorem ziM (s : ze) (b : zi) (r : xz) : zem (pkS s b) r = (qR s r b).map (fun x => (x.1, pkS x.2 b)) := by
 unfold zem qR
 exact Br.ite rfl (Br.bind fun _ => Br.bind fun _ => Br.bind fun _ => rfl)
theorem zlP (fu : Nat) (m : zj) (E : qw) (b : zi) : zkf fu m E b = (jA fu m E b).map (fun x => (x.1.map (fun s => pkS s x.2.2), x.2.1)) := by
 unfold zkf jA
 refine Br.bind fun _ => Br.ite rfl (Br.bind fun b' => ?_)
 exact Br.bind2 (g := fun s : ze => pkS s b') (Br.bind fun _ => Br.bind fun _ => rfl) (fun _ => rfl)
end Go.Proofs.YtbmknhpfkpmigaaGreatDoor
namespace Go.Proofs.YtbmknhpfkpmigaaGreatDoor
open Go.Sx
def zfW (n : Int) : Bool := decide (0 <= n) && decide (n < 8)
def znN (i : zc) : Bool := i.B == 8 || (zfW i.B && i.Imm == 0)
def inB (n lo hi : Int) : Bool := decide (lo <= n) && decide (n <= hi)
def qe (i : zc) : Bool :=
 if i.Op == 0 || i.Op == 11 then zfW i.D && i.A == 0 && znN i
 else if inB i.Op 1 10 then zfW i.D && zfW i.A && znN i
 else if i.Op == 12 then i.D == 0 && zfW i.A && znN i
 else if i.Op == 13 then zfW i.D && i.A == 0 && i.B == 0 && inB i.Imm 0 1
 else if i.Op == 14 then zfW i.D && i.A == 0 && i.B == 0 && inB i.Imm 0 3
 else if i.Op == 15 then inB i.D 0 63 && i.A == 0 && i.B == 0 && i.Imm == 0
 else if inB i.Op 16 19 then inB i.D 0 63 && zfW i.A && znN i
 else if i.Op == 20 then inB i.D 1 63 && zfW i.A && i.B == 0 && inB i.Imm 1 255
 else if i.Op == 21 then i.D == 0 && i.A == 0 && i.B == 0 && inB i.Imm 0 6
 else if i.Op == 22 then i.D == 0 && zfW i.A && i.B == 0 && i.Imm == 0
 else false
def vf (i : zc) : Bool := qe i && inB i.Op 15 19
def zbA (i : zc) : Bool := qe i && i.Op == 20
def zr (i : zc) : Int × Bool × Bool :=
 if vf i then (i.D + 1, true, i.Op != 15)
 else if zbA i then (-i.D, true, true)
 else (0, false, qe i && i.Op != 22)
theorem ziN (n : Int) : n < 0 \/ n >= 23 \/ n = 0 \/ n = 1 \/ n = 2 \/ n = 3 \/ n = 4 \/ n = 5 \/ n = 6 \/ n = 7 \/ n = 8 \/ n = 9 \/ n = 10 \/ n = 11 \/ n = 12 \/ n = 13 \/ n = 14 \/ n = 15 \/ n = 16 \/ n = 17 \/ n = 18 \/ n = 19 \/ n = 20 \/ n = 21 \/ n = 22 := by omega
theorem zjB (n : Int) : za9 n = some (zfW n) := rfl
theorem zlQ (n lo hi : Int) : zaK n lo hi = some (inB n lo hi) := rfl
theorem zbM {α : Type} {c : Bool} {A B : Option α} {a b : α} (hA : A = some a) (hB : B = some b) : (if c then A else B) = some (if c then a else b) := by
 cases c <;> simp [hA, hB]
theorem jV {c : Bool} {A : Option Bool} {a : Bool} (hA : A = some a) : (if c then A else some false) = some (c && a) := by
 cases c <;> simp [hA]
def zen (p : zc) (s : Bool × zc) (c : Int) : Bool × zc :=
 if c == 100 then (s.1 && zfW p.D, ⟨s.2.Op, 0, s.2.A, s.2.B, s.2.Imm⟩)
 else if c == 97 then (s.1 && zfW p.A, ⟨s.2.Op, s.2.D, 0, s.2.B, s.2.Imm⟩)
 else if c == 115 then (if p.B == 8 then (s.1, ⟨s.2.Op, s.2.D, s.2.A, 0, 0⟩) else (s.1 && zfW p.B, ⟨s.2.Op, s.2.D, s.2.A, 0, s.2.Imm⟩))
 else if c == 102 then (s.1 && inB p.Imm 0 1, ⟨s.2.Op, s.2.D, s.2.A, s.2.B, 0⟩)
 else if c == 109 then (s.1 && inB p.Imm 0 3, ⟨s.2.Op, s.2.D, s.2.A, s.2.B, 0⟩)
 else if c == 104 then (s.1 && inB p.Imm 0 6, ⟨s.2.Op, s.2.D, s.2.A, s.2.B, 0⟩)
 else if c == 110 then (s.1 && inB p.Imm 1 255, ⟨s.2.Op, s.2.D, s.2.A, s.2.B, 0⟩)
 else if c == 106 then (s.1 && inB p.D 0 63, ⟨s.2.Op, 0, s.2.A, s.2.B, s.2.Imm⟩)
 else if c == 98 then (s.1 && inB p.D 1 63, ⟨s.2.Op, 0, s.2.A, s.2.B, s.2.Imm⟩)
 else s
section
variable {p : zc} {x : Bool} {o d a b m : Int}
theorem zqr : zen p (x, ⟨o, d, a, b, m⟩) 100 = (x && zfW p.D, ⟨o, 0, a, b, m⟩) := rfl
theorem zqs : zen p (x, ⟨o, d, a, b, m⟩) 97 = (x && zfW p.A, ⟨o, d, 0, b, m⟩) := rfl
theorem zqt : zen p (x, ⟨o, d, a, b, m⟩) 115 = (if p.B == 8 then (x, ⟨o, d, a, 0, 0⟩) else (x && zfW p.B, ⟨o, d, a, 0, m⟩)) := rfl
theorem zqu : zen p (x, ⟨o, d, a, b, m⟩) 102 = (x && inB p.Imm 0 1, ⟨o, d, a, b, 0⟩) := rfl
theorem zqv : zen p (x, ⟨o, d, a, b, m⟩) 109 = (x && inB p.Imm 0 3, ⟨o, d, a, b, 0⟩) := rfl
theorem zqw : zen p (x, ⟨o, d, a, b, m⟩) 104 = (x && inB p.Imm 0 6, ⟨o, d, a, b, 0⟩) := rfl
theorem zqx : zen p (x, ⟨o, d, a, b, m⟩) 110 = (x && inB p.Imm 1 255, ⟨o, d, a, b, 0⟩) := rfl
theorem zqy : zen p (x, ⟨o, d, a, b, m⟩) 106 = (x && inB p.D 0 63, ⟨o, 0, a, b, m⟩) := rfl
theorem zqz : zen p (x, ⟨o, d, a, b, m⟩) 98 = (x && inB p.D 1 63, ⟨o, 0, a, b, m⟩) := rfl
end
theorem zaY {σ ρ : Type} {again : σ -> Option ρ} {c : Bool} {A B : Option ρ} {a b : σ} (hA : A = again a) (hB : B = again b) : (if c then A else B) = again (if c then a else b) := by
 cases c <;> simp [hA, hB]
theorem zbt {σ ρ : Type} {again : (Bool × σ) -> Option ρ} {x y : Bool} {z : σ} : (if x then again (y, z) else again (false, z)) = again (x && y, z) := by
 cases x <;> simp
theorem zfX {p : zc} {r : qc × Bool} {i : Nat} {c : Int} {again : (Bool × zc) -> Option (Bool × zc)} {s : Bool × zc} (h : zhG r.1.fields (i : Int) = some c) :
  zcO p r i again s = again (zen p s c) := by
 unfold zcO zen
 simp only [h, zbs, zjB, zlQ]
 refine zaY zbt ?_
 refine zaY zbt ?_
 refine zaY (zaY rfl zbt) ?_
 refine zaY zbt ?_
 refine zaY zbt ?_
 refine zaY zbt ?_
 refine zaY zbt ?_
 refine zaY zbt ?_
 refine zaY zbt rfl
def fin (x : Bool × zc) : Bool := x.1 && ((x.2.Op == 0) && ((x.2.D == 0) && ((x.2.A == 0) && ((x.2.B == 0) && (x.2.Imm == 0)))))
theorem zh1 {p : zc} {f : qc} (ho : zbz p.Op = some (f, true)) {x : Bool × zc} (hz : f.fields.size <= 3)
  (h : qQ (zcO p (f, true)) (fun (s : Bool × zc) => (s.1, s.2)) f.fields.size 0 (true, ⟨0, p.D, p.A, p.B, p.Imm⟩) = some x) : vn p = some (fin x) := by
 have hr : room f.fields.size 1 = some () := by unfold room; rw [if_pos (by omega)]
 unfold vn fin
 simp only [ho, zbs, h, hr]
 cases x.1 <;> simp
theorem zp4 {p : zc} {f : qc} {c0 : Int} (ho : zbz p.Op = some (f, true)) (hs : f.fields.size = 1) (h0 : zhG f.fields 0 = some c0) :
  vn p = some (fin (zen p (true, ⟨0, p.D, p.A, p.B, p.Imm⟩) c0)) := by
 refine zh1 ho (by omega) ?_
 rw [hs]
 simp only [qQ]
 rw [zfX (i := 0) (by simpa using h0)]
theorem zpH {p : zc} {f : qc} {c0 c1 : Int} (ho : zbz p.Op = some (f, true)) (hs : f.fields.size = 2) (h0 : zhG f.fields 0 = some c0) (h1 : zhG f.fields 1 = some c1) :
  vn p = some (fin (zen p (zen p (true, ⟨0, p.D, p.A, p.B, p.Imm⟩) c0) c1)) := by
 refine zh1 ho (by omega) ?_
 rw [hs]
 simp only [qQ]
 rw [zfX (i := 0) (by simpa using h0), zfX (i := 0 + 1) (by simpa using h1)]
theorem zp5 {p : zc} {f : qc} {c0 c1 c2 : Int} (ho : zbz p.Op = some (f, true)) (hs : f.fields.size = 3) (h0 : zhG f.fields 0 = some c0) (h1 : zhG f.fields 1 = some c1) (h2 : zhG f.fields 2 = some c2) :
  vn p = some (fin (zen p (zen p (zen p (true, ⟨0, p.D, p.A, p.B, p.Imm⟩) c0) c1) c2)) := by
 refine zh1 ho (by omega) ?_
 rw [hs]
 simp only [qQ]
 rw [zfX (i := 0) (by simpa using h0), zfX (i := 0 + 1) (by simpa using h1), zfX (i := 0 + 1 + 1) (by simpa using h2)]
theorem za6 (i : zc) : vn i = some (qe i) := by
 have hcase := ziN i.Op
 obtain ⟨op, d, a, b, m⟩ := i
 simp only at hcase
 have out : op < 0 \/ op >= 23 -> vn ⟨op, d, a, b, m⟩ = some (qe ⟨op, d, a, b, m⟩) := by
  intro h
  have e : zbz op = some (⟨ByteArray.empty, ByteArray.empty⟩, false) := by unfold zbz; rw [if_pos (by simp; omega)]
  have k : ∀ k : Int, 0 <= k -> k <= 22 -> (op == k) = false := by intro k h1 h2; simp; omega
  have d1 : inB op 1 10 = false := by simp [inB]; omega
  have d2 : inB op 16 19 = false := by simp [inB]; omega
  have r : qe ⟨op, d, a, b, m⟩ = false := by
   unfold qe
   simp only [k 0 (by decide) (by decide), k 11 (by decide) (by decide), k 12 (by decide) (by decide), k 13 (by decide) (by decide), k 14 (by decide) (by decide), k 15 (by decide) (by decide), k 20 (by decide) (by decide), k 21 (by decide) (by decide), k 22 (by decide) (by decide), d1, d2]
   rfl
  unfold vn
  rw [r]; simp [e]
 rcases hcase with h | h | h | h | h | h | h | h | h | h | h | h | h | h | h | h | h | h | h | h | h | h | h | h | h
 ·exact out (.inl h)
 ·exact out (.inr h)
 all_goals subst h
 all_goals
  first
   | rw [zpH (c0 := 100) (c1 := 115) rfl rfl rfl rfl]
   | rw [zp5 (c0 := 100) (c1 := 97) (c2 := 115) rfl rfl rfl rfl rfl]
   | rw [zpH (c0 := 97) (c1 := 115) rfl rfl rfl rfl]
   | rw [zpH (c0 := 100) (c1 := 102) rfl rfl rfl rfl]
   | rw [zpH (c0 := 100) (c1 := 109) rfl rfl rfl rfl]
   | rw [zp4 (c0 := 106) rfl rfl rfl]
   | rw [zp5 (c0 := 106) (c1 := 97) (c2 := 115) rfl rfl rfl rfl rfl]
   | rw [zp5 (c0 := 98) (c1 := 97) (c2 := 110) rfl rfl rfl rfl rfl]
   | rw [zp4 (c0 := 104) rfl rfl rfl]
   | rw [zp4 (c0 := 97) rfl rfl rfl]
  congr 1
  simp only [zqr, zqs, zqt, zqu, zqv, zqw, zqx, zqy, zqz, fin, qe, znN]
  cases h8 : (b == 8)
  ·simp [h8, inB]
   try (rw [Bool.eq_iff_iff]; simp; constructor <;> intro h <;> simp_all; done)
  ·simp only [beq_iff_eq] at h8
   subst h8
   simp [inB]
   try (rw [Bool.eq_iff_iff]; simp; constructor <;> intro h <;> simp_all; done)
theorem zlR (op : Int) (h0 : 0 <= op) (h1 : op < 23) : ∃ f, zbz op = some (f, true) /\ qN f 106 = some (inB op 15 19) /\ qN f 98 = some (op == 20) := by
 have hcase := ziN op
 rcases hcase with h | h | h | h | h | h | h | h | h | h | h | h | h | h | h | h | h | h | h | h | h | h | h | h | h
 ·omega
 ·omega
 all_goals subst h
 all_goals exact ⟨_, rfl, rfl, rfl⟩
theorem ziO {i : zc} (h : qe i = true) : 0 <= i.Op /\ i.Op < 23 := by
 rcases Int.lt_or_le i.Op 0 with h0 | h0
 ·exfalso
  have k : ∀ k : Int, 0 <= k -> (i.Op == k) = false := by intro k h1; simp; omega
  unfold qe inB at h
  simp only [k 0 (by decide), k 11 (by decide), k 12 (by decide), k 13 (by decide), k 14 (by decide), k 15 (by decide), k 20 (by decide), k 21 (by decide), k 22 (by decide)] at h
  simp at h
  repeat' (split at h)
  all_goals first
   | omega
   | cases h
 ·refine ⟨h0, ?_⟩
  rcases Int.lt_or_le i.Op 23 with h1 | h1
  ·exact h1
  ·exfalso
   have k : ∀ k : Int, k <= 22 -> (i.Op == k) = false := by intro k h1; simp; omega
   unfold qe inB at h
   simp only [k 0 (by decide), k 11 (by decide), k 12 (by decide), k 13 (by decide), k 14 (by decide), k 15 (by decide), k 20 (by decide), k 21 (by decide), k 22 (by decide)] at h
   simp at h
   repeat' (split at h)
   all_goals first
    | omega
    | cases h
theorem zdg {i : zc} (h : vf i = true) : 0 <= i.D /\ i.D <= 63 /\ 15 <= i.Op /\ i.Op <= 19 := by
 unfold vf at h
 simp only [zae] at h
 obtain ⟨hr, ho⟩ := h
 have hb : 15 <= i.Op /\ i.Op <= 19 := by simpa [inB] using ho
 refine ⟨?_, ?_, hb⟩ <;>
 ·have k : ∀ k : Int, k < 15 \/ k > 19 -> (i.Op == k) = false := by intro k h1; simp; omega
  have d1 : inB i.Op 1 10 = false := by simp [inB]; omega
  unfold qe at hr
  simp only [k 0 (by decide), k 11 (by decide), k 12 (by decide), k 13 (by decide), k 14 (by decide), k 20 (by decide), k 21 (by decide), k 22 (by decide), d1] at hr
  simp [inB] at hr
  split at hr
  ·omega
  ·omega
theorem zhA {i : zc} (h : zbA i = true) : 1 <= i.D /\ i.D <= 63 /\ i.Op = 20 /\ 1 <= i.Imm /\ i.Imm <= 255 := by
 unfold zbA at h
 simp only [zae, beq_iff_eq] at h
 obtain ⟨hr, ho⟩ := h
 obtain ⟨op, d, a, b, m⟩ := i
 simp only at ho
 subst ho
 simp [qe, inB] at hr
 simp
 omega
theorem zdh (i : zc) : zdy i = some (zr i) := by
 unfold zdy
 rw [za6]
 simp only [zbs]
 cases hr : qe i with
 | false => simp [zr, vf, zbA, hr]
 | true =>
  obtain ⟨f, h1, h2, h3⟩ := zlR i.Op (ziO hr).1 (ziO hr).2
  simp only [h1, zbs, h2, h3]
  cases hj : inB i.Op 15 19 with
  | true =>
   have := zdg (i := i) (by simp [vf, hr, hj])
   simp [zr, vf, hr, hj, zO (x := i.D + 1) (by omega) (by omega)]
  | false =>
   cases hl : (i.Op == 20) with
   | true =>
    have := zhA (i := i) (by simp [zbA, hr, hl])
    have e : w64 (0 - i.D) = -i.D := by rw [zO (by omega) (by omega)]; omega
    simp only [zr, vf, zbA, hr, hj, hl, e]
    rfl
   | false =>
    simp [zr, vf, zbA, hr, hj, hl]
end Go.Proofs.YtbmknhpfkpmigaaGreatDoor
namespace Go.Proofs.YtbmknhpfkpmigaaGreatDoor
open Go.Sx
def zaC {ρ : Type} (g : Nat -> Option ρ) : Nat -> Nat -> Option ρ
 | 0, _ => none
 | n + 1, i => match g i with
  | some v => some v
  | none => zaC g n (i + 1)
def zdU {ρ : Type} : Option ρ -> Unit ⊕ ρ
 | some v => .inr v
 | none => .inl ()
theorem zpd {ρ : Type} {body : Nat -> (Unit -> Option (Unit ⊕ ρ)) -> Unit -> Option (Unit ⊕ ρ)} (g : Nat -> Option ρ) {N : Nat}
  (hb : ∀ j again, j < N -> body j again () = match g j with | some v => some (.inr v) | none => again ()) :
  ∀ (n i : Nat), i + n = N -> qQ body (fun _ => (.inl ())) n i () = some (zdU (zaC g n i)) := by
 intro n
 induction n with
 | zero => intro i _; rfl
 | succ n ih =>
  intro i hi
  show body i (qQ body _ n (i + 1)) () = _
  rw [hb i _ (by omega)]
  unfold zaC
  cases g i with
  | some v => rfl
  | none => exact ih (i + 1) (by omega)
theorem zcn {ρ : Type} {body : Nat -> (Unit -> Option (Unit ⊕ ρ)) -> Unit -> Option (Unit ⊕ ρ)} (g : Nat -> Option ρ) {N : Nat}
 (hb : ∀ j again, j < N -> body j again () = match g j with | some v => some (.inr v) | none => again ()) :
 qQ body (fun _ => (.inl ())) N 0 () = some (zdU (zaC g N 0)) := zpd g hb N 0 (by omega)
theorem zbd {ρ : Type} {g : Nat -> Option ρ} {v : ρ} : ∀ {n i : Nat}, zaC g n i = some v -> ∃ j, i <= j /\ j < i + n /\ g j = some v /\ ∀ q, i <= q -> q < j -> g q = none := by
 intro n
 induction n with
 | zero => intro i h; cases h
 | succ n ih =>
  intro i h
  unfold zaC at h
  cases hg : g i with
  | some u =>
   rw [hg] at h
   cases h
   exact ⟨i, Nat.le_refl _, by omega, hg, fun q h1 h2 => by omega⟩
  | none =>
   rw [hg] at h
   obtain ⟨j, h1, h2, h3, h4⟩ := ih h
   refine ⟨j, by omega, by omega, h3, fun q q1 q2 => ?_⟩
   rcases Nat.eq_or_lt_of_le q1 with e | e
   ·subst e; exact hg
   ·exact h4 q e q2
theorem zbG {ρ : Type} {g : Nat -> Option ρ} : ∀ {n i : Nat}, zaC g n i = none -> ∀ q, i <= q -> q < i + n -> g q = none := by
 intro n
 induction n with
 | zero => intro i _ q h1 h2; omega
 | succ n ih =>
  intro i h q h1 h2
  unfold zaC at h
  cases hg : g i with
  | some u => rw [hg] at h; cases h
  | none =>
   rw [hg] at h
   rcases Nat.eq_or_lt_of_le h1 with e | e
   ·subst e; exact hg
   ·exact ih h q e (by omega)
theorem zjo {ρ : Type} {g : Nat -> Option ρ} : ∀ {n i : Nat}, (∀ q, i <= q -> q < i + n -> g q = none) -> zaC g n i = none := by
 intro n
 induction n with
 | zero => intro i _; rfl
 | succ n ih =>
  intro i h
  unfold zaC
  rw [h i (Nat.le_refl _) (by omega)]
  exact ih (fun q h1 h2 => h q (by omega) (by omega))
theorem ze8 {α : Type} {xs : List α} {i : Nat} (h : i < xs.length) : idx xs (i : Int) = some xs[i] := by
 simp [Go.Sx.idx, h]
def ziC (n : Int) (p : Int) (i : zc) : Int :=
 if !qe i then 12
 else if (zr i).2.1 && (decide (p + (zr i).1 < 0) || decide (p + (zr i).1 >= n)) then 30
 else if (zr i).2.2 && p == n - 1 then 36 else 0
theorem zde (i : zc) : -63 <= (zr i).1 /\ (zr i).1 <= 64 := by
 unfold zr
 split
 ·rename_i h; have := zdg h; simp; omega
 ·split
  ·rename_i h; have := zhA h; simp; omega
  ·simp
def zac (code : List zc) (p : Nat) : Option (Int × Int) := match code[p]? with
 | some i => if ziC code.length p i = 0 then none else some ((p : Int), ziC code.length p i)
 | none => none
theorem ziD (code : List zc) (hn : code.length <= 64) : zch code = some ((zaC (zac code) code.length 0).getD (0, 0)) := by
 unfold zch
 rw [zcn (zac code) (N := code.length)]
 ·simp only [zbs]
  cases zaC (zac code) code.length 0 <;> rfl
 ·intro j again hj
  unfold zeY
  have hx : code[j]? = some code[j] := zeg hj
  generalize hi : code[j] = x at hx
  have hg := zde x
  have e1 : w64 ((j : Int) + (zr x).1) = j + (zr x).1 := zO (by omega) (by omega)
  have e2 : w64 ((code.length : Int) - 1) = code.length - 1 := zO (by omega) (by omega)
  have hr : zea [x] = some (qe x) := by
   unfold zea
   simp only [List.length_singleton, qQ, zgb]
   rcases zft (qe x) with h | h <;> simp [Go.Sx.idx, za6, h]
  simp only [ze8 hj, hi, zbs, zdh, hr, e1, e2, zac, hx, ziC]
  rcases zft (qe x) with h1 | h1
  ·rcases zft ((zr x).2.1 && (decide ((j : Int) + (zr x).1 < 0) || decide ((j : Int) + (zr x).1 >= code.length))) with h2 | h2
   ·simp only [h1, h2]; rfl
   ·rcases zft ((zr x).2.2 && ((j : Int) == code.length - 1)) with h3 | h3
    ·simp only [h1, h2, h3]; rfl
    ·simp only [h1, h2, h3]; rfl
  ·simp only [h1]; rfl
def zgt (code : List zc) : Prop := ∀ (p : Nat) (i : zc), code[p]? = some i -> ziC code.length p i = 0
theorem zlz {code : List zc} (h : zaC (zac code) code.length 0 = none) : zgt code := by
 intro p i hi
 have hp := (zes.1 hi).1
 have := zbG h p (by omega) (by omega)
 unfold zac at this
 rw [hi] at this
 simp only at this
 split at this
 ·assumption
 ·cases this
theorem ziE {code : List zc} (h : zgt code) : zaC (zac code) code.length 0 = none := by
 refine zjo (fun q _ hq => ?_)
 have hi := zeg (show q < code.length by omega)
 unfold zac
 rw [hi]
 simp only [h q _ hi, if_true]
theorem zgt.right {code : List zc} (h : zgt code) {p : Nat} {i : zc} (hi : code[p]? = some i) : qe i = true := by
 have := h p i hi
 unfold ziC at this
 rcases zft (qe i) with h1 | h1
 ·exact h1
 ·rw [h1] at this; simp at this
theorem zgt.leads {code : List zc} (h : zgt code) {p : Nat} {i : zc} (hi : code[p]? = some i) (hl : (zr i).2.1 = true) : 0 <= (p : Int) + (zr i).1 /\ (p : Int) + (zr i).1 < code.length := by
 have := h p i hi
 unfold ziC at this
 rw [h.right hi, hl] at this
 simp at this
 split at this
 ·omega
 ·rename_i h2; omega
theorem zgt.on {code : List zc} (h : zgt code) {p : Nat} {i : zc} (hi : code[p]? = some i) (hl : (zr i).2.2 = true) : p + 1 < code.length := by
 have hp := (zes.1 hi).1
 have h1 := h p i hi
 unfold ziC at h1
 rw [h.right hi, hl] at h1
 rcases Nat.lt_or_ge (p + 1) code.length with h2 | h2
 ·exact h2
 ·exfalso
  have e : ((p : Int) == code.length - 1) = true := by simp; omega
  rw [e] at h1
  simp at h1
  split at h1 <;> omega
theorem zgt.loop {code : List zc} (h : zgt code) {p : Nat} {i : zc} (hi : code[p]? = some i) (ho : i.Op = 20) : 1 <= i.D /\ i.D <= p /\ 1 <= i.Imm /\ i.Imm <= 255 /\ p + 1 < code.length := by
 have hr := h.right hi
 have hl : zbA i = true := by simp [zbA, hr, ho]
 have hj : vf i = false := by simp [vf, inB, ho]
 have hg : zr i = (-i.D, true, true) := by simp [zr, hl, hj]
 have h1 := h.leads hi (by rw [hg])
 have h2 := h.on hi (by rw [hg])
 rw [hg] at h1
 have h3 := zhA hl
 simp only at h1
 omega
def qk (i : zc) (p : Nat) : zP := ⟨(p : Int) - i.D, p, i.Imm⟩
def lps (code : List zc) : Nat -> List zP
 | 0 => []
 | k + 1 => match code[k]? with
  | some i => if i.Op == 20 then lps code k ++ [qk i k] else lps code k
  | none => lps code k
theorem zhT (code : List zc) : ∀ k, (lps code k).length <= k
 | 0 => Nat.le_refl _
 | k + 1 => by
  have := zhT code k
  unfold lps
  split
  ·split
   ·simp; omega
   ·omega
  ·omega
theorem zei {code : List zc} {l : zP} : ∀ {k : Nat}, l ∈ lps code k ↔ ∃ q i, q < k /\ code[q]? = some i /\ i.Op = 20 /\ l = qk i q
 | 0 => by simp [lps]
 | k + 1 => by
  unfold lps
  have ih := @zei code l k
  constructor
  ·intro h
   split at h
   ·rename_i i hi
    split at h
    ·rename_i ho
     rcases List.mem_append.1 h with h | h
     ·obtain ⟨q, j, h1, h2⟩ := ih.1 h
      exact ⟨q, j, by omega, h2⟩
     ·simp at h
      exact ⟨k, i, by omega, hi, by simpa using ho, h⟩
    ·obtain ⟨q, j, h1, h2⟩ := ih.1 h
     exact ⟨q, j, by omega, h2⟩
   ·obtain ⟨q, j, h1, h2⟩ := ih.1 h
    exact ⟨q, j, by omega, h2⟩
  ·rintro ⟨q, j, h1, h2, h3, h4⟩
   rcases Nat.lt_or_ge q k with hq | hq
   ·have := ih.2 ⟨q, j, hq, h2, h3, h4⟩
    split
    ·split
     ·exact zal _ this
     ·exact this
    ·exact this
   ·have e : q = k := by omega
    subst e
    rw [h2]
    simp only [h3]
    rw [if_pos (by simp)]
    exact zar _ (by simp [h4])
theorem zhy (code : List zc) : ∀ k, (lps code k).Pairwise (fun a b => a.At < b.At) /\ ∀ l ∈ lps code k, l.At < k
 | 0 => ⟨List.Pairwise.nil, by simp [lps]⟩
 | k + 1 => by
  obtain ⟨h1, h2⟩ := zhy code k
  unfold lps
  split
  ·split
   ·refine ⟨List.pairwise_append.2 ⟨h1, List.pairwise_singleton _ _, fun a ha b hb => ?_⟩, fun l hl => ?_⟩
    ·simp at hb; subst hb; exact h2 a ha
    ·rcases List.mem_append.1 hl with hl | hl
     ·have := h2 l hl; omega
     ·simp at hl; subst hl; simp [qk]; omega
   ·exact ⟨h1, fun l hl => by have := h2 l hl; omega⟩
  ·exact ⟨h1, fun l hl => by have := h2 l hl; omega⟩
theorem zhU {code : List zc} (hn : code.length <= 64) (hD : zgt code) : zbE code = some (lps code code.length) := by
 refine OK.is ?_
 unfold zbE
 refine OK.bind2 (R := fun y => y = lps code code.length) ?_ (fun x hx => OK.ret hx)
 refine OK.count (fun i s => s = lps code i) rfl ?_ (fun s h => h)
 intro i s again hi hs k
 subst hs
 unfold zfq
 refine OK.bind (OK.getN hi (fun x hx => ?_))
 have hl := zhT code i
 refine OK.ite (fun h => ?_) (fun h => ?_)
 ·have hd := hD.loop hx (by simpa using h)
  refine OK.bind (OK.hasRoom (by simp; omega) ?_)
  refine k _ ?_
  rw [lps, hx]
  simp only [h, if_true, qk]
  rw [zO (by omega) (by omega)]
 ·refine k _ ?_
  rw [lps, hx]
  simp [h]
def zx (code : List zc) (p a : Nat) : Bool := match code[a]? with
 | some i => i.Op == 20 && decide ((a : Int) - i.D <= p) && decide (p <= a)
 | none => false
def bod (code : List zc) (k p : Nat) : List Int := ((List.range k).filter (zx code p)).map (fun (a : Nat) => (a : Int))
theorem zfw (code : List zc) (k p : Nat) : bod code (k + 1) p = if zx code p k then bod code k p ++ [(k : Int)] else bod code k p := by
 unfold bod
 rw [List.range_succ, List.filter_append, List.map_append]
 cases h : zx code p k <;> simp [h]
theorem zjp (code : List zc) (k p : Nat) : (bod code k p).length <= k := by
 unfold bod
 rw [List.length_map]
 exact Nat.le_trans (List.length_filter_le _ _) (by simp)
theorem zgK {code : List zc} {k p : Nat} {x : Int} : x ∈ bod code k p ↔ ∃ a : Nat, a < k /\ zx code p a = true /\ x = a := by
 unfold bod
 simp only [List.mem_map, List.mem_filter, List.mem_range]
 constructor
 ·rintro ⟨a, ⟨h1, h2⟩, rfl⟩; exact ⟨a, h1, h2, rfl⟩
 ·rintro ⟨a, h1, h2, rfl⟩; exact ⟨a, ⟨h1, h2⟩, rfl⟩
theorem zjq {code : List zc} {n p a : Nat} (ha : a < n) : (bod code n p).contains (a : Int) = zx code p a := by
 rw [Bool.eq_iff_iff, List.contains_iff_mem, zgK]
 constructor
 ·rintro ⟨b, _, h2, h3⟩
  have : a = b := by omega
  subst this
  exact h2
 ·intro h
  exact ⟨a, ha, h, rfl⟩
open Classical in
noncomputable def pick {ρ : Type} (X : Prop) (v : ρ) : Option ρ := if X then some v else none
theorem zgL {ρ : Type} {X : Prop} {v : ρ} (h : X) : pick X v = some v := by unfold pick; rw [if_pos h]
theorem ze0 {ρ : Type} {X : Prop} {v : ρ} (h : ¬ X) : pick X v = none := by unfold pick; rw [if_neg h]
theorem zfx {ρ : Type} {X : Prop} {v u : ρ} (h : pick X v = some u) : X /\ v = u := by
 unfold pick at h
 split at h
 ·rename_i hx; cases h; exact ⟨hx, rfl⟩
 ·cases h
theorem zdf {ρ : Type} {X : Prop} {v : ρ} (h : pick X v = none) : ¬ X := by
 unfold pick at h
 split at h
 ·cases h
 ·rename_i hx; exact hx
def zhV (X : Nat -> Prop) (n : Nat) : Option Nat -> Prop
 | some l => l < n /\ X l /\ ∀ q, q < l -> ¬ X q
 | none => ∀ q, q < n -> ¬ X q
theorem zhV.unique {X : Nat -> Prop} {n : Nat} {a b : Option Nat} (ha : zhV X n a) (hb : zhV X n b) : a = b := by
 cases a with
 | none =>
  cases b with
  | none => rfl
  | some l => exact absurd hb.2.1 (ha l hb.1)
 | some k =>
  cases b with
  | none => exact absurd ha.2.1 (hb k ha.1)
  | some l =>
   rcases Nat.lt_trichotomy k l with h | h | h
   ·exact absurd ha.2.1 (hb.2.2 k h)
   ·rw [h]
   ·exact absurd hb.2.1 (ha.2.2 l h)
theorem zco {ρ : Type} {X : Nat -> Prop} {n : Nat} {v : Nat -> ρ} : ∃ o, zhV X n o /\ zaC (fun l => pick (X l) (v l)) n 0 = o.map v := by
 cases h : zaC (fun l => pick (X l) (v l)) n 0 with
 | none => exact ⟨none, fun q hq => zdf (zbG h q (by omega) (by omega)), rfl⟩
 | some u =>
  obtain ⟨j, _, h2, h3, h4⟩ := zbd h
  obtain ⟨hx, rfl⟩ := zfx h3
  exact ⟨some j, ⟨by omega, hx, fun q hq => zdf (h4 q (by omega) hq)⟩, rfl⟩
def Crs (code : List zc) (l m : Nat) : Prop := ∃ il im, code[l]? = some il /\ il.Op = 20 /\ code[m]? = some im /\ im.Op = 20 /\ (l : Int) - il.D <= m /\ (m : Int) - im.D < l - il.D
def Cr (code : List zc) (l : Nat) : Prop := ∃ m, m < l /\ Crs code l m
theorem qA {code : List zc} {p a : Nat} {i : zc} (hi : code[a]? = some i) (ho : i.Op = 20) : zx code p a = true ↔ (a : Int) - i.D <= p /\ p <= a := by
 simp [zx, hi, ho]
theorem zoa {code : List zc} (hD : zgt code) {l m : Nat} (hml : m < l) {il im : zc} (h1 : code[l]? = some il) (h2 : il.Op = 20) (h3 : code[m]? = some im) (h4 : im.Op = 20) :
  Crs code l m ↔ (∃ p, p < code.length /\ zx code p m = true /\ zx code p l = true) /\ (∃ p, p < code.length /\ zx code p m = true /\ zx code p l = false) := by
 have d1 := hD.loop h1 h2
 have d2 := hD.loop h3 h4
 constructor
 ·rintro ⟨il', im', e1, _, e3, _, c1, c2⟩
  rw [h1] at e1; cases e1
  rw [h3] at e3; cases e3
  refine ⟨⟨m, by omega, (qA h3 h4).2 (by omega), (qA h1 h2).2 (by omega)⟩, ⟨((m : Int) - im.D).toNat, by omega, (qA h3 h4).2 (by omega), ?_⟩⟩
  cases hc : zx code ((m : Int) - im.D).toNat l with
  | false => rfl
  | true => have := (qA h1 h2).1 hc; omega
 ·rintro ⟨⟨p, _, a1, a2⟩, ⟨q, _, b1, b2⟩⟩
  have a1 := (qA h3 h4).1 a1
  have a2 := (qA h1 h2).1 a2
  have b1 := (qA h3 h4).1 b1
  refine ⟨il, im, h1, h2, h3, h4, by omega, ?_⟩
  rcases Int.lt_or_le ((m : Int) - im.D) (l - il.D) with h | h
  ·exact h
  ·exfalso
   have := (qA h1 h2).2 (show (l : Int) - il.D <= q /\ q <= l by omega)
   rw [b2] at this
   cases this
theorem zgM {ls : List zP} (hs : ls.Pairwise (fun a b => a.At < b.At)) {i j : Nat} {a b : zP} (hi : ls[i]? = some a) (hj : ls[j]? = some b) : a.At < b.At ↔ i < j := by
 obtain ⟨h1, rfl⟩ := zes.1 hi
 obtain ⟨h2, rfl⟩ := zes.1 hj
 constructor
 ·intro h
  rcases Nat.lt_trichotomy i j with h3 | h3 | h3
  ·exact h3
  ·subst h3; omega
  ·have := List.pairwise_iff_getElem.1 hs j i h2 h1 h3; omega
 ·intro h
  exact List.pairwise_iff_getElem.1 hs i j h1 h2 h
theorem zlA {α : Type} {xs : List α} {k : Nat} (hk : k <= xs.length) : cut xs 0 (k : Int) = some (xs.take k) := by
 unfold cut
 rw [if_pos (by omega)]
 simp
theorem zob {code : List zc} (hn : code.length <= 64) (hD : zgt code) :
  ∃ o, zhV (Cr code) code.length o /\ qQ (zbL (lps code code.length)) (fun _ => (.inl ())) (lps code code.length).length 0 () = some (zdU (o.map fun (l : Nat) => ((l : Int), (31 : Int)))) := by
 have hs := (zhy code code.length).1
 have hl := zhT code code.length
 generalize hls : lps code code.length = ls at hs hl |-
 have mem : ∀ {l : zP}, l ∈ ls ↔ ∃ q i, q < code.length /\ code[q]? = some i /\ i.Op = 20 /\ l = qk i q := by
  intro l; rw [<- hls]; exact zei
 have main : qQ (zbL ls) (fun _ => (.inl ())) ls.length 0 () = some (zdU (zaC (fun k => match ls[k]? with | some l => pick (Cr code l.At.toNat) (l.At, (31 : Int)) | none => none) ls.length 0)) := by
  refine zcn _ (N := ls.length) ?_
  intro k again hk
  have hx := zeg hk
  generalize hi : ls[k] = x at hx
  obtain ⟨q, i, hq, hqi, hop, rfl⟩ := mem.1 (zmg hx)
  unfold zbL
  have htl : (ls.take k).length = k := by rw [List.length_take]; omega
  have inner : qQ (zcV (qk i q) (ls.take k)) (fun _ => (.inl ())) k 0 () = some (zdU (zaC (fun m => match ls[m]? with | some l => pick (Crs code q l.At.toNat) ((q : Int), (31 : Int)) | none => none) k 0)) := by
   refine zcn _ (N := k) ?_
   intro m again hm
   have hml : m < ls.length := by omega
   have hy := zeg hml
   generalize hj : ls[m] = y at hy
   have hyt : idx (ls.take k) (m : Int) = some y := by
    rw [ze8 (by omega)]
    simp [List.getElem_take, hj]
   obtain ⟨q', i', hq', hqi', hop', rfl⟩ := mem.1 (zmg hy)
   unfold zcV
   simp only [hyt, hy, zbs]
   have e : ((qk i' q').At).toNat = q' := by simp [qk]
   rw [e]
   by_cases hc : Crs code q q'
   ·rw [zgL hc]
    obtain ⟨il, im, e1, _, e3, _, c1, c2⟩ := hc
    rw [hqi] at e1; cases e1
    rw [hqi'] at e3; cases e3
    have : (decide ((qk i' q').At >= (qk i q).Head) && decide ((qk i' q').Head < (qk i q).Head)) = true := by
     have a1 : (qk i' q').At = q' := rfl
     have a2 : (qk i q).Head = q - i.D := rfl
     have a3 : (qk i' q').Head = q' - i'.D := rfl
     simp only [a1, a2, a3, zae, zdq]; exact ⟨c1, c2⟩
    simp only [this]; rfl
   ·rw [ze0 hc]
    have : (decide ((qk i' q').At >= (qk i q).Head) && decide ((qk i' q').Head < (qk i q).Head)) = false := by
     cases h : (decide ((qk i' q').At >= (qk i q).Head) && decide ((qk i' q').Head < (qk i q).Head)) with
     | false => rfl
     | true =>
      exfalso; apply hc
      have a1 : (qk i' q').At = q' := rfl
      have a2 : (qk i q).Head = q - i.D := rfl
      have a3 : (qk i' q').Head = q' - i'.D := rfl
      simp only [a1, a2, a3, zae, zdq] at h
      exact ⟨i, i', hqi, hop, hqi', hop', h.1, h.2⟩
    simp only [this]; rfl
  simp only [ze8 hk, hi, hx, zbs, zlA (Nat.le_of_lt hk), htl, inner]
  have e : ((qk i q).At).toNat = q := by simp [qk]
  rw [e]
  cases hf : zaC (fun m => match ls[m]? with | some l => pick (Crs code q l.At.toNat) ((q : Int), (31 : Int)) | none => none) k 0 with
  | some v =>
   obtain ⟨m, _, h2, h3, _⟩ := zbd hf
   have hml : m < ls.length := by omega
   have hy := zeg hml
   rw [hy] at h3
   obtain ⟨hcr, rfl⟩ := zfx h3
   have hlt := (zgM hs hy hx).2 (by omega)
   obtain ⟨q', i', hq', hqi', hop', e'⟩ := mem.1 (zmg hy)
   rw [e'] at hcr hlt
   rw [zgL ⟨q', by simp [qk] at hlt; omega, by simpa [qk] using hcr⟩]
   rfl
  | none =>
   have h0 := zbG hf
   rw [ze0]
   ·rfl
   ·rintro ⟨m, hm, hcr⟩
    obtain ⟨il, im, e1, _, e3, e4, c1, c2⟩ := id hcr
    have hmem := mem.2 ⟨m, im, by omega, e3, e4, rfl⟩
    obtain ⟨j, hj, hje⟩ := List.mem_iff_getElem.1 hmem
    have hy := zeg hj
    rw [hje] at hy
    have hlt := (zgM hs hy hx).1 (by simp [qk]; omega)
    have := h0 j (by omega) (by omega)
    rw [hy] at this
    exact zdf this (by simpa [qk] using hcr)
 cases hf : zaC (fun k => match ls[k]? with | some l => pick (Cr code l.At.toNat) (l.At, (31 : Int)) | none => none) ls.length 0 with
 | none =>
  refine ⟨none, fun q hq hc => ?_, by rw [main, hf]; rfl⟩
  obtain ⟨m, hm, il, im, e1, e2, _⟩ := id hc
  obtain ⟨j, hj, hje⟩ := List.mem_iff_getElem.1 (mem.2 ⟨q, il, hq, e1, e2, rfl⟩)
  have := zbG hf j (by omega) (by omega)
  rw [zeg hj, hje] at this
  exact zdf this (by simpa [qk] using hc)
 | some v =>
  obtain ⟨k, _, h2, h3, h4⟩ := zbd hf
  have hk : k < ls.length := by omega
  have hx := zeg hk
  rw [hx] at h3
  obtain ⟨hc, rfl⟩ := zfx h3
  obtain ⟨q, i, hq, hqi, hop, e⟩ := mem.1 (zmg hx)
  refine ⟨some q, ⟨hq, ?_, fun q' hq' hc' => ?_⟩, ?_⟩
  ·rw [e] at hc; simpa [qk] using hc
  ·obtain ⟨m, hm, il, im, e1, e2, _⟩ := id hc'
   obtain ⟨j, hj, hje⟩ := List.mem_iff_getElem.1 (mem.2 ⟨q', il, by omega, e1, e2, rfl⟩)
   have hy := zeg hj
   have hlt := (zgM hs hy hx).1 (by rw [hje, e]; simp [qk]; omega)
   have := h4 j (by omega) hlt
   rw [hy, hje] at this
   exact zdf this (by simpa [qk] using hc')
  ·rw [main, hf, e]; rfl
def En (code : List zc) (p : Nat) : Prop := ∃ i, code[p]? = some i /\ (zr i).2.1 = true /\ 0 < (zr i).1 /\ ∃ a ia t, a < code.length /\ code[a]? = some ia /\ ia.Op = 20 /\ (t : Nat) = (p : Int) + (zr i).1 /\ zx code t a = true /\ zx code p a = false /\ (t : Int) ≠ a - ia.D
theorem zoc (i : zc) (h : (zr i).2.1 = true) : (zr i).1 ≠ 0 := by
 unfold zr at h |-
 split
 ·rename_i hj; have := zdg hj; simp; omega
 ·split
  ·rename_i hl; have := zhA hl; simp; omega
  ·rename_i h1 h2; simp [h1, h2] at h
theorem zod {code : List zc} (hn : code.length <= 64) (hD : zgt code) :
  qQ (zcX code (lps code code.length)) (fun _ => (.inl ())) code.length 0 () = some (zdU (zaC (fun p => pick (En code p) ((p : Int), (31 : Int))) code.length 0)) := by
 refine zcn _ (N := code.length) ?_
 intro p again hp
 have hx := zeg hp
 generalize hi : code[p] = x at hx
 have hg := zde x
 have e1 : w64 ((p : Int) + (zr x).1) = p + (zr x).1 := zO (by omega) (by omega)
 have hl := zhT code code.length
 have inner : qQ (zcW (lps code code.length) p (zr x)) (fun _ => (.inl ())) (lps code code.length).length 0 () =
   some (zdU (zaC (fun k => match (lps code code.length)[k]? with | some l => pick ((zr x).2.1 = true /\ 0 < (zr x).1 /\ ¬ (l.Head <= p /\ (p : Int) <= l.At) /\ (l.Head <= p + (zr x).1 /\ p + (zr x).1 <= l.At) /\ p + (zr x).1 ≠ l.Head) ((p : Int), (31 : Int)) | none => none) (lps code code.length).length 0)) := by
  refine zcn _ (N := (lps code code.length).length) ?_
  intro k again hk
  have hy := zeg hk
  generalize hj : (lps code code.length)[k] = y at hy
  unfold zcW
  simp only [ze8 hk, hj, hy, zbs, ze5, e1]
  by_cases hc : ((zr x).2.1 = true /\ 0 < (zr x).1 /\ ¬ (y.Head <= p /\ (p : Int) <= y.At) /\ (y.Head <= p + (zr x).1 /\ p + (zr x).1 <= y.At) /\ p + (zr x).1 ≠ y.Head)
  ·rw [zgL hc]
   obtain ⟨c1, c2, c3, c4, c5⟩ := hc
   have d1 : (decide ((p : Int) >= y.Head) && decide ((p : Int) <= y.At)) = false := by
    cases h : (decide ((p : Int) >= y.Head) && decide ((p : Int) <= y.At)) with
    | false => rfl
    | true => exfalso; apply c3; simp at h; omega
   have d2 : (decide ((p : Int) + (zr x).1 >= y.Head) && decide ((p : Int) + (zr x).1 <= y.At)) = true := by simp; omega
   have d3 : decide ((zr x).1 > 0) = true := by simp; omega
   have d4 : ((p : Int) + (zr x).1 != y.Head) = true := by simp; omega
   simp only [c1, d1, d2, d3, d4]; rfl
  ·rw [ze0 hc]
   rcases zft (zr x).2.1 with c1 | c1
   ·rcases zft (decide ((zr x).1 > 0)) with d3 | d3
    ·rcases zft (decide ((p : Int) >= y.Head) && decide ((p : Int) <= y.At)) with d1 | d1
     ·simp only [c1, d3, d1]; rfl
     ·rcases zft (decide ((p : Int) + (zr x).1 >= y.Head) && decide ((p : Int) + (zr x).1 <= y.At)) with d2 | d2
      ·rcases zft ((p : Int) + (zr x).1 != y.Head) with d4 | d4
       ·exfalso; apply hc
        simp at d1 d2 d3 d4
        exact ⟨c1, d3, by omega, by omega, d4⟩
       ·simp only [c1, d3, d1, d2, d4]; rfl
      ·simp only [c1, d3, d1, d2]; rfl
    ·simp only [c1, d3]; rfl
   ·simp only [c1]; rfl
 unfold zcX
 simp only [ze8 hp, hi, zbs, zdh, inner]
 cases hf : zaC (fun k => match (lps code code.length)[k]? with | some l => pick ((zr x).2.1 = true /\ 0 < (zr x).1 /\ ¬ (l.Head <= p /\ (p : Int) <= l.At) /\ (l.Head <= p + (zr x).1 /\ p + (zr x).1 <= l.At) /\ p + (zr x).1 ≠ l.Head) ((p : Int), (31 : Int)) | none => none) (lps code code.length).length 0 with
 | some v =>
  obtain ⟨k, _, h2, h3, _⟩ := zbd hf
  have hk : k < (lps code code.length).length := by omega
  have hy := zeg hk
  rw [hy] at h3
  obtain ⟨⟨c1, c2, c3, c4, c5⟩, rfl⟩ := zfx h3
  obtain ⟨q, i, hq, hqi, hop, e⟩ := zei.1 (zmg hy)
  rw [e] at c3 c4 c5
  simp only [qk] at c3 c4 c5
  have hpos : 0 <= (p : Int) + (zr x).1 := by omega
  have hcv : zx code p q = false := by
   cases hcv : zx code p q with
   | false => rfl
   | true => exfalso; apply c3; have := (qA hqi hop).1 hcv; omega
  have hE : En code p := ⟨x, hx, c1, c2, q, i, ((p : Int) + (zr x).1).toNat, hq, hqi, hop, by omega, (qA hqi hop).2 (by omega), hcv, by omega⟩
  rw [zgL hE]
  rfl
 | none =>
  have h0 := zbG hf
  rw [ze0]
  ·rfl
  ·rintro ⟨i', hi', c1, c2, a, ia, t, ha, hia, hop, ht, v1, v2, v3⟩
   rw [hx] at hi'; cases hi'
   obtain ⟨j, hj, hje⟩ := List.mem_iff_getElem.1 (zei.2 ⟨a, ia, ha, hia, hop, rfl⟩ : qk ia a ∈ lps code code.length)
   have := h0 j (by omega) (by omega)
   rw [zeg hj, hje] at this
   refine zdf this ⟨c1, c2, ?_, ?_, ?_⟩
   ·intro hh
    simp only [qk] at hh
    have := (qA hia hop).2 (show (a : Int) - ia.D <= p /\ p <= a by omega)
    rw [v2] at this; cases this
   ·have := (qA hia hop).1 v1
    simp only [qk]; omega
   ·simp only [qk]; omega
def EnX (code : List zc) (p : Nat) (d a : Int) : Prop := ∃ (q : Nat) (ia : zc), a = q /\ q < code.length /\ code[q]? = some ia /\ zx code p q = false /\ (p : Int) + d ≠ q - ia.D
def vF (code : List zc) (p : Nat) : Nat -> Int
 | 0 => 1
 | k + 1 => match code[k]? with
  | some i => if zx code p k then vF code p k * (i.Imm + 1) else vF code p k
  | none => vF code p k
def zgN (code : List zc) : Nat -> Int
 | 0 => 0
 | k + 1 => zgN code k + vF code k code.length
theorem ziF {code : List zc} {p a : Nat} {i : zc} (hi : code[a]? = some i) (h : zx code p a = true) : i.Op = 20 := by
 unfold zx at h; rw [hi] at h; simp at h; exact h.1.1
theorem zej {code : List zc} (hD : zgt code) (p : Nat) : ∀ k, 1 <= vF code p k
 | 0 => by simp [vF]
 | k + 1 => by
  have ih := zej hD p k
  unfold vF
  split
  ·rename_i i hi
   split
   ·rename_i hc
    have hd := hD.loop hi (ziF hi hc)
    have : 1 * 1 <= vF code p k * (i.Imm + 1) := Int.mul_le_mul ih (by omega) (by omega) (by omega)
    omega
   ·exact ih
  ·exact ih
theorem ze9 {code : List zc} (hD : zgt code) : ∀ k : Nat, (k : Int) <= zgN code k
 | 0 => by simp [zgN]
 | k + 1 => by
  have := ze9 hD k
  have h2 := zej hD k code.length
  unfold zgN
  omega
theorem ziG (code : List zc) (k : Nat) : zgN code (k + 1) = zgN code k + vF code k code.length := rfl
def mn (x : Int) : Int := if x <= 257 then x else 257
theorem zpe {x b : Int} (hx : 1 <= x) (hb : 1 <= b) : mn (mn x * b) = mn (x * b) := by
 unfold mn
 by_cases h : x <= 257
 ·rw [if_pos h]
 ·rw [if_neg h]
  have h1 : 257 * 1 <= 257 * b := Int.mul_le_mul_of_nonneg_left hb (by decide)
  have h2 : 258 * 1 <= x * b := Int.mul_le_mul (by omega) hb (by decide) (by omega)
  by_cases h3 : (257 : Int) * b <= 257
  ·rw [if_pos h3, if_neg (by omega)]; omega
  ·rw [if_neg h3, if_neg (by omega)]
theorem zlB {a b : Int} (ha : 0 <= a) (hb : 0 <= b) : mn (mn a + mn b) = mn (a + b) := by
 unfold mn; (repeat' split) <;> omega
theorem zlC (x : Int) : zb3 x 257 = mn x := by unfold zb3 mn; split <;> split <;> omega
theorem zlD (x : Int) : mn x <= 257 /\ mn x <= x := by unfold mn; split <;> omega
def zek (p : Int) : List zP -> Int -> Int
 | [], s => s
 | l :: r, s => zek p r (if decide (p >= l.Head) && decide (p <= l.At) then s * (l.Bound + 1) else s)
theorem zbe (p : Int) (l : List zP) : ∀ (a : List zP) (s : Int), zek p (a ++ l) s = zek p l (zek p a s)
 | [], s => rfl
 | x :: r, s => by simp only [List.cons_append, zek]; exact zbe p l r _
theorem zgO (code : List zc) (p : Nat) : ∀ k, zek p (lps code k) 1 = vF code p k
 | 0 => rfl
 | k + 1 => by
  have ih := zgO code p k
  unfold lps vF
  cases hk : code[k]? with
  | none => exact ih
  | some i =>
   simp only
   by_cases ho : i.Op = 20
   ·rw [if_pos (by simp [ho]), zbe, ih]
    simp only [zek, qk]
    have : zx code p k = (decide ((p : Int) >= (k : Int) - i.D) && decide ((p : Int) <= k)) := by
     rw [Bool.eq_iff_iff, qA hk ho]; simp
    rw [this]
    rfl
   ·rw [if_neg (by simp [ho])]
    have : zx code p k = false := by simp [zx, hk, ho]
    simp [this, ih]
theorem zp3 {code : List zc} (hn : code.length <= 64) (hD : zgt code) (p : Nat) :
  qQ (zeb (lps code code.length) p) (fun (s : Int) => s) (lps code code.length).length 0 1 = some (mn (vF code p code.length)) := by
 have hbound : ∀ (k : Nat) (l : zP), (lps code code.length)[k]? = some l -> 1 <= l.Bound /\ l.Bound <= 255 := by
  intro k l hl
  obtain ⟨q, i, _, h2, h3, rfl⟩ := zei.1 (zmg hl)
  have := hD.loop h2 h3
  simp only [qk]; omega
 rw [<- zgO code p code.length]
 generalize lps code code.length = ls at hbound
 refine OK.is ?_
 refine OK.count (fun (i : Nat) (s : Int) => s = mn (zek p (ls.take i) 1) /\ 1 <= zek p (ls.take i) 1) ⟨by simp [zek, mn], by simp [zek]⟩ ?_ (fun s h => by rw [h.1]; simp)
 intro i s again hi ⟨hs, h1⟩ k
 unfold zeb
 refine OK.bind (OK.getN hi (fun x hx => ?_))
 have hb := hbound i x hx
 have htake : ls.take (i + 1) = ls.take i ++ [x] := by
  rw [List.take_add_one, hx]; rfl
 simp only [ze5, zbs]
 have hmn := zlD (zek p (ls.take i) 1)
 have hs1 : 1 <= s := by rw [hs]; unfold mn; split <;> omega
 refine OK.ite (fun hc => ?_) (fun hc => ?_)
 ·have e1 : w64 (x.Bound + 1) = x.Bound + 1 := zO (by omega) (by omega)
  have m1 : s * (x.Bound + 1) <= 257 * 256 := Int.mul_le_mul (by omega) (by omega) (by omega) (by omega)
  have m0 : 0 <= s * (x.Bound + 1) := Int.mul_nonneg (by omega) (by omega)
  have e2 : w64 (s * (x.Bound + 1)) = s * (x.Bound + 1) := zO (by omega) (by omega)
  rw [e1, e2, zlC]
  refine k _ ⟨?_, ?_⟩
  ·rw [htake, zbe]
   simp only [zek, hc, if_true]
   rw [hs, zpe h1 (by omega)]
  ·rw [htake, zbe]
   simp only [zek, hc, if_true]
   have : 1 * 1 <= zek p (ls.take i) 1 * (x.Bound + 1) := Int.mul_le_mul h1 (by omega) (by omega) (by omega)
   omega
 ·refine k _ ⟨?_, ?_⟩
  ·rw [htake, zbe]
   simp only [zek, hc]
   exact hs
  ·rw [htake, zbe]
   simp only [zek, hc]
   exact h1
theorem zj8 {code : List zc} (hn : code.length <= 64) (hD : zgt code) : zec code = some (mn (zgN code code.length)) := by
 unfold zec
 rw [zhU hn hD]
 simp only [zbs]
 refine OK.is ?_
 refine OK.bind2 (R := fun y => y = mn (zgN code code.length)) ?_ (fun x hx => OK.ret hx)
 refine OK.count (fun (i : Nat) (s : Int) => s = mn (zgN code i)) (by simp [zgN, mn]) ?_ (fun s h => h)
 intro i s again hi hs k
 subst hs
 unfold zgc
 rw [zp3 hn hD i]
 simp only [zbs]
 have h1 := zlD (vF code i code.length)
 have h2 := zlD (zgN code i)
 have h3 := zej hD i code.length
 have h4 := ze9 hD i
 have p1 : 1 <= mn (vF code i code.length) := by unfold mn; split <;> omega
 have p2 : 0 <= mn (zgN code i) := by unfold mn; split <;> omega
 rw [zO (by omega) (by omega), zlC]
 refine k _ ?_
 rw [ziG, zlB (by omega) (by omega)]
end Go.Proofs.YtbmknhpfkpmigaaGreatDoor
