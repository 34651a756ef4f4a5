/- Written by a program (wip/gen) from the translation: what each Go function computes, as a plain Lean function. -/
import Derived.Test.YthljmgepekhchaaLib
namespace Go.Proofs.Ythljmgepekhchaa
open Go.Sx
set_option linter.unusedVariables false

structure kern_task where
  mode_ : Int
  picked : Int

def enc_kern_task (x : kern_task) : List Value := [.int .i64 x.mode_, .int .i64 x.picked]

structure kern_Kern where
  tasks : List kern_task
  turns : Int

structure tappetref21_Kern where
  Mode : List Int
  Picks : List Int

structure tappetlaw21_Op where
  Kind : Int
  Choice : Int
  Tasks : List Int
  Ready : List Bool

def D_tappetlaw21_Op (w : World) (S : List Nat) (x : tappetlaw21_Op) (cs : List Value) : Prop := ∃ h0 h1 : Value, cs = [.int .i64 x.Kind, .int .i64 x.Choice, h0, h1] ∧ Rd w S h0 (encI .i64) 1 x.Tasks ∧ Rd w S h1 encB 1 x.Ready

def kern_New (p0 : Int) : Option ((Option kern_Kern) × Int) :=
  if (decide (p0 < 1) || decide (p0 > 64)) then
    some (none, 2)
  else
    (mkLen p0 16).bind fun m9 =>
    some ((some (kern_Kern.mk (List.replicate m9 (kern_task.mk 0 0)) 0)), 0)

def kern_Kern_turn_l1 (p0 : kern_Kern) (p2 : List Int) (i95 : Nat) (again : Unit → Option (Unit ⊕ (Int × kern_Kern))) (s94 : Unit) : Option (Unit ⊕ (Int × kern_Kern)) :=
  (idx p2 (i95 : Int)).bind fun x104 =>
  if (decide (x104 < 0) || decide (x104 ≥ (((p0.tasks).length) : Int))) then
    some (.inr (2, p0))
  else
    again ()
def kern_Kern_turn_l2 (p0 : kern_Kern) (p2 : List Int) (i245 : Nat) (again : Unit → Option (Unit ⊕ (Int × kern_Kern))) (s244 : Unit) : Option (Unit ⊕ (Int × kern_Kern)) :=
  (idx p2 (i245 : Int)).bind fun x254 =>
  (idx p0.tasks x254).bind fun x265 =>
  if (x265.mode_ == 2) then
    some (.inr (43, p0))
  else
    again ()
def kern_Kern_turn_l3 (p1 : Int) (p2 : List Int) (i434 : Nat) (again : (List kern_task) → Option (List kern_task)) (s432 : (List kern_task)) : Option (List kern_task) :=
  (idx p2 (i434 : Int)).bind fun x446 =>
  (idx s432 x446).bind fun x458 =>
  again (s432.set (Int.toNat x446) (kern_task.mk p1 x458.picked))
def kern_Kern_turn (p0 : kern_Kern) (p1 : Int) (p2 : List Int) : Option (Int × kern_Kern) :=
  (forN (kern_Kern_turn_l1 p0 p2) (fun (s94 : Unit) => (.inl ())) ((p2).length) 0 ()).bind fun o58 => match o58 with
    | .inl t60 =>
      (forN (kern_Kern_turn_l2 p0 p2) (fun (s244 : Unit) => (.inl ())) ((p2).length) 0 ()).bind fun o190 => match o190 with
        | .inl t192 =>
          (forN (kern_Kern_turn_l3 p1 p2) (fun (s432 : (List kern_task)) => s432) ((p2).length) 0 p0.tasks).bind fun o367 =>
          some (0, (kern_Kern.mk o367 p0.turns))
        | .inr r => some r
    | .inr r => some r

def kern_Kern_Wake (p0 : kern_Kern) (p1 : List Int) : Option (Int × kern_Kern) :=
  (kern_Kern_turn p0 1 p1).bind fun r15 =>
  some (r15.1, r15.2)

def kern_Kern_in_l1 (p0 : kern_Kern) (p1 : Int) (i221 : Nat) (again : (List Int) → Option (List Int)) (s219 : (List Int)) : Option (List Int) :=
  (idx p0.tasks (i221 : Int)).bind fun x235 =>
  if (x235.mode_ == p1) then
    (room (s219.length + ([(i221 : Int)]).length) 8).bind fun u255 =>
    again (s219 ++ [(i221 : Int)])
  else
    again s219
def kern_Kern_in (p0 : kern_Kern) (p1 : Int) : Option (List Int) :=
  (forN (kern_Kern_in_l1 p0 p1) (fun (s219 : (List Int)) => s219) ((p0.tasks).length) 0 ([] : List Int)).bind fun o133 =>
  some o133

def kern_Kern_Ready (p0 : kern_Kern) : Option (List Int) :=
  (kern_Kern_in p0 1).bind fun r12 =>
  some r12

def kern_Kern_take (p0 : kern_Kern) (p1 : Int) : Option (Int × Bool × kern_Kern) :=
  (idx p0.tasks p1).bind fun x16 =>
  some (p1, true, (kern_Kern.mk (p0.tasks.set (Int.toNat p1) (kern_task.mk x16.mode_ (w64 (p0.turns + 1)))) (w64 (p0.turns + 1))))

def kern_Kern_Pick (p0 : kern_Kern) (p1 : Int) : Option (Int × Bool × kern_Kern) :=
  (kern_Kern_Ready p0).bind fun r12 =>
  if ((((r12).length) : Int) == 0) then
    some (0, false, p0)
  else
    (nz (((r12).length) : Int)).bind fun u23 =>
    (if decide ((p1.tmod (((r12).length) : Int)) < 0) then
      some (w64 ((p1.tmod (((r12).length) : Int)) + (((r12).length) : Int)))
    else
      some (p1.tmod (((r12).length) : Int))).bind fun o26 =>
    (idx r12 o26).bind fun x42 =>
    (kern_Kern_take p0 x42).bind fun r47 =>
    some (r47.1, r47.2.1, r47.2.2)

def kern_Kern_Fair_l1 (p0 : kern_Kern) (r12 : (List Int)) (i188 : Nat) (again : (Int × Bool) → Option (Int × Bool)) (s187 : Int × Bool) : Option (Int × Bool) :=
  (idx r12 (i188 : Int)).bind fun x196 =>
  (if (!s187.2) then
    some true
  else
    (idx p0.tasks x196).bind fun x221 =>
    (idx p0.tasks s187.1).bind fun x226 =>
    some (decide (x221.picked < x226.picked))).bind fun o216 =>
  if o216 then
    again (x196, true)
  else
    again (s187.1, s187.2)
def kern_Kern_Fair (p0 : kern_Kern) : Option (Int × Bool × kern_Kern) :=
  (kern_Kern_Ready p0).bind fun r12 =>
  (forN (kern_Kern_Fair_l1 p0 r12) (fun (s187 : Int × Bool) => (s187.1, s187.2)) ((r12).length) 0 (0, false)).bind fun o125 =>
  if (!o125.2) then
    some (0, false, p0)
  else
    (kern_Kern_take p0 o125.1).bind fun r241 =>
    some (r241.1, r241.2.1, r241.2.2)

def kern_Kern_Turns (p0 : kern_Kern) : Option Int :=
  some p0.turns

def tappetlaw21_awake  : Option Bool :=
  (kern_New 3).bind fun r32 =>
  ocase r32.1
    (some false)
    (fun k36 =>
    (if (r32.2 != 0) then
      some (k36, true)
    else
      (kern_Kern_Wake k36 ([2, 0])).bind fun r81 =>
      some (r81.2, (r81.1 != 0))).bind fun o75 =>
    if o75.2 then
      some false
    else
      (kern_Kern_Pick o75.1 5).bind fun r102 =>
      (kern_Kern_Fair r102.2.2).bind fun r118 =>
      (if (r102.1 == 2) then
        if r102.2.1 then
          if (r118.1 == 0) then
            if r118.2.1 then
              (kern_Kern_Turns r118.2.2).bind fun r140 =>
              some (r140 == 2)
            else
              some false
          else
            some false
        else
          some false
      else
        some false).bind fun o134 =>
      some o134)

def tappetref21_Kern_Turn_l1 (p0 : tappetref21_Kern) (p2 : List Int) (i213 : Nat) (again : Unit → Option (Unit ⊕ (Int × tappetref21_Kern))) (s212 : Unit) : Option (Unit ⊕ (Int × tappetref21_Kern)) :=
  ((idx p2 (i213 : Int)).bind fun x241 =>
  if decide (x241 < 0) then
    some true
  else
    some (decide (x241 ≥ (((p0.Mode).length) : Int)))).bind fun o237 =>
  if o237 then
    some (.inr (2, p0))
  else
    again ()
def tappetref21_Kern_Turn_l2 (p0 : tappetref21_Kern) (p2 : List Int) (i406 : Nat) (again : Unit → Option (Unit ⊕ (Int × tappetref21_Kern))) (s405 : Unit) : Option (Unit ⊕ (Int × tappetref21_Kern)) :=
  (idx p2 (i406 : Int)).bind fun x424 =>
  (idx p0.Mode x424).bind fun x430 =>
  if (x430 == 2) then
    some (.inr (43, p0))
  else
    again ()
def tappetref21_Kern_Turn_l3 (p1 : Int) (p2 : List Int) (i619 : Nat) (again : (List Int) → Option (List Int)) (s617 : (List Int)) : Option (List Int) :=
  (idx p2 (i619 : Int)).bind fun x641 =>
  (idx s617 x641).bind fun x647 =>
  again (s617.set (Int.toNat x641) p1)
def tappetref21_Kern_Turn (p0 : tappetref21_Kern) (p1 : Int) (p2 : List Int) : Option (Int × tappetref21_Kern) :=
  (forN (tappetref21_Kern_Turn_l1 p0 p2) (fun (s212 : Unit) => (.inl ())) ((p2).length) 0 ()).bind fun o130 => match o130 with
    | .inl t132 =>
      (forN (tappetref21_Kern_Turn_l2 p0 p2) (fun (s405 : Unit) => (.inl ())) ((p2).length) 0 ()).bind fun o343 => match o343 with
        | .inl t345 =>
          (forN (tappetref21_Kern_Turn_l3 p1 p2) (fun (s617 : (List Int)) => s617) ((p2).length) 0 p0.Mode).bind fun o544 =>
          some (0, (tappetref21_Kern.mk o544 p0.Picks))
        | .inr r => some r
    | .inr r => some r

def kern_Kern_Sleep (p0 : kern_Kern) (p1 : List Int) : Option (Int × kern_Kern) :=
  (kern_Kern_turn p0 0 p1).bind fun r15 =>
  some (r15.1, r15.2)

def kern_Kern_End (p0 : kern_Kern) (p1 : List Int) : Option (Int × kern_Kern) :=
  (kern_Kern_turn p0 2 p1).bind fun r15 =>
  some (r15.1, r15.2)

def kern_Kern_Set_l1 (p1 : List Bool) (i253 : Nat) (again : (List kern_task) → Option (List kern_task)) (s251 : (List kern_task)) : Option (List kern_task) :=
  (idx p1 (i253 : Int)).bind fun x265 =>
  (idx s251 (i253 : Int)).bind fun x276 =>
  if (x276.mode_ == 2) then
    again s251
  else
    if x265 then
      again (s251.set (Int.toNat (i253 : Int)) (kern_task.mk 1 x276.picked))
    else
      again (s251.set (Int.toNat (i253 : Int)) (kern_task.mk 0 x276.picked))
def kern_Kern_Set (p0 : kern_Kern) (p1 : List Bool) : Option (Int × kern_Kern) :=
  if ((((p1).length) : Int) != (((p0.tasks).length) : Int)) then
    some (2, p0)
  else
    (forN (kern_Kern_Set_l1 p1) (fun (s251 : (List kern_task)) => s251) ((p1).length) 0 p0.tasks).bind fun o154 =>
    some (0, (kern_Kern.mk o154 p0.turns))

def tappetref21_Kern_Set_l1 (p1 : List Bool) (i276 : Nat) (again : (List Int) → Option (List Int)) (s274 : (List Int)) : Option (List Int) :=
  (idx s274 (i276 : Int)).bind fun x287 =>
  if (x287 == 2) then
    again s274
  else
    (idx p1 (i276 : Int)).bind fun x308 =>
    if x308 then
      (idx (s274.set (Int.toNat (i276 : Int)) 0) (i276 : Int)).bind fun x321 =>
      again ((s274.set (Int.toNat (i276 : Int)) 0).set (Int.toNat (i276 : Int)) 1)
    else
      again (s274.set (Int.toNat (i276 : Int)) 0)
def tappetref21_Kern_Set (p0 : tappetref21_Kern) (p1 : List Bool) : Option (Int × tappetref21_Kern) :=
  if ((((p1).length) : Int) != (((p0.Mode).length) : Int)) then
    some (2, p0)
  else
    (forN (tappetref21_Kern_Set_l1 p1) (fun (s274 : (List Int)) => s274) ((p1).length) 0 p0.Mode).bind fun o169 =>
    some (0, (tappetref21_Kern.mk o169 p0.Picks))

def tappetref21_Kern_In_l1 (p0 : tappetref21_Kern) (p1 : Int) (i194 : Nat) (again : (List Int) → Option (List Int)) (s192 : (List Int)) : Option (List Int) :=
  (idx p0.Mode (i194 : Int)).bind fun x205 =>
  if (x205 == p1) then
    (room (s192.length + ([(i194 : Int)]).length) 8).bind fun u222 =>
    again (s192 ++ [(i194 : Int)])
  else
    again s192
def tappetref21_Kern_In (p0 : tappetref21_Kern) (p1 : Int) : Option (List Int) :=
  (forN (tappetref21_Kern_In_l1 p0 p1) (fun (s192 : (List Int)) => s192) ((p0.Mode).length) 0 ([] : List Int)).bind fun o118 =>
  some o118

def tappetref21_Kern_Pick (p0 : tappetref21_Kern) (p1 : Int) : Option (Int × Bool × tappetref21_Kern) :=
  (tappetref21_Kern_In p0 1).bind fun r15 =>
  if ((((r15).length) : Int) == 0) then
    some (0, false, p0)
  else
    (nz (((r15).length) : Int)).bind fun u26 =>
    (if decide ((p1.tmod (((r15).length) : Int)) < 0) then
      some (w64 ((p1.tmod (((r15).length) : Int)) + (((r15).length) : Int)))
    else
      some (p1.tmod (((r15).length) : Int))).bind fun o29 =>
    (idx r15 o29).bind fun x51 =>
    (room (p0.Picks.length + ([x51]).length) 8).bind fun u58 =>
    some (x51, true, (tappetref21_Kern.mk p0.Mode (p0.Picks ++ [x51])))

def tappetref21_Kern_Fair_l2 (p0 : tappetref21_Kern) (r15 : (List Int)) (i957 : Nat) (again : (Int × Int) → Option Int) (s1104 : Int × Int) : Option Int :=
  if (decide (s1104.2 > 0) && (s1104.1 == 0)) then
    (idx p0.Picks (w64 (s1104.2 - 1))).bind fun x1121 =>
    (idx r15 (i957 : Int)).bind fun x1126 =>
    if (x1121 == x1126) then
      again (s1104.2, w64 (s1104.2 - 1))
    else
      again (s1104.1, w64 (s1104.2 - 1))
  else
    some s1104.1
def tappetref21_Kern_Fair_l1 (fu : Nat) (p0 : tappetref21_Kern) (r15 : (List Int)) (i957 : Nat) (again : (Int × Int) → Option Int) (s956 : Int × Int) : Option Int :=
  (loop (tappetref21_Kern_Fair_l2 p0 r15 i957) fu (0, (((p0.Picks).length) : Int))).bind fun o1045 =>
  if (((i957 : Int) == 0) || decide (o1045 < s956.2)) then
    (idx r15 (i957 : Int)).bind fun x1139 =>
    again (x1139, o1045)
  else
    again (s956.1, s956.2)
def tappetref21_Kern_Fair (fu : Nat) (p0 : tappetref21_Kern) : Option (Int × Bool × tappetref21_Kern) :=
  (tappetref21_Kern_In p0 1).bind fun r15 =>
  if ((((r15).length) : Int) == 0) then
    some (0, false, p0)
  else
    (forN (tappetref21_Kern_Fair_l1 fu p0 r15) (fun (s956 : Int × Int) => s956.1) ((r15).length) 0 (0, 0)).bind fun o583 =>
    (room (p0.Picks.length + ([o583]).length) 8).bind fun u1156 =>
    some (o583, true, (tappetref21_Kern.mk p0.Mode (p0.Picks ++ [o583])))

def tappetlaw21_ints_l1 (p0 : List Int) (p1 : List Int) (i171 : Nat) (again : Unit → Option (Unit ⊕ Bool)) (s170 : Unit) : Option (Unit ⊕ Bool) :=
  (idx p0 (i171 : Int)).bind fun x190 =>
  (idx p1 (i171 : Int)).bind fun x196 =>
  if (x190 != x196) then
    some (.inr false)
  else
    again ()
def tappetlaw21_ints (p0 : List Int) (p1 : List Int) : Option Bool :=
  if ((((p0).length) : Int) != (((p1).length) : Int)) then
    some false
  else
    (forN (tappetlaw21_ints_l1 p0 p1) (fun (s170 : Unit) => (.inl ())) ((p0).length) 0 ()).bind fun o104 => match o104 with
      | .inl t106 =>
        some true
      | .inr r => some r

def kern_Kern_Ended (p0 : kern_Kern) : Option (List Int) :=
  (kern_Kern_in p0 2).bind fun r12 =>
  some r12

def tappetlaw21_KernPlays_l1 (fu : Nat) (p1 : List tappetlaw21_Op) (again : (kern_Kern × tappetref21_Kern × Int) → Option (Unit ⊕ Bool)) (s4229 : kern_Kern × tappetref21_Kern × Int) : Option (Unit ⊕ Bool) :=
  if (decide (s4229.2.2 < (((p1).length) : Int)) && decide (s4229.2.2 < 300)) then
    (idx p1 s4229.2.2).bind fun x4284 =>
    (room (([] : List Int).length + x4284.Tasks.length) 8).bind fun u4335 =>
    (if (x4284.Kind == 0) then
      (kern_Kern_Wake s4229.1 (([] : List Int) ++ x4284.Tasks)).bind fun r4653 =>
      (tappetref21_Kern_Turn s4229.2.1 1 x4284.Tasks).bind fun r4661 =>
      some (r4653.2, r4661.2, (r4653.1 == r4661.1))
    else
      if (x4284.Kind == 1) then
        (kern_Kern_Sleep s4229.1 (([] : List Int) ++ x4284.Tasks)).bind fun r4701 =>
        (tappetref21_Kern_Turn s4229.2.1 0 x4284.Tasks).bind fun r4709 =>
        some (r4701.2, r4709.2, (r4701.1 == r4709.1))
      else
        if (x4284.Kind == 2) then
          (kern_Kern_End s4229.1 (([] : List Int) ++ x4284.Tasks)).bind fun r4749 =>
          (tappetref21_Kern_Turn s4229.2.1 2 x4284.Tasks).bind fun r4757 =>
          some (r4749.2, r4757.2, (r4749.1 == r4757.1))
        else
          if (x4284.Kind == 3) then
            (room (([] : List Bool).length + x4284.Ready.length) 1).bind fun u4808 =>
            (kern_Kern_Set s4229.1 (([] : List Bool) ++ x4284.Ready)).bind fun r4815 =>
            (tappetref21_Kern_Set s4229.2.1 x4284.Ready).bind fun r4823 =>
            some (r4815.2, r4823.2, (r4815.1 == r4823.1))
          else
            if (x4284.Kind == 4) then
              (kern_Kern_Pick s4229.1 x4284.Choice).bind fun r4847 =>
              (tappetref21_Kern_Pick s4229.2.1 x4284.Choice).bind fun r4867 =>
              if (r4847.1 == r4867.1) then
                some (r4847.2.2, r4867.2.2, (r4847.2.1 == r4867.2.1))
              else
                some (r4847.2.2, r4867.2.2, false)
            else
              (kern_Kern_Fair s4229.1).bind fun r4894 =>
              (tappetref21_Kern_Fair fu s4229.2.1).bind fun r4914 =>
              if (r4894.1 == r4914.1) then
                some (r4894.2.2, r4914.2.2, (r4894.2.1 == r4914.2.1))
              else
                some (r4894.2.2, r4914.2.2, false)).bind fun o4626 =>
    (if (!o4626.2.2) then
      some true
    else
      (tappetlaw21_ints (([] : List Int) ++ x4284.Tasks) x4284.Tasks).bind fun r5003 =>
      if (!r5003) then
        some true
      else
        (kern_Kern_Ready o4626.1).bind fun r5008 =>
        (tappetref21_Kern_In o4626.2.1 1).bind fun r5016 =>
        (tappetlaw21_ints r5008 r5016).bind fun r5024 =>
        if (!r5024) then
          some true
        else
          (kern_Kern_Ended o4626.1).bind fun r5029 =>
          (tappetref21_Kern_In o4626.2.1 2).bind fun r5037 =>
          (tappetlaw21_ints r5029 r5037).bind fun r5045 =>
          if (!r5045) then
            some true
          else
            (kern_Kern_Turns o4626.1).bind fun r5050 =>
            some (r5050 != (((o4626.2.1.Picks).length) : Int))).bind fun o4998 =>
    if o4998 then
      some (.inr false)
    else
      again (o4626.1, o4626.2.1, w64 (s4229.2.2 + 1))
  else
    some (.inl ())
def tappetlaw21_KernPlays (fu : Nat) (p0 : Int) (p1 : List tappetlaw21_Op) : Option Bool :=
  tappetlaw21_awake.bind fun r8 =>
  if (!r8) then
    some false
  else
    (kern_New p0).bind fun r44 =>
    ocase r44.1
      (if (decide (p0 < 1) || decide (p0 > 64)) then
        some (r44.2 == 2)
      else
        some false)
      (fun k48 =>
      if (decide (p0 < 1) || decide (p0 > 64)) then
        some false
      else
        if (r44.2 != 0) then
          some false
        else
          (mkLen p0 8).bind fun m84 =>
          (loop (tappetlaw21_KernPlays_l1 fu p1) fu (k48, (tappetref21_Kern.mk (List.replicate m84 0) ([] : List Int)), 0)).bind fun o2573 => match o2573 with
            | .inl t2575 =>
              some true
            | .inr r => some r)

end Go.Proofs.Ythljmgepekhchaa
