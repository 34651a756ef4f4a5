/- Written by a program (wip/gen) from the translation: what each Go function computes, as a plain Lean function. -/
import Derived.Test.YthljmgepekhchaaLib
namespace Go.Proofs.Ythljmgepekhchaa
open Go.Sx

structure kern_task where
  mode_ : Int
  picked : Int

def enc_kern_task (x : kern_task) : List Value := [.int .i64 x.mode_, .int .i64 x.picked]

structure kern_Kern where
  tasks : List kern_task
  turns : Int

structure tappetlaw21_Op where
  Kind : Int
  Choice : Int
  Tasks : List Int
  Ready : List Bool

def D_tappetlaw21_Op (w : World) (S : List Nat) (x : tappetlaw21_Op) (cs : List Value) : Prop := ∃ h0 h1 : Value, cs = [.int .i64 x.Kind, .int .i64 x.Choice, h0, h1] ∧ Rd w S h0 (encI .i64) 1 x.Tasks ∧ Rd w S h1 encB 1 x.Ready

def kern_New (p0 : Int) : Option ((Option kern_Kern) × Int) :=
  if (decide (p0 < 1) || decide (p0 > 64)) then
    some (none, 2)
  else
    (mkLen p0 16).bind fun m9 =>
    some ((some (kern_Kern.mk (List.replicate m9 (kern_task.mk 0 0)) 0)), 0)

def kern_Kern_turn_l1 (p0 : kern_Kern) (p2 : List Int) (i95 : Nat) (again : Unit → Option (Unit ⊕ (Int × kern_Kern))) (s94 : Unit) : Option (Unit ⊕ (Int × kern_Kern)) :=
  (idx p2 (i95 : Int)).bind fun x104 =>
  if (decide (x104 < 0) || decide (x104 ≥ (((p0.tasks).length) : Int))) then
    some (.inr (2, p0))
  else
    again ()
def kern_Kern_turn_l2 (p0 : kern_Kern) (p2 : List Int) (i245 : Nat) (again : Unit → Option (Unit ⊕ (Int × kern_Kern))) (s244 : Unit) : Option (Unit ⊕ (Int × kern_Kern)) :=
  (idx p2 (i245 : Int)).bind fun x254 =>
  (idx p0.tasks x254).bind fun x265 =>
  if (x265.mode_ == 2) then
    some (.inr (43, p0))
  else
    again ()
def kern_Kern_turn_l3 (p1 : Int) (p2 : List Int) (i434 : Nat) (again : (List kern_task) → Option (List kern_task)) (s432 : (List kern_task)) : Option (List kern_task) :=
  (idx p2 (i434 : Int)).bind fun x446 =>
  (idx s432 x446).bind fun x458 =>
  again (s432.set (Int.toNat x446) (kern_task.mk p1 x458.picked))
def kern_Kern_turn (p0 : kern_Kern) (p1 : Int) (p2 : List Int) : Option (Int × kern_Kern) :=
  (forN (kern_Kern_turn_l1 p0 p2) (fun (s94 : Unit) => (.inl ())) ((p2).length) 0 ()).bind fun o58 => match o58 with
    | .inl t60 =>
      (forN (kern_Kern_turn_l2 p0 p2) (fun (s244 : Unit) => (.inl ())) ((p2).length) 0 ()).bind fun o190 => match o190 with
        | .inl t192 =>
          (forN (kern_Kern_turn_l3 p1 p2) (fun (s432 : (List kern_task)) => s432) ((p2).length) 0 p0.tasks).bind fun o367 =>
          some (0, (kern_Kern.mk o367 p0.turns))
        | .inr r => some r
    | .inr r => some r

def kern_Kern_Wake (p0 : kern_Kern) (p1 : List Int) : Option (Int × kern_Kern) :=
  (kern_Kern_turn p0 1 p1).bind fun r15 =>
  some (r15.1, r15.2)

def kern_Kern_in_l1 (p0 : kern_Kern) (p1 : Int) (i221 : Nat) (again : (List Int) → Option (List Int)) (s219 : (List Int)) : Option (List Int) :=
  (idx p0.tasks (i221 : Int)).bind fun x235 =>
  if (x235.mode_ == p1) then
    (room (s219.length + ([(i221 : Int)]).length) 8).bind fun u255 =>
    again (s219 ++ [(i221 : Int)])
  else
    again s219
def kern_Kern_in (p0 : kern_Kern) (p1 : Int) : Option (List Int) :=
  (forN (kern_Kern_in_l1 p0 p1) (fun (s219 : (List Int)) => s219) ((p0.tasks).length) 0 ([] : List Int)).bind fun o133 =>
  some o133

def kern_Kern_Ready (p0 : kern_Kern) : Option (List Int) :=
  (kern_Kern_in p0 1).bind fun r12 =>
  some r12

def kern_Kern_take (p0 : kern_Kern) (p1 : Int) : Option (Int × Bool × kern_Kern) :=
  (idx p0.tasks p1).bind fun x16 =>
  some (p1, true, (kern_Kern.mk (p0.tasks.set (Int.toNat p1) (kern_task.mk x16.mode_ (w64 (p0.turns + 1)))) (w64 (p0.turns + 1))))

def kern_Kern_Pick (p0 : kern_Kern) (p1 : Int) : Option (Int × Bool × kern_Kern) :=
  (kern_Kern_Ready p0).bind fun r12 =>
  if ((((r12).length) : Int) == 0) then
    some (0, false, p0)
  else
    (nz (((r12).length) : Int)).bind fun u23 =>
    (if decide ((p1.tmod (((r12).length) : Int)) < 0) then
      some (w64 ((p1.tmod (((r12).length) : Int)) + (((r12).length) : Int)))
    else
      some (p1.tmod (((r12).length) : Int))).bind fun o26 =>
    (idx r12 o26).bind fun x42 =>
    (kern_Kern_take p0 x42).bind fun r47 =>
    some (r47.1, r47.2.1, r47.2.2)

def kern_Kern_Fair_l1 (p0 : kern_Kern) (r12 : (List Int)) (i188 : Nat) (again : (Int × Bool) → Option (Int × Bool)) (s187 : Int × Bool) : Option (Int × Bool) :=
  (idx r12 (i188 : Int)).bind fun x196 =>
  (if (!s187.2) then
    some true
  else
    (idx p0.tasks x196).bind fun x221 =>
    (idx p0.tasks s187.1).bind fun x226 =>
    some (decide (x221.picked < x226.picked))).bind fun o216 =>
  if o216 then
    again (x196, true)
  else
    again (s187.1, s187.2)
def kern_Kern_Fair (p0 : kern_Kern) : Option (Int × Bool × kern_Kern) :=
  (kern_Kern_Ready p0).bind fun r12 =>
  (forN (kern_Kern_Fair_l1 p0 r12) (fun (s187 : Int × Bool) => (s187.1, s187.2)) ((r12).length) 0 (0, false)).bind fun o125 =>
  if (!o125.2) then
    some (0, false, p0)
  else
    (kern_Kern_take p0 o125.1).bind fun r241 =>
    some (r241.1, r241.2.1, r241.2.2)

def kern_Kern_Turns (p0 : kern_Kern) : Option Int :=
  some p0.turns

def tappetlaw21_awake  : Option Bool :=
  (kern_New 3).bind fun r32 =>
  ocase r32.1
    (some false)
    (fun k36 =>
    (if (r32.2 != 0) then
      some (k36, true)
    else
      (kern_Kern_Wake k36 ([2, 0])).bind fun r81 =>
      some (r81.2, (r81.1 != 0))).bind fun o75 =>
    if o75.2 then
      some false
    else
      (kern_Kern_Pick o75.1 5).bind fun r102 =>
      (kern_Kern_Fair r102.2.2).bind fun r118 =>
      (if (r102.1 == 2) then
        if r102.2.1 then
          if (r118.1 == 0) then
            if r118.2.1 then
              (kern_Kern_Turns r118.2.2).bind fun r140 =>
              some (r140 == 2)
            else
              some false
          else
            some false
        else
          some false
      else
        some false).bind fun o134 =>
      some o134)

def kern_Kern_Sleep (p0 : kern_Kern) (p1 : List Int) : Option (Int × kern_Kern) :=
  (kern_Kern_turn p0 0 p1).bind fun r15 =>
  some (r15.1, r15.2)

def kern_Kern_End (p0 : kern_Kern) (p1 : List Int) : Option (Int × kern_Kern) :=
  (kern_Kern_turn p0 2 p1).bind fun r15 =>
  some (r15.1, r15.2)

def kern_Kern_Ended (p0 : kern_Kern) : Option (List Int) :=
  (kern_Kern_in p0 2).bind fun r12 =>
  some r12

def tappetlaw21_KernFair_l1 (p1 : List tappetlaw21_Op) (i943 : Nat) (again : kern_Kern → Option kern_Kern) (s941 : kern_Kern) : Option kern_Kern :=
  (idx p1 (i943 : Int)).bind fun x989 =>
  if (x989.Kind == 0) then
    (kern_Kern_Wake s941 x989.Tasks).bind fun r1038 =>
    again r1038.2
  else
    if (x989.Kind == 1) then
      (kern_Kern_Sleep s941 x989.Tasks).bind fun r1056 =>
      again r1056.2
    else
      if (x989.Kind == 2) then
        (kern_Kern_End s941 x989.Tasks).bind fun r1074 =>
        again r1074.2
      else
        if (x989.Kind == 4) then
          (kern_Kern_Pick s941 x989.Choice).bind fun r1092 =>
          again r1092.2.2
        else
          (kern_Kern_Fair s941).bind fun r1109 =>
          again r1109.2.2
def tappetlaw21_KernFair_l3 (r9736 : (List Int)) (r9752 : Int × Bool × kern_Kern) (i9815 : Nat) (again : Bool → Option Bool) (s9814 : Bool) : Option Bool :=
  if s9814 then
    again true
  else
    (idx r9736 (i9815 : Int)).bind fun x9819 =>
    again (x9819 == r9752.1)
def tappetlaw21_KernFair_l4 (p1 : List tappetlaw21_Op) (p2 : Int) (s9722 : kern_Kern × Bool × Int) (again : (kern_Kern × Int) → Option kern_Kern) (s11164 : kern_Kern × Int) : Option kern_Kern :=
  (idx p1 s9722.2.2).bind fun x11206 =>
  if decide (s11164.2 < (((x11206.Tasks).length) : Int)) then
    (idx x11206.Tasks s11164.2).bind fun x11320 =>
    if (x11320 != p2) then
      (kern_Kern_Wake s11164.1 ([x11320])).bind fun r11417 =>
      again (r11417.2, w64 (s11164.2 + 1))
    else
      again (s11164.1, w64 (s11164.2 + 1))
  else
    some s11164.1
def tappetlaw21_KernFair_l2 (fu : Nat) (p0 : Int) (p1 : List tappetlaw21_Op) (p2 : Int) (again : (kern_Kern × Bool × Int) → Option (Bool ⊕ Bool)) (s9722 : kern_Kern × Bool × Int) : Option (Bool ⊕ Bool) :=
  if decide (s9722.2.2 < p0) then
    (kern_Kern_Ready s9722.1).bind fun r9736 =>
    (kern_Kern_Fair s9722.1).bind fun r9752 =>
    (forN (tappetlaw21_KernFair_l3 r9736 r9752) (fun (s9814 : Bool) => s9814) ((r9736).length) 0 false).bind fun o9791 =>
    if ((!r9752.2.1) || (!o9791)) then
      some (.inr false)
    else
      if (decide (s9722.2.2 < (((p1).length) : Int)) && (r9752.1 != p2)) then
        (kern_Kern_Sleep r9752.2.2 ([r9752.1])).bind fun r9841 =>
        (loop (tappetlaw21_KernFair_l4 p1 p2 s9722) fu (r9841.2, 0)).bind fun o10637 =>
        again (o10637, (s9722.2.1 || (r9752.1 == p2)), w64 (s9722.2.2 + 1))
      else
        again (r9752.2.2, (s9722.2.1 || (r9752.1 == p2)), w64 (s9722.2.2 + 1))
  else
    some (.inl s9722.2.1)
def tappetlaw21_KernFair (fu : Nat) (p0 : Int) (p1 : List tappetlaw21_Op) (p2 : Int) : Option Bool :=
  tappetlaw21_awake.bind fun r8 =>
  if (!r8) then
    some false
  else
    (kern_New p0).bind fun r44 =>
    ocase r44.1
      (some (r44.2 == 2))
      (fun k48 =>
      if (r44.2 != 0) then
        some false
      else
        (forN (tappetlaw21_KernFair_l1 p1) (fun (s941 : kern_Kern) => s941) ((p1).length) 0 k48).bind fun o596 =>
        (kern_Kern_Wake o596 ([p2])).bind fun r1135 =>
        if (r1135.1 != 0) then
          (if decide (p2 < 0) then
            some true
          else
            if decide (p2 ≥ p0) then
              some true
            else
              (kern_Kern_Ended r1135.2).bind fun r1158 =>
              some (decide ((((r1158).length) : Int) > 0))).bind fun o1154 =>
          some o1154
        else
          (loop (tappetlaw21_KernFair_l2 fu p0 p1 p2) fu (r1135.2, false, 0)).bind fun o6299 => match o6299 with
            | .inl t6301 =>
              some t6301
            | .inr r => some r)

def kern_Kern_Set_l1 (p1 : List Bool) (i253 : Nat) (again : (List kern_task) → Option (List kern_task)) (s251 : (List kern_task)) : Option (List kern_task) :=
  (idx p1 (i253 : Int)).bind fun x265 =>
  (idx s251 (i253 : Int)).bind fun x276 =>
  if (x276.mode_ == 2) then
    again s251
  else
    if x265 then
      again (s251.set (Int.toNat (i253 : Int)) (kern_task.mk 1 x276.picked))
    else
      again (s251.set (Int.toNat (i253 : Int)) (kern_task.mk 0 x276.picked))
def kern_Kern_Set (p0 : kern_Kern) (p1 : List Bool) : Option (Int × kern_Kern) :=
  if ((((p1).length) : Int) != (((p0.tasks).length) : Int)) then
    some (2, p0)
  else
    (forN (kern_Kern_Set_l1 p1) (fun (s251 : (List kern_task)) => s251) ((p1).length) 0 p0.tasks).bind fun o154 =>
    some (0, (kern_Kern.mk o154 p0.turns))

def tappetlaw21_KernPicks_l1 (p1 : List Bool) (r139 : (List Int)) (i305 : Nat) (again : Int → Option (Int ⊕ Bool)) (s304 : Int) : Option (Int ⊕ Bool) :=
  (idx p1 (i305 : Int)).bind fun x314 =>
  if x314 then
    (if decide (s304 ≥ (((r139).length) : Int)) then
      some true
    else
      (idx r139 s304).bind fun x330 =>
      some (x330 != (i305 : Int))).bind fun o327 =>
    if o327 then
      some (.inr false)
    else
      again (w64 (s304 + 1))
  else
    again s304
def tappetlaw21_KernPicks_l2 (r139 : (List Int)) (t242 : Int) (again : (kern_Kern × Int) → Option (kern_Kern ⊕ Bool)) (s687 : kern_Kern × Int) : Option (kern_Kern ⊕ Bool) :=
  if decide (s687.2 < t242) then
    (kern_Kern_Pick s687.1 s687.2).bind fun r701 =>
    (kern_Kern_Pick r701.2.2 (w64 (s687.2 - t242))).bind fun r717 =>
    ((idx r139 s687.2).bind fun x743 =>
    if (r701.1 != x743) then
      some true
    else
      if (!r701.2.1) then
        some true
      else
        if (r717.1 != x743) then
          some true
        else
          some (!r717.2.1)).bind fun o741 =>
    if o741 then
      some (.inr false)
    else
      again (r717.2.2, w64 (s687.2 + 1))
  else
    some (.inl s687.1)
def tappetlaw21_KernPicks_l3 (t242 : Int) (again : ((List Int) × Int) → Option (List Int)) (s879 : (List Int) × Int) : Option (List Int) :=
  if decide (s879.2 < t242) then
    (idx s879.1 s879.2).bind fun x891 =>
    again ((s879.1.set (Int.toNat s879.2) (-3)), w64 (s879.2 + 1))
  else
    some s879.1
def tappetlaw21_KernPicks (fu : Nat) (p0 : Int) (p1 : List Bool) (p2 : Int) : Option Bool :=
  tappetlaw21_awake.bind fun r8 =>
  if (!r8) then
    some false
  else
    (kern_New p0).bind fun r44 =>
    ocase r44.1
      (some (r44.2 == 2))
      (fun k48 =>
      if (r44.2 != 0) then
        some false
      else
        (room (([] : List Bool).length + p1.length) 1).bind fun u95 =>
        (kern_Kern_Set k48 (([] : List Bool) ++ p1)).bind fun r102 =>
        if (r102.1 != 0) then
          (if ((((p1).length) : Int) != p0) then
            (kern_Kern_Ready r102.2).bind fun r123 =>
            some ((((r123).length) : Int) == 0)
          else
            some false).bind fun o120 =>
          some o120
        else
          (kern_Kern_Ready r102.2).bind fun r139 =>
          (forN (tappetlaw21_KernPicks_l1 p1 r139) (fun (s304 : Int) => (.inl s304)) ((p1).length) 0 0).bind fun o240 => match o240 with
            | .inl t242 =>
              if (t242 != (((r139).length) : Int)) then
                some false
              else
                (loop (tappetlaw21_KernPicks_l2 r139 t242) fu (r102.2, 0)).bind fun o545 => match o545 with
                  | .inl t547 =>
                    (kern_Kern_Pick t547 p2).bind fun r769 =>
                    if ((!(r769.2.1 == decide (t242 > 0))) || ((t242 == 0) && (r769.1 != 0))) then
                      some false
                    else
                      (loop (tappetlaw21_KernPicks_l3 t242) fu (r139, 0)).bind fun o838 =>
                      (room (o838.length + ([1]).length) 8).bind fun u914 =>
                      (if decide (t242 > 0) then
                        some 1
                      else
                        some 0).bind fun o922 =>
                      ((kern_Kern_Ready r769.2.2).bind fun r949 =>
                      if ((((r949).length) : Int) == t242) then
                        if (((((o838 ++ [1])).length) : Int) == (w64 (t242 + 1))) then
                          (kern_Kern_Turns r769.2.2).bind fun r959 =>
                          some (r959 == (w64 ((w64 (2 * t242)) + o922)))
                        else
                          some false
                      else
                        some false).bind fun o947 =>
                      some o947
                  | .inr r => some r
            | .inr r => some r)

def tappetlaw21_KernAgain_l1 (r202 : (List Int)) (again : (kern_Kern × Int) → Option (Unit ⊕ Bool)) (s423 : kern_Kern × Int) : Option (Unit ⊕ Bool) :=
  if decide (s423.2 < (w64 (3 * (((r202).length) : Int)))) then
    (kern_Kern_Fair s423.1).bind fun r437 =>
    (if (!r437.2.1) then
      some true
    else
      (nz (((r202).length) : Int)).bind fun u456 =>
      (idx r202 (s423.2.tmod (((r202).length) : Int))).bind fun x458 =>
      some (r437.1 != x458)).bind fun o453 =>
    if o453 then
      some (.inr false)
    else
      again (r437.2.2, w64 (s423.2 + 1))
  else
    some (.inl ())
def tappetlaw21_KernAgain (fu : Nat) (p0 : Int) (p1 : List Bool) (p2 : Int) : Option Bool :=
  tappetlaw21_awake.bind fun r8 =>
  if (!r8) then
    some false
  else
    (kern_New p0).bind fun r44 =>
    ocase r44.1
      ((kern_New p0).bind fun r553 =>
      ocase r553.1
        (some ((r44.2 == 2) && (r553.2 == 2)))
        (fun k557 =>
        some false))
      (fun k48 =>
      (kern_New p0).bind fun r106 =>
      ocase r106.1
        (some false)
        (fun k110 =>
        ((kern_Kern_Set k48 p1).bind fun r166 =>
        if (r166.1 != 0) then
          some (r166.2, k110, true)
        else
          (kern_Kern_Set k110 p1).bind fun r177 =>
          some (r166.2, r177.2, (r177.1 != 0))).bind fun o164 =>
        if o164.2.2 then
          some ((((p1).length) : Int) != p0)
        else
          (kern_Kern_Ready o164.1).bind fun r202 =>
          if ((((r202).length) : Int) == 0) then
            some true
          else
            (loop (tappetlaw21_KernAgain_l1 r202) fu (o164.1, 0)).bind fun o337 => match o337 with
              | .inl t339 =>
                (nz (((r202).length) : Int)).bind fun u468 =>
                (kern_Kern_Pick o164.2.1 p2).bind fun r478 =>
                (kern_Kern_Pick r478.2.2 (p2.tmod (((r202).length) : Int))).bind fun r494 =>
                (kern_Kern_Pick r494.2.2 (w64 ((p2.tmod (((r202).length) : Int)) + (((r202).length) : Int)))).bind fun r510 =>
                some ((((r478.2.1 && r494.2.1) && r510.2.1) && (r478.1 == r494.1)) && (r494.1 == r510.1))
              | .inr r => some r))

end Go.Proofs.Ythljmgepekhchaa
