/- Written by a program (wip/gen) from the translation: what each Go function computes, as a plain Lean function. -/
import Derived.Test.YtjhmkpklhajpcaaDoorExt
namespace Go.Proofs.YtjhmkpklhajpcaaDoor
open Go.Sx
set_option linter.unusedVariables false

structure api_Inst where
  Op : Int
  D : Int
  A : Int
  B : Int
  Imm : Int

def enc_api_Inst (x : api_Inst) : List Value := [.int .i64 x.Op, .int .i64 x.D, .int .i64 x.A, .int .i64 x.B, .int .i64 x.Imm]

structure ops_form where
  name : ByteArray
  fields : ByteArray

def enc_ops_form (x : ops_form) : List Value := [.string x.name, .string x.fields]

def tab_g0 : List ops_form := [(ops_form.mk (⟨[115, 101, 116].toArray⟩) (⟨[100, 115].toArray⟩)),
  (ops_form.mk (⟨[97, 100, 100].toArray⟩) (⟨[100, 97, 115].toArray⟩)),
  (ops_form.mk (⟨[115, 117, 98].toArray⟩) (⟨[100, 97, 115].toArray⟩)),
  (ops_form.mk (⟨[109, 117, 108].toArray⟩) (⟨[100, 97, 115].toArray⟩)),
  (ops_form.mk (⟨[100, 105, 118].toArray⟩) (⟨[100, 97, 115].toArray⟩)),
  (ops_form.mk (⟨[114, 101, 109].toArray⟩) (⟨[100, 97, 115].toArray⟩)),
  (ops_form.mk (⟨[97, 110, 100].toArray⟩) (⟨[100, 97, 115].toArray⟩)),
  (ops_form.mk (⟨[111, 114].toArray⟩) (⟨[100, 97, 115].toArray⟩)),
  (ops_form.mk (⟨[120, 111, 114].toArray⟩) (⟨[100, 97, 115].toArray⟩)),
  (ops_form.mk (⟨[115, 104, 108].toArray⟩) (⟨[100, 97, 115].toArray⟩)),
  (ops_form.mk (⟨[115, 104, 114].toArray⟩) (⟨[100, 97, 115].toArray⟩)),
  (ops_form.mk (⟨[108, 111, 97, 100].toArray⟩) (⟨[100, 115].toArray⟩)),
  (ops_form.mk (⟨[115, 116, 111, 114, 101].toArray⟩) (⟨[97, 115].toArray⟩)),
  (ops_form.mk (⟨[102, 105, 101, 108, 100].toArray⟩) (⟨[100, 102].toArray⟩)),
  (ops_form.mk (⟨[109, 97, 112].toArray⟩) (⟨[100, 109].toArray⟩)),
  (ops_form.mk (⟨[106, 117, 109, 112].toArray⟩) (⟨[106].toArray⟩)),
  (ops_form.mk (⟨[106, 101, 113].toArray⟩) (⟨[106, 97, 115].toArray⟩)),
  (ops_form.mk (⟨[106, 110, 101].toArray⟩) (⟨[106, 97, 115].toArray⟩)),
  (ops_form.mk (⟨[106, 108, 116].toArray⟩) (⟨[106, 97, 115].toArray⟩)),
  (ops_form.mk (⟨[106, 103, 101].toArray⟩) (⟨[106, 97, 115].toArray⟩)),
  (ops_form.mk (⟨[108, 111, 111, 112].toArray⟩) (⟨[98, 97, 110].toArray⟩)),
  (ops_form.mk (⟨[99, 97, 108, 108].toArray⟩) (⟨[104].toArray⟩)),
  (ops_form.mk (⟨[101, 120, 105, 116].toArray⟩) (⟨[97].toArray⟩))]

structure api_Loop where
  Head : Int
  At : Int
  Bound : Int

def enc_api_Loop (x : api_Loop) : List Value := [.int .i64 x.Head, .int .i64 x.At, .int .i64 x.Bound]

def R_t41 : Rp (List Int) := rowP 3 (encInt .i64) 1 (fun _ => rfl) (by decide)

def tappetlaw07_loop  : Option (List api_Inst) :=
  some ([(api_Inst.mk 0 1 0 8 9), (api_Inst.mk 2 1 1 8 1), (api_Inst.mk 20 1 1 0 5), (api_Inst.mk 22 0 1 0 0)])

def ops_of (p0 : Int) : Option (ops_form × Bool) :=
  if (decide (p0 < 0) || decide (p0 ≥ 23)) then
    some ((ops_form.mk ByteArray.empty ByteArray.empty), false)
  else
    (idx tab_g0 p0).bind fun x12 =>
    some (x12, true)

def ops_register (p0 : Int) : Option Bool :=
  some (decide (p0 ≥ 0) && decide (p0 < 8))

def ops_within (p0 : Int) (p1 : Int) (p2 : Int) : Option Bool :=
  some (decide (p0 ≥ p1) && decide (p0 ≤ p2))

def ops_right_l1 (p0 : api_Inst) (r12 : ops_form × Bool) (i610 : Nat) (again : (Bool × api_Inst) → Option (Bool × api_Inst)) (s609 : Bool × api_Inst) : Option (Bool × api_Inst) :=
  (sidx r12.1.fields (i610 : Int)).bind fun c617 =>
  if (c617 == 100) then
    if s609.1 then
      (ops_register p0.D).bind fun r621 =>
      again (r621, (api_Inst.mk s609.2.Op 0 s609.2.A s609.2.B s609.2.Imm))
    else
      again (false, (api_Inst.mk s609.2.Op 0 s609.2.A s609.2.B s609.2.Imm))
  else
    if (c617 == 97) then
      if s609.1 then
        (ops_register p0.A).bind fun r629 =>
        again (r629, (api_Inst.mk s609.2.Op s609.2.D 0 s609.2.B s609.2.Imm))
      else
        again (false, (api_Inst.mk s609.2.Op s609.2.D 0 s609.2.B s609.2.Imm))
    else
      if (c617 == 115) then
        if (p0.B == 8) then
          again (s609.1, (api_Inst.mk s609.2.Op s609.2.D s609.2.A 0 0))
        else
          if s609.1 then
            (ops_register p0.B).bind fun r642 =>
            again (r642, (api_Inst.mk s609.2.Op s609.2.D s609.2.A 0 s609.2.Imm))
          else
            again (false, (api_Inst.mk s609.2.Op s609.2.D s609.2.A 0 s609.2.Imm))
      else
        if (c617 == 102) then
          if s609.1 then
            (ops_within p0.Imm 0 1).bind fun r648 =>
            again (r648, (api_Inst.mk s609.2.Op s609.2.D s609.2.A s609.2.B 0))
          else
            again (false, (api_Inst.mk s609.2.Op s609.2.D s609.2.A s609.2.B 0))
        else
          if (c617 == 109) then
            if s609.1 then
              (ops_within p0.Imm 0 3).bind fun r656 =>
              again (r656, (api_Inst.mk s609.2.Op s609.2.D s609.2.A s609.2.B 0))
            else
              again (false, (api_Inst.mk s609.2.Op s609.2.D s609.2.A s609.2.B 0))
          else
            if (c617 == 104) then
              if s609.1 then
                (ops_within p0.Imm 0 6).bind fun r664 =>
                again (r664, (api_Inst.mk s609.2.Op s609.2.D s609.2.A s609.2.B 0))
              else
                again (false, (api_Inst.mk s609.2.Op s609.2.D s609.2.A s609.2.B 0))
            else
              if (c617 == 110) then
                if s609.1 then
                  (ops_within p0.Imm 1 255).bind fun r672 =>
                  again (r672, (api_Inst.mk s609.2.Op s609.2.D s609.2.A s609.2.B 0))
                else
                  again (false, (api_Inst.mk s609.2.Op s609.2.D s609.2.A s609.2.B 0))
              else
                if (c617 == 106) then
                  if s609.1 then
                    (ops_within p0.D 0 63).bind fun r680 =>
                    again (r680, (api_Inst.mk s609.2.Op 0 s609.2.A s609.2.B s609.2.Imm))
                  else
                    again (false, (api_Inst.mk s609.2.Op 0 s609.2.A s609.2.B s609.2.Imm))
                else
                  if (c617 == 98) then
                    if s609.1 then
                      (ops_within p0.D 1 63).bind fun r688 =>
                      again (r688, (api_Inst.mk s609.2.Op 0 s609.2.A s609.2.B s609.2.Imm))
                    else
                      again (false, (api_Inst.mk s609.2.Op 0 s609.2.A s609.2.B s609.2.Imm))
                  else
                    again (s609.1, s609.2)
def ops_right (p0 : api_Inst) : Option Bool :=
  (ops_of p0.Op).bind fun r12 =>
  if (!r12.2) then
    some false
  else
    ((room r12.1.fields.size 1).bind fun u612 =>
    forN (ops_right_l1 p0 r12) (fun (s609 : Bool × api_Inst) => (s609.1, s609.2)) r12.1.fields.size 0 (r12.2, (api_Inst.mk 0 p0.D p0.A p0.B p0.Imm))).bind fun o364 =>
    (if o364.1 then
      some ((o364.2.Op == 0) && ((o364.2.D == 0) && ((o364.2.A == 0) && ((o364.2.B == 0) && ((o364.2.Imm == 0) && true)))))
    else
      some false).bind fun o695 =>
    some o695

def ops_form_uses_l1 (p0 : ops_form) (p1 : Int) (i50 : Nat) (again : Unit → Option (Unit ⊕ Bool)) (s49 : Unit) : Option (Unit ⊕ Bool) :=
  (sidx p0.fields (i50 : Int)).bind fun c57 =>
  if (c57 == p1) then
    some (.inr true)
  else
    again ()
def ops_form_uses (p0 : ops_form) (p1 : Int) : Option Bool :=
  ((room p0.fields.size 1).bind fun u52 =>
  forN (ops_form_uses_l1 p0 p1) (fun (s49 : Unit) => (.inl ())) p0.fields.size 0 ()).bind fun o31 => match o31 with
    | .inl t33 =>
      some false
    | .inr r => some r

def ops_Goes (p0 : api_Inst) : Option (Int × Bool × Bool) :=
  (ops_right p0).bind fun r9 =>
  if (!r9) then
    some (0, false, false)
  else
    (ops_of p0.Op).bind fun r21 =>
    (ops_form_uses r21.1 106).bind fun r32 =>
    if r32 then
      some (w64 (p0.D + 1), true, (p0.Op != 15))
    else
      (ops_form_uses r21.1 98).bind fun r45 =>
      if r45 then
        some (w64 (0 - p0.D), true, true)
      else
        some (0, false, (p0.Op != 22))

def ops_Right_l1 (p0 : List api_Inst) (i157 : Nat) (again : Unit → Option (Unit ⊕ Bool)) (s156 : Unit) : Option (Unit ⊕ Bool) :=
  (idx p0 (i157 : Int)).bind fun x169 =>
  (ops_right x169).bind fun r182 =>
  if (!r182) then
    some (.inr false)
  else
    again ()
def ops_Right (p0 : List api_Inst) : Option Bool :=
  (forN (ops_Right_l1 p0) (fun (s156 : Unit) => (.inl ())) ((p0).length) 0 ()).bind fun o94 => match o94 with
    | .inl t96 =>
      some true
    | .inr r => some r

def flow_places_l1 (p0 : List api_Inst) (i242 : Nat) (again : Unit → Option (Unit ⊕ (Int × Int))) (s241 : Unit) : Option (Unit ⊕ (Int × Int)) :=
  (idx p0 (i242 : Int)).bind fun x254 =>
  (ops_Goes x254).bind fun r267 =>
  (ops_Right ([x254])).bind fun r279 =>
  if (!r279) then
    some (.inr ((i242 : Int), 12))
  else
    if (r267.2.1 && (decide ((w64 ((i242 : Int) + r267.1)) < 0) || decide ((w64 ((i242 : Int) + r267.1)) ≥ (((p0).length) : Int)))) then
      some (.inr ((i242 : Int), 30))
    else
      if (r267.2.2 && ((i242 : Int) == (w64 ((((p0).length) : Int) - 1)))) then
        some (.inr ((i242 : Int), 36))
      else
        again ()
def flow_places (p0 : List api_Inst) : Option (Int × Int) :=
  (forN (flow_places_l1 p0) (fun (s241 : Unit) => (.inl ())) ((p0).length) 0 ()).bind fun o145 => match o145 with
    | .inl t147 =>
      some (0, 0)
    | .inr r => some r

def flow_loops_l1 (p0 : List api_Inst) (i231 : Nat) (again : (List api_Loop) → Option (List api_Loop)) (s229 : (List api_Loop)) : Option (List api_Loop) :=
  (idx p0 (i231 : Int)).bind fun x246 =>
  if (x246.Op == 20) then
    (room (s229.length + ([(api_Loop.mk (w64 ((i231 : Int) - x246.D)) (i231 : Int) x246.Imm)]).length) 24).bind fun u267 =>
    again (s229 ++ [(api_Loop.mk (w64 ((i231 : Int) - x246.D)) (i231 : Int) x246.Imm)])
  else
    again s229
def flow_loops (p0 : List api_Inst) : Option (List api_Loop) :=
  (forN (flow_loops_l1 p0) (fun (s229 : (List api_Loop)) => s229) ((p0).length) 0 ([] : List api_Loop)).bind fun o139 =>
  some o139

def flow_in (p0 : api_Loop) (p1 : Int) : Option Bool :=
  some (decide (p1 ≥ p0.Head) && decide (p1 ≤ p0.At))

def flow_nested_l2 (x914 : api_Loop) (ys924 : List api_Loop) (i1054 : Nat) (again : Unit → Option (Unit ⊕ (Int × Int))) (s1053 : Unit) : Option (Unit ⊕ (Int × Int)) :=
  (idx ys924 (i1054 : Int)).bind fun x1067 =>
  if (decide (x1067.At ≥ x914.Head) && decide (x1067.Head < x914.Head)) then
    some (.inr (x914.At, 31))
  else
    again ()
def flow_nested_l1 (r12 : (List api_Loop)) (i903 : Nat) (again : Unit → Option (Unit ⊕ (Int × Int))) (s902 : Unit) : Option (Unit ⊕ (Int × Int)) :=
  (idx r12 (i903 : Int)).bind fun x914 =>
  (cut r12 0 (i903 : Int)).bind fun ys924 =>
  (forN (flow_nested_l2 x914 ys924) (fun (s1053 : Unit) => (.inl ())) ((ys924).length) 0 ()).bind fun o1001 => match o1001 with
    | .inl t1003 =>
      again ()
    | .inr r => some (.inr r)
def flow_nested_l4 (r12 : (List api_Loop)) (i2622 : Nat) (r2647 : Int × Bool × Bool) (i2884 : Nat) (again : Unit → Option (Unit ⊕ (Int × Int))) (s2883 : Unit) : Option (Unit ⊕ (Int × Int)) :=
  (idx r12 (i2884 : Int)).bind fun x2895 =>
  (if r2647.2.1 then
    if decide (r2647.1 > 0) then
      (flow_in x2895 (i2622 : Int)).bind fun r2919 =>
      if (!r2919) then
        (flow_in x2895 (w64 ((i2622 : Int) + r2647.1))).bind fun r2924 =>
        if r2924 then
          some ((w64 ((i2622 : Int) + r2647.1)) != x2895.Head)
        else
          some false
      else
        some false
    else
      some false
  else
    some false).bind fun o2915 =>
  if o2915 then
    some (.inr ((i2622 : Int), 31))
  else
    again ()
def flow_nested_l3 (p0 : List api_Inst) (r12 : (List api_Loop)) (i2622 : Nat) (again : Unit → Option (Unit ⊕ (Int × Int))) (s2621 : Unit) : Option (Unit ⊕ (Int × Int)) :=
  (idx p0 (i2622 : Int)).bind fun x2634 =>
  (ops_Goes x2634).bind fun r2647 =>
  (forN (flow_nested_l4 r12 i2622 r2647) (fun (s2883 : Unit) => (.inl ())) ((r12).length) 0 ()).bind fun o2789 => match o2789 with
    | .inl t2791 =>
      again ()
    | .inr r => some (.inr r)
def flow_nested (p0 : List api_Inst) : Option (Int × Int) :=
  (flow_loops p0).bind fun r12 =>
  (forN (flow_nested_l1 r12) (fun (s902 : Unit) => (.inl ())) ((r12).length) 0 ()).bind fun o548 => match o548 with
    | .inl t550 =>
      (forN (flow_nested_l3 p0 r12) (fun (s2621 : Unit) => (.inl ())) ((p0).length) 0 ()).bind fun o2003 => match o2003 with
        | .inl t2005 =>
          some (0, 0)
        | .inr r => some r
    | .inr r => some r

def flow_cost_l2 (r12 : (List api_Loop)) (i887 : Nat) (i1032 : Nat) (again : Int → Option Int) (s1031 : Int) : Option Int :=
  (idx r12 (i1032 : Int)).bind fun x1043 =>
  (flow_in x1043 (i887 : Int)).bind fun r1055 =>
  if r1055 then
    again (imin (w64 (s1031 * (w64 (x1043.Bound + 1)))) 257)
  else
    again s1031
def flow_cost_l1 (r12 : (List api_Loop)) (i887 : Nat) (again : Int → Option Int) (s886 : Int) : Option Int :=
  (forN (flow_cost_l2 r12 i887) (fun (s1031 : Int) => s1031) ((r12).length) 0 1).bind fun o974 =>
  again (imin (w64 (s886 + o974)) 257)
def flow_cost (p0 : List api_Inst) : Option Int :=
  (flow_loops p0).bind fun r12 =>
  (forN (flow_cost_l1 r12) (fun (s886 : Int) => s886) ((p0).length) 0 0).bind fun o539 =>
  some o539

def flow_Check (p0 : List api_Inst) : Option (Int × Int) :=
  if ((((p0).length) : Int) == 0) then
    some (0, 10)
  else
    if decide ((((p0).length) : Int) > 64) then
      some (0, 11)
    else
      (flow_places p0).bind fun r10 =>
      if (r10.2 != 0) then
        some (r10.1, r10.2)
      else
        (flow_nested p0).bind fun r19 =>
        if (r19.2 != 0) then
          some (r19.1, r19.2)
        else
          (flow_cost p0).bind fun r28 =>
          if decide (r28 > 256) then
            some (0, 32)
          else
            some (0, 0)

def flow_Cost (p0 : List api_Inst) : Option (Int × Int) :=
  (flow_Check p0).bind fun r8 =>
  if (r8.2 != 0) then
    some (0, r8.2)
  else
    (flow_cost p0).bind fun r17 =>
    some (r17, 0)

def flow_Loops (p0 : List api_Inst) : Option ((List api_Loop) × Int) :=
  (flow_Check p0).bind fun r8 =>
  if (r8.2 != 0) then
    some (([] : List api_Loop), r8.2)
  else
    (flow_loops p0).bind fun r21 =>
    some (r21, 0)

def tappetlaw07_awake  : Option Bool :=
  tappetlaw07_loop.bind fun r13 =>
  (flow_Check r13).bind fun r21 =>
  tappetlaw07_loop.bind fun r37 =>
  (flow_Cost r37).bind fun r45 =>
  tappetlaw07_loop.bind fun r65 =>
  (flow_Loops r65).bind fun r73 =>
  (if (r21.2 == 0) then
    if (r45.1 == 14) then
      if (r45.2 == 0) then
        if ((((r73.1).length) : Int) == 1) then
          (idx r73.1 0).bind fun x97 =>
          if ((x97.Head == 1) && ((x97.At == 2) && ((x97.Bound == 5) && true))) then
            some (r73.2 == 0)
          else
            some false
        else
          some false
      else
        some false
    else
      some false
  else
    some false).bind fun o91 =>
  some o91

def tappetlaw07_copied (p0 : List api_Inst) : Option (List api_Inst) :=
  (room (([] : List api_Inst).length + p0.length) 40).bind fun u15 =>
  some (([] : List api_Inst) ++ p0)

def tappetref02_reg (p0 : Int) : Option Bool :=
  some (decide (p0 ≥ 0) && decide (p0 ≤ 7))

def tappetref02_sourced (p0 : api_Inst) : Option Bool :=
  ((tappetref02_reg p0.B).bind fun r17 =>
  if r17 then
    if (p0.Imm == 0) then
      some true
    else
      some (p0.B == 8)
  else
    some (p0.B == 8)).bind fun o15 =>
  some o15

def tappetref02_Three (p0 : Int) : Option Bool :=
  some (decide (p0 ≥ 1) && decide (p0 ≤ 10))

def tappetref02_Jump (p0 : Int) : Option Bool :=
  some (decide (p0 ≥ 16) && decide (p0 ≤ 19))

def tappetref02_Right (p0 : api_Inst) : Option Bool :=
  if ((p0.Op == 0) || (p0.Op == 11)) then
    ((tappetref02_reg p0.D).bind fun r23 =>
    if r23 then
      if (p0.A == 0) then
        (tappetref02_sourced p0).bind fun r29 =>
        some r29
      else
        some false
    else
      some false).bind fun o21 =>
    some o21
  else
    (tappetref02_Three p0.Op).bind fun r37 =>
    if r37 then
      ((tappetref02_reg p0.D).bind fun r62 =>
      if r62 then
        (tappetref02_reg p0.A).bind fun r67 =>
        if r67 then
          (tappetref02_sourced p0).bind fun r72 =>
          some r72
        else
          some false
      else
        some false).bind fun o60 =>
      some o60
    else
      if (p0.Op == 12) then
        (if (p0.D == 0) then
          (tappetref02_reg p0.A).bind fun r90 =>
          if r90 then
            (tappetref02_sourced p0).bind fun r95 =>
            some r95
          else
            some false
        else
          some false).bind fun o87 =>
        some o87
      else
        if (p0.Op == 13) then
          ((tappetref02_reg p0.D).bind fun r114 =>
          if r114 then
            if (p0.A == 0) then
              if (p0.B == 0) then
                if (p0.Imm == 0) then
                  some true
                else
                  some (p0.Imm == 1)
              else
                some false
            else
              some false
          else
            some false).bind fun o112 =>
          some o112
        else
          if (p0.Op == 14) then
            ((tappetref02_reg p0.D).bind fun r137 =>
            if r137 then
              if (p0.A == 0) then
                if (p0.B == 0) then
                  if decide (p0.Imm ≥ 0) then
                    some (decide (p0.Imm ≤ 3))
                  else
                    some false
                else
                  some false
              else
                some false
            else
              some false).bind fun o135 =>
            some o135
          else
            if (p0.Op == 15) then
              some ((((decide (p0.D ≥ 0) && decide (p0.D ≤ 63)) && (p0.A == 0)) && (p0.B == 0)) && (p0.Imm == 0))
            else
              (tappetref02_Jump p0.Op).bind fun r154 =>
              if r154 then
                (if decide (p0.D ≥ 0) then
                  if decide (p0.D ≤ 63) then
                    (tappetref02_reg p0.A).bind fun r174 =>
                    if r174 then
                      (tappetref02_sourced p0).bind fun r179 =>
                      some r179
                    else
                      some false
                  else
                    some false
                else
                  some false).bind fun o170 =>
                some o170
              else
                if (p0.Op == 20) then
                  (if decide (p0.D ≥ 1) then
                    if decide (p0.D ≤ 63) then
                      (tappetref02_reg p0.A).bind fun r197 =>
                      if r197 then
                        if (p0.B == 0) then
                          if decide (p0.Imm ≥ 1) then
                            some (decide (p0.Imm ≤ 255))
                          else
                            some false
                        else
                          some false
                      else
                        some false
                    else
                      some false
                  else
                    some false).bind fun o193 =>
                  some o193
                else
                  if (p0.Op == 21) then
                    some (((((p0.D == 0) && (p0.A == 0)) && (p0.B == 0)) && decide (p0.Imm ≥ 0)) && decide (p0.Imm ≤ 6))
                  else
                    if (p0.Op == 22) then
                      (if (p0.D == 0) then
                        (tappetref02_reg p0.A).bind fun r220 =>
                        if r220 then
                          if (p0.B == 0) then
                            some (p0.Imm == 0)
                          else
                            some false
                        else
                          some false
                      else
                        some false).bind fun o217 =>
                      some o217
                    else
                      some false

def tappetref02_Goes (p0 : api_Inst) : Option (Int × Bool × Bool) :=
  (tappetref02_Right p0).bind fun r9 =>
  if (!r9) then
    some (0, false, false)
  else
    if (p0.Op == 15) then
      some (w64 (p0.D + 1), true, false)
    else
      (tappetref02_Jump p0.Op).bind fun r19 =>
      if r19 then
        some (w64 (p0.D + 1), true, true)
      else
        if (p0.Op == 20) then
          some (w64 (0 - p0.D), true, true)
        else
          some (0, false, (p0.Op != 22))

def tappetref07_bodies_l2 (i2098 : Nat) (again : ((List (List Int)) × Int) → Option (List (List Int))) (s2448 : (List (List Int)) × Int) : Option (List (List Int)) :=
  if decide (s2448.2 ≤ (i2098 : Int)) then
    (idx s2448.1 s2448.2).bind fun x2482 =>
    (room (x2482.length + ([(i2098 : Int)]).length) 8).bind fun u2497 =>
    again ((s2448.1.set (Int.toNat s2448.2) (x2482 ++ [(i2098 : Int)])), w64 (s2448.2 + 1))
  else
    some s2448.1
def tappetref07_bodies_l1 (fu : Nat) (p0 : List api_Inst) (i2098 : Nat) (again : (List (List Int)) → Option (List (List Int))) (s2095 : (List (List Int))) : Option (List (List Int)) :=
  (idx p0 (i2098 : Int)).bind fun x2107 =>
  if (x2107.Op != 20) then
    again s2095
  else
    (loop (tappetref07_bodies_l2 i2098) fu (s2095, w64 ((i2098 : Int) - x2107.D))).bind fun o2317 =>
    again o2317
def tappetref07_bodies (fu : Nat) (p0 : List api_Inst) : Option (List (List Int)) :=
  (mkLen (((p0).length) : Int) 24).bind fun m8 =>
  (forN (tappetref07_bodies_l1 fu p0) (fun (s2095 : (List (List Int))) => s2095) ((p0).length) 0 (List.replicate m8 [])).bind fun o1262 =>
  some o1262

def tappetref07_has_l1 (p0 : List Int) (p1 : Int) (i87 : Nat) (again : Unit → Option (Unit ⊕ Bool)) (s86 : Unit) : Option (Unit ⊕ Bool) :=
  (idx p0 (i87 : Int)).bind fun x96 =>
  if (x96 == p1) then
    some (.inr true)
  else
    again ()
def tappetref07_has (p0 : List Int) (p1 : Int) : Option Bool :=
  (forN (tappetref07_has_l1 p0 p1) (fun (s86 : Unit) => (.inl ())) ((p0).length) 0 ()).bind fun o52 => match o52 with
    | .inl t54 =>
      some false
    | .inr r => some r

def tappetref07_crossing_l3 (p1 : List (List Int)) (i8361 : Nat) (i10672 : Nat) (i11057 : Nat) (again : (Int × Bool) → Option (Int × Bool)) (s11056 : Int × Bool) : Option (Int × Bool) :=
  (idx p1 (i11057 : Int)).bind fun x11078 =>
  (tappetref07_has x11078 (i10672 : Int)).bind fun r11092 =>
  if r11092 then
    (tappetref07_has x11078 (i8361 : Int)).bind fun r11125 =>
    if r11125 then
      again (w64 (s11056.1 + 1), s11056.2)
    else
      again (s11056.1, false)
  else
    again (s11056.1, s11056.2)
def tappetref07_crossing_l2 (p0 : List api_Inst) (p1 : List (List Int)) (i8361 : Nat) (i10672 : Nat) (again : Unit → Option (Unit ⊕ (Int × Bool))) (s10671 : Unit) : Option (Unit ⊕ (Int × Bool)) :=
  (idx p0 (i10672 : Int)).bind fun x10683 =>
  if (x10683.Op != 20) then
    again ()
  else
    (forN (tappetref07_crossing_l3 p1 i8361 i10672) (fun (s11056 : Int × Bool) => (s11056.1, s11056.2)) ((p0).length) 0 (0, true)).bind fun o10909 =>
    if (decide (o10909.1 > 0) && (!o10909.2)) then
      some (.inr ((i8361 : Int), true))
    else
      again ()
def tappetref07_crossing_l1 (p0 : List api_Inst) (p1 : List (List Int)) (i8361 : Nat) (again : Unit → Option (Unit ⊕ (Int × Bool))) (s8360 : Unit) : Option (Unit ⊕ (Int × Bool)) :=
  (idx p0 (i8361 : Int)).bind fun x8370 =>
  if (x8370.Op != 20) then
    again ()
  else
    ((room i8361 1).bind fun u10674 =>
    forN (tappetref07_crossing_l2 p0 p1 i8361) (fun (s10671 : Unit) => (.inl ())) i8361 0 ()).bind fun o9753 => match o9753 with
      | .inl t9755 =>
        again ()
      | .inr r => some (.inr r)
def tappetref07_crossing (fu : Nat) (p0 : List api_Inst) (p1 : List (List Int)) : Option (Int × Bool) :=
  (forN (tappetref07_crossing_l1 p0 p1) (fun (s8360 : Unit) => (.inl ())) ((p0).length) 0 ()).bind fun o5568 => match o5568 with
    | .inl t5570 =>
      some (0, false)
    | .inr r => some r

def tappetref07_entering_l2 (p0 : List api_Inst) (p1 : List (List Int)) (i4270 : Nat) (r4289 : Int × Bool × Bool) (again : Int → Option (Unit ⊕ (Int × Bool))) (s4985 : Int) : Option (Unit ⊕ (Int × Bool)) :=
  (idx p1 (w64 ((i4270 : Int) + r4289.1))).bind fun x5000 =>
  if decide (s4985 < (((x5000).length) : Int)) then
    (idx x5000 s4985).bind fun x5045 =>
    ((idx p1 (i4270 : Int)).bind fun x5096 =>
    (tappetref07_has x5096 x5045).bind fun r5110 =>
    if (!r5110) then
      (idx p0 x5045).bind fun x5115 =>
      some ((w64 ((i4270 : Int) + r4289.1)) != (w64 (x5045 - x5115.D)))
    else
      some false).bind fun o5094 =>
    if o5094 then
      some (.inr ((i4270 : Int), true))
    else
      again (w64 (s4985 + 1))
  else
    some (.inl ())
def tappetref07_entering_l1 (fu : Nat) (p0 : List api_Inst) (p1 : List (List Int)) (i4270 : Nat) (again : Unit → Option (Unit ⊕ (Int × Bool))) (s4269 : Unit) : Option (Unit ⊕ (Int × Bool)) :=
  (idx p0 (i4270 : Int)).bind fun x4283 =>
  (tappetref02_Goes x4283).bind fun r4289 =>
  if ((!r4289.2.1) || decide (r4289.1 < 0)) then
    again ()
  else
    (loop (tappetref07_entering_l2 p0 p1 i4270 r4289) fu 0).bind fun o4707 => match o4707 with
      | .inl t4709 =>
        again ()
      | .inr r => some (.inr r)
def tappetref07_entering (fu : Nat) (p0 : List api_Inst) (p1 : List (List Int)) : Option (Int × Bool) :=
  (forN (tappetref07_entering_l1 fu p0 p1) (fun (s4269 : Unit) => (.inl ())) ((p0).length) 0 ()).bind fun o2563 => match o2563 with
    | .inl t2565 =>
      some (0, false)
    | .inr r => some r

def tappetref07_cost_l2 (p0 : List api_Inst) (p1 : List (List Int)) (i3044 : Nat) (again : (Int × Int) → Option Int) (s3551 : Int × Int) : Option Int :=
  ((idx p1 (i3044 : Int)).bind fun x3583 =>
  if decide (s3551.2 < (((x3583).length) : Int)) then
    some (decide (s3551.1 ≤ 256))
  else
    some false).bind fun o3581 =>
  if o3581 then
    (idx p1 (i3044 : Int)).bind fun x3625 =>
    (idx x3625 s3551.2).bind fun x3639 =>
    (idx p0 x3639).bind fun x3645 =>
    again (w64 (s3551.1 * (w64 (x3645.Imm + 1))), w64 (s3551.2 + 1))
  else
    some s3551.1
def tappetref07_cost_l1 (fu : Nat) (p0 : List api_Inst) (p1 : List (List Int)) (i3044 : Nat) (again : Int → Option Int) (s3043 : Int) : Option Int :=
  (loop (tappetref07_cost_l2 p0 p1 i3044) fu (1, 0)).bind fun o3348 =>
  again (w64 (s3043 + o3348))
def tappetref07_cost (fu : Nat) (p0 : List api_Inst) (p1 : List (List Int)) : Option Int :=
  (forN (tappetref07_cost_l1 fu p0 p1) (fun (s3043 : Int) => s3043) ((p0).length) 0 0).bind fun o1828 =>
  some o1828

def tappetref07_Check_l1 (p0 : List api_Inst) (i234 : Nat) (again : Unit → Option (Unit ⊕ (Int × Int))) (s233 : Unit) : Option (Unit ⊕ (Int × Int)) :=
  (idx p0 (i234 : Int)).bind fun x247 =>
  (tappetref02_Right x247).bind fun r253 =>
  if (!r253) then
    some (.inr ((i234 : Int), 12))
  else
    (tappetref02_Goes x247).bind fun r270 =>
    if (r270.2.1 && (decide ((w64 ((i234 : Int) + r270.1)) < 0) || decide ((w64 ((i234 : Int) + r270.1)) > (w64 ((((p0).length) : Int) - 1))))) then
      some (.inr ((i234 : Int), 30))
    else
      if (r270.2.2 && ((w64 ((i234 : Int) + 1)) == (((p0).length) : Int))) then
        some (.inr ((i234 : Int), 36))
      else
        again ()
def tappetref07_Check (fu : Nat) (p0 : List api_Inst) : Option (Int × Int) :=
  if ((((p0).length) : Int) == 0) then
    some (0, 10)
  else
    if decide ((((p0).length) : Int) > 64) then
      some (0, 11)
    else
      (forN (tappetref07_Check_l1 p0) (fun (s233 : Unit) => (.inl ())) ((p0).length) 0 ()).bind fun o141 => match o141 with
        | .inl t143 =>
          (tappetref07_bodies fu p0).bind fun r287 =>
          (tappetref07_crossing fu p0 r287).bind fun r299 =>
          if r299.2 then
            some (r299.1, 31)
          else
            (tappetref07_entering fu p0 r287).bind fun r308 =>
            if r308.2 then
              some (r308.1, 31)
            else
              (tappetref07_cost fu p0 r287).bind fun r317 =>
              if decide (r317 > 256) then
                some (0, 32)
              else
                some (0, 0)
        | .inr r => some r

def tappetlaw07_FlowChecks_l1 (p0 : List api_Inst) (r21 : (List api_Inst)) (i198 : Nat) (again : Unit → Option (Unit ⊕ Bool)) (s197 : Unit) : Option (Unit ⊕ Bool) :=
  (idx r21 (i198 : Int)).bind fun x216 =>
  (idx p0 (i198 : Int)).bind fun x221 =>
  if (!((x216.Op == x221.Op) && ((x216.D == x221.D) && ((x216.A == x221.A) && ((x216.B == x221.B) && ((x216.Imm == x221.Imm) && true)))))) then
    some (.inr false)
  else
    again ()
def tappetlaw07_FlowChecks (fu : Nat) (p0 : List api_Inst) : Option Bool :=
  tappetlaw07_awake.bind fun r8 =>
  if (!r8) then
    some false
  else
    (tappetlaw07_copied p0).bind fun r21 =>
    (flow_Check r21).bind fun r33 =>
    (tappetref07_Check fu p0).bind fun r41 =>
    (forN (tappetlaw07_FlowChecks_l1 p0 r21) (fun (s197 : Unit) => (.inl ())) ((p0).length) 0 ()).bind fun o135 => match o135 with
      | .inl t137 =>
        some ((r33.1 == r41.1) && (r33.2 == r41.2))
      | .inr r => some r

def tappetref07_Loops_l1 (p0 : List api_Inst) (i310 : Nat) (again : (List api_Loop) → Option (List api_Loop)) (s308 : (List api_Loop)) : Option (List api_Loop) :=
  (idx p0 (i310 : Int)).bind fun x322 =>
  if (x322.Op == 20) then
    (room (s308.length + ([(api_Loop.mk (w64 ((i310 : Int) - x322.D)) (i310 : Int) x322.Imm)]).length) 24).bind fun u360 =>
    again (s308 ++ [(api_Loop.mk (w64 ((i310 : Int) - x322.D)) (i310 : Int) x322.Imm)])
  else
    again s308
def tappetref07_Loops (fu : Nat) (p0 : List api_Inst) : Option ((List api_Loop) × Int) :=
  (tappetref07_Check fu p0).bind fun r8 =>
  if (r8.2 != 0) then
    some (([] : List api_Loop), r8.2)
  else
    (forN (tappetref07_Loops_l1 p0) (fun (s308 : (List api_Loop)) => s308) ((p0).length) 0 ([] : List api_Loop)).bind fun o190 =>
    some (o190, 0)

def tappetref07_Cost (fu : Nat) (p0 : List api_Inst) : Option (Int × Int) :=
  (tappetref07_Check fu p0).bind fun r8 =>
  if (r8.2 != 0) then
    some (0, r8.2)
  else
    (tappetref07_bodies fu p0).bind fun r25 =>
    (tappetref07_cost fu p0 r25).bind fun r33 =>
    some (r33, 0)

def tappetlaw07_FlowLoops_l1 (again : ((List api_Loop) × Int) → Option Unit) (s256 : (List api_Loop) × Int) : Option Unit :=
  if decide (s256.2 < (((s256.1).length) : Int)) then
    (idx s256.1 s256.2).bind fun x271 =>
    again ((s256.1.set (Int.toNat s256.2) (api_Loop.mk x271.Head x271.At (w64 (x271.Bound - 1000)))), w64 (s256.2 + 1))
  else
    some ()
def tappetlaw07_FlowLoops_l2 (r69 : (List api_Loop) × Int) (r85 : (List api_Loop) × Int) (i425 : Nat) (again : Unit → Option (Unit ⊕ Bool)) (s424 : Unit) : Option (Unit ⊕ Bool) :=
  (idx r69.1 (i425 : Int)).bind fun x442 =>
  (idx r85.1 (i425 : Int)).bind fun x447 =>
  if (!((x442.Head == x447.Head) && ((x442.At == x447.At) && ((x442.Bound == x447.Bound) && true)))) then
    some (.inr false)
  else
    again ()
def tappetlaw07_FlowLoops (fu : Nat) (p0 : List api_Inst) : Option Bool :=
  tappetlaw07_awake.bind fun r8 =>
  if (!r8) then
    some false
  else
    (tappetlaw07_copied p0).bind fun r29 =>
    (flow_Loops r29).bind fun r37 =>
    (tappetlaw07_copied p0).bind fun r61 =>
    (flow_Loops r61).bind fun r69 =>
    (tappetref07_Loops fu p0).bind fun r85 =>
    (tappetlaw07_copied p0).bind fun r105 =>
    (flow_Cost r105).bind fun r113 =>
    (tappetref07_Cost fu p0).bind fun r121 =>
    if ((((((((r37.1).length) : Int) != (((r85.1).length) : Int)) || ((((r69.1).length) : Int) != (((r85.1).length) : Int))) || (r37.2 != r85.2)) || (r113.1 != r121.1)) || (r113.2 != r121.2)) then
      some false
    else
      (loop tappetlaw07_FlowLoops_l1 fu (r37.1, 0)).bind fun o205 =>
      (forN (tappetlaw07_FlowLoops_l2 r69 r85) (fun (s424 : Unit) => (.inl ())) ((r85.1).length) 0 ()).bind fun o366 => match o366 with
        | .inl t368 =>
          some true
        | .inr r => some r

def flow_check (p0 : List api_Inst) (p1 : Int) : Option Int :=
  (flow_Check p0).bind fun r8 =>
  if ((r8.2 == 0) && (decide (p1 < 0) || decide (p1 ≥ (((p0).length) : Int)))) then
    some 2
  else
    some r8.2

def flow_Around_l1 (p1 : Int) (r21 : (List api_Loop)) (i286 : Nat) (again : (List Int) → Option (List Int)) (s284 : (List Int)) : Option (List Int) :=
  (idx r21 (i286 : Int)).bind fun x300 =>
  (flow_in x300 p1).bind fun r312 =>
  if r312 then
    (room (s284.length + ([x300.At]).length) 8).bind fun u328 =>
    again (s284 ++ [x300.At])
  else
    again s284
def flow_Around (p0 : List api_Inst) (p1 : Int) : Option ((List Int) × Int) :=
  (flow_check p0 p1).bind fun r8 =>
  if (r8 != 0) then
    some (([] : List Int), r8)
  else
    (flow_loops p0).bind fun r21 =>
    (forN (flow_Around_l1 p1 r21) (fun (s284 : (List Int)) => s284) ((r21).length) 0 ([] : List Int)).bind fun o182 =>
    some (o182, 0)

def tappetlaw07_FlowNested_l2 (r37 : (List api_Loop) × Int) (x2318 : api_Loop) (i2533 : Nat) (again : Unit → Option (Unit ⊕ Bool)) (s2532 : Unit) : Option (Unit ⊕ Bool) :=
  ((idx r37.1 (i2533 : Int)).bind fun x2560 =>
  if decide (x2560.At ≥ x2318.Head) then
    some (decide (x2560.Head < x2318.Head))
  else
    some false).bind fun o2556 =>
  if o2556 then
    some (.inr false)
  else
    again ()
def tappetlaw07_FlowNested_l3 (x2318 : api_Loop) (r2578 : (List Int) × Int) (i2793 : Nat) (again : Bool → Option (Bool ⊕ Bool)) (s2792 : Bool) : Option (Bool ⊕ Bool) :=
  (if s2792 then
    some true
  else
    (idx r2578.1 (i2793 : Int)).bind fun x2811 =>
    some (x2811 == x2318.At)).bind fun o2806 =>
  (if decide ((i2793 : Int) > 0) then
    (idx r2578.1 (w64 ((i2793 : Int) - 1))).bind fun x2836 =>
    (idx r2578.1 (i2793 : Int)).bind fun x2841 =>
    some (decide (x2836 ≥ x2841))
  else
    some false).bind fun o2831 =>
  if o2831 then
    some (.inr false)
  else
    again o2806
def tappetlaw07_FlowNested_l1 (p0 : List api_Inst) (r37 : (List api_Loop) × Int) (i2307 : Nat) (again : Unit → Option (Unit ⊕ Bool)) (s2306 : Unit) : Option (Unit ⊕ Bool) :=
  (idx r37.1 (i2307 : Int)).bind fun x2318 =>
  (if decide (x2318.Head < 0) then
    some true
  else
    if decide (x2318.Head ≥ x2318.At) then
      some true
    else
      if decide (x2318.At ≥ (((p0).length) : Int)) then
        some true
      else
        if decide ((i2307 : Int) > 0) then
          (idx r37.1 (w64 ((i2307 : Int) - 1))).bind fun x2347 =>
          some (decide (x2347.At ≥ x2318.At))
        else
          some false).bind fun o2339 =>
  if o2339 then
    some (.inr false)
  else
    ((room i2307 1).bind fun u2535 =>
    forN (tappetlaw07_FlowNested_l2 r37 x2318) (fun (s2532 : Unit) => (.inl ())) i2307 0 ()).bind fun o2460 => match o2460 with
      | .inl t2462 =>
        (flow_Around p0 x2318.Head).bind fun r2578 =>
        (forN (tappetlaw07_FlowNested_l3 x2318 r2578) (fun (s2792 : Bool) => (.inl s2792)) ((r2578.1).length) 0 false).bind fun o2715 => match o2715 with
          | .inl t2717 =>
            if ((r2578.2 != 0) || (!t2717)) then
              some (.inr false)
            else
              again ()
          | .inr r => some (.inr r)
      | .inr r => some (.inr r)
def tappetlaw07_FlowNested (fu : Nat) (p0 : List api_Inst) : Option Bool :=
  tappetlaw07_awake.bind fun r8 =>
  if (!r8) then
    some false
  else
    (tappetlaw07_copied p0).bind fun r29 =>
    (flow_Loops r29).bind fun r37 =>
    if (r37.2 != 0) then
      some ((((r37.1).length) : Int) == 0)
    else
      (forN (tappetlaw07_FlowNested_l1 p0 r37) (fun (s2306 : Unit) => (.inl ())) ((r37.1).length) 0 ()).bind fun o1446 => match o1446 with
        | .inl t1448 =>
          (tappetlaw07_copied p0).bind fun r2870 =>
          (room (r2870.length + ([(api_Inst.mk 22 0 0 0 0)]).length) 40).bind fun u2880 =>
          (flow_Check (r2870 ++ [(api_Inst.mk 22 0 0 0 0)])).bind fun r2887 =>
          if ((((p0).length) : Int) == 64) then
            some ((r2887.1 == 0) && (r2887.2 == 11))
          else
            (flow_Cost p0).bind fun r2897 =>
            if (r2897.1 == 256) then
              some (r2887.2 == 32)
            else
              some ((r2887.1 == 0) && (r2887.2 == 0))
        | .inr r => some r

def flow_Next (p0 : List api_Inst) (p1 : Int) : Option ((List Int) × Int) :=
  (flow_check p0 p1).bind fun r8 =>
  if (r8 != 0) then
    some (([] : List Int), r8)
  else
    (idx p0 p1).bind fun x23 =>
    (ops_Goes x23).bind fun r29 =>
    (if r29.2.1 then
      (room (([] : List Int).length + ([w64 (p1 + r29.1)]).length) 8).bind fun u67 =>
      some (([] : List Int) ++ [w64 (p1 + r29.1)])
    else
      some ([] : List Int)).bind fun o53 =>
    (if r29.2.2 then
      (room (o53.length + ([w64 (p1 + 1)]).length) 8).bind fun u112 =>
      some (o53 ++ [w64 (p1 + 1)])
    else
      some o53).bind fun o98 =>
    (slices_Sort_int_int o98).bind fun r128 =>
    (slices_Compact_int_int r128).bind fun r140 =>
    some (r140, 0)

def tappetlaw07_FlowEnds_l1 (p0 : List api_Inst) (p1 : List Int) (r36 : Int × Int) (again : ((List Int) × Int × Int) → Option (Unit ⊕ Bool)) (s1349 : (List Int) × Int × Int) : Option (Unit ⊕ Bool) :=
  if decide (s1349.2.2 ≤ r36.1) then
    (flow_Next p0 s1349.2.1).bind fun r1359 =>
    if (r1359.2 != 0) then
      some (.inr false)
    else
      if ((((r1359.1).length) : Int) == 0) then
        some (.inr (decide (s1349.2.2 < r36.1)))
      else
        (idx r1359.1 0).bind fun x1374 =>
        (if decide (s1349.2.2 < (((p1).length) : Int)) then
          (idx p1 s1349.2.2).bind fun x1401 =>
          some x1401
        else
          some 0).bind fun o1392 =>
        (if (decide ((((r1359.1).length) : Int) > 1) && ((o1392.tmod 2) != 0)) then
          (idx r1359.1 1).bind fun x1427 =>
          some x1427
        else
          some x1374).bind fun o1419 =>
        (idx p0 s1349.2.1).bind fun x1438 =>
        (if (x1438.Op == 20) then
          (if ((o1392.tmod 4) != 0) then
            (idx s1349.1 s1349.2.1).bind fun x1534 =>
            some (decide (x1534 < x1438.Imm))
          else
            some false).bind fun o1529 =>
          if o1529 then
            (idx s1349.1 s1349.2.1).bind fun x1561 =>
            some ((s1349.1.set (Int.toNat s1349.2.1) (w64 (x1561 + 1))), w64 (s1349.2.1 - x1438.D))
          else
            (idx s1349.1 s1349.2.1).bind fun x1576 =>
            some ((s1349.1.set (Int.toNat s1349.2.1) 0), w64 (s1349.2.1 + 1))
        else
          some (s1349.1, o1419)).bind fun o1512 =>
        (if (o1512.2 != x1374) then
          if decide ((((r1359.1).length) : Int) < 2) then
            some true
          else
            (idx r1359.1 1).bind fun x1602 =>
            some (o1512.2 != x1602)
        else
          some false).bind fun o1595 =>
        if o1595 then
          some (.inr false)
        else
          again (o1512.1, o1512.2, w64 (s1349.2.2 + 1))
  else
    some (.inl ())
def tappetlaw07_FlowEnds (fu : Nat) (p0 : List api_Inst) (p1 : List Int) : Option Bool :=
  tappetlaw07_awake.bind fun r11 =>
  if (!r11) then
    some false
  else
    (tappetlaw07_copied p0).bind fun r28 =>
    (flow_Cost r28).bind fun r36 =>
    if (r36.2 != 0) then
      some (r36.1 == 0)
    else
      (mkLen (((p0).length) : Int) 8).bind fun m45 =>
      (loop (tappetlaw07_FlowEnds_l1 p0 p1 r36) fu ((List.replicate m45 0), 0, 0)).bind fun o827 => match o827 with
        | .inl t829 =>
          some false
        | .inr r => some r

def tappetref07_Next_l1 (p1 : Int) (r31 : Int × Bool × Bool) (i192 : Nat) (again : (List Int) → Option (List Int)) (s190 : (List Int)) : Option (List Int) :=
  if ((r31.2.1 && ((i192 : Int) == (w64 (p1 + r31.1)))) || (r31.2.2 && ((i192 : Int) == (w64 (p1 + 1))))) then
    (room (s190.length + ([(i192 : Int)]).length) 8).bind fun u214 =>
    again (s190 ++ [(i192 : Int)])
  else
    again s190
def tappetref07_Next (fu : Nat) (p0 : List api_Inst) (p1 : Int) : Option ((List Int) × Int) :=
  (tappetref07_Check fu p0).bind fun r8 =>
  if (r8.2 != 0) then
    some (([] : List Int), r8.2)
  else
    if (decide (p1 < 0) || decide (p1 ≥ (((p0).length) : Int))) then
      some (([] : List Int), 2)
    else
      (idx p0 p1).bind fun x25 =>
      (tappetref02_Goes x25).bind fun r31 =>
      (forN (tappetref07_Next_l1 p1 r31) (fun (s190 : (List Int)) => s190) ((p0).length) 0 ([] : List Int)).bind fun o128 =>
      some (o128, 0)

def tappetref07_Around (fu : Nat) (p0 : List api_Inst) (p1 : Int) : Option ((List Int) × Int) :=
  (tappetref07_Check fu p0).bind fun r8 =>
  if (r8.2 != 0) then
    some (([] : List Int), r8.2)
  else
    if (decide (p1 < 0) || decide (p1 ≥ (((p0).length) : Int))) then
      some (([] : List Int), 2)
    else
      (tappetref07_bodies fu p0).bind fun r36 =>
      (idx r36 p1).bind fun x44 =>
      some (x44, 0)

def tappetlaw07_ints_l1 (p0 : List Int) (p1 : List Int) (i171 : Nat) (again : Unit → Option (Unit ⊕ Bool)) (s170 : Unit) : Option (Unit ⊕ Bool) :=
  (idx p0 (i171 : Int)).bind fun x190 =>
  (idx p1 (i171 : Int)).bind fun x196 =>
  if (x190 != x196) then
    some (.inr false)
  else
    again ()
def tappetlaw07_ints (p0 : List Int) (p1 : List Int) : Option Bool :=
  if ((((p0).length) : Int) != (((p1).length) : Int)) then
    some false
  else
    (forN (tappetlaw07_ints_l1 p0 p1) (fun (s170 : Unit) => (.inl ())) ((p0).length) 0 ()).bind fun o104 => match o104 with
      | .inl t106 =>
        some true
      | .inr r => some r

def tappetlaw07_FlowNexts_l1 (fu : Nat) (p0 : List api_Inst) (p1 : Int) (again : Int → Option (Unit ⊕ Bool)) (s668 : Int) : Option (Unit ⊕ Bool) :=
  if decide (s668 < 68) then
    (if (s668 == (-2)) then
      some p1
    else
      some s668).bind fun o671 =>
    (tappetlaw07_copied p0).bind fun r690 =>
    (flow_Next r690 o671).bind fun r698 =>
    (tappetref07_Next fu p0 o671).bind fun r714 =>
    (tappetlaw07_copied p0).bind fun r738 =>
    (flow_Around r738 o671).bind fun r746 =>
    (tappetref07_Around fu p0 o671).bind fun r762 =>
    ((tappetlaw07_ints r698.1 r714.1).bind fun r787 =>
    if (!r787) then
      some true
    else
      if (r698.2 != r714.2) then
        some true
      else
        (tappetlaw07_ints r746.1 r762.1).bind fun r793 =>
        if (!r793) then
          some true
        else
          some (r746.2 != r762.2)).bind fun o785 =>
    if o785 then
      some (.inr false)
    else
      if decide (s668 > (((p0).length) : Int)) then
        some (.inl ())
      else
        again (w64 (s668 + 1))
  else
    some (.inl ())
def tappetlaw07_FlowNexts (fu : Nat) (p0 : List api_Inst) (p1 : Int) : Option Bool :=
  tappetlaw07_awake.bind fun r8 =>
  if (!r8) then
    some false
  else
    (loop (tappetlaw07_FlowNexts_l1 fu p0 p1) fu (-2)).bind fun o405 => match o405 with
      | .inl t407 =>
        some true
      | .inr r => some r

end Go.Proofs.YtjhmkpklhajpcaaDoor
