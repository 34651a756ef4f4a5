/- Written by a program (wip/gen) from the translation: what each Go function computes, as a plain Lean function. -/
import Derived.Test.YteaedkohbgediaaDoorOpen
import Derived.Test.YteaedkohbgediaaDoorPart
import Derived.Test.YteaedkohbgediaaDoorExt
import Derived.Test.YteaedkohbgediaaDoorStr
import Derived.Test.YteaedkohbgediaaDoorStrB
namespace Go.Proofs.YteaedkohbgediaaDoor
open Go.Sx
set_option linter.unusedVariables false

structure ops_form where
  name : ByteArray
  fields : ByteArray

def enc_ops_form (x : ops_form) : List Value := [.string x.name, .string x.fields]

def tab_g0 : List ops_form := [(ops_form.mk (⟨[115, 101, 116].toArray⟩) (⟨[100, 115].toArray⟩)),
  (ops_form.mk (⟨[97, 100, 100].toArray⟩) (⟨[100, 97, 115].toArray⟩)),
  (ops_form.mk (⟨[115, 117, 98].toArray⟩) (⟨[100, 97, 115].toArray⟩)),
  (ops_form.mk (⟨[109, 117, 108].toArray⟩) (⟨[100, 97, 115].toArray⟩)),
  (ops_form.mk (⟨[100, 105, 118].toArray⟩) (⟨[100, 97, 115].toArray⟩)),
  (ops_form.mk (⟨[114, 101, 109].toArray⟩) (⟨[100, 97, 115].toArray⟩)),
  (ops_form.mk (⟨[97, 110, 100].toArray⟩) (⟨[100, 97, 115].toArray⟩)),
  (ops_form.mk (⟨[111, 114].toArray⟩) (⟨[100, 97, 115].toArray⟩)),
  (ops_form.mk (⟨[120, 111, 114].toArray⟩) (⟨[100, 97, 115].toArray⟩)),
  (ops_form.mk (⟨[115, 104, 108].toArray⟩) (⟨[100, 97, 115].toArray⟩)),
  (ops_form.mk (⟨[115, 104, 114].toArray⟩) (⟨[100, 97, 115].toArray⟩)),
  (ops_form.mk (⟨[108, 111, 97, 100].toArray⟩) (⟨[100, 115].toArray⟩)),
  (ops_form.mk (⟨[115, 116, 111, 114, 101].toArray⟩) (⟨[97, 115].toArray⟩)),
  (ops_form.mk (⟨[102, 105, 101, 108, 100].toArray⟩) (⟨[100, 102].toArray⟩)),
  (ops_form.mk (⟨[109, 97, 112].toArray⟩) (⟨[100, 109].toArray⟩)),
  (ops_form.mk (⟨[106, 117, 109, 112].toArray⟩) (⟨[106].toArray⟩)),
  (ops_form.mk (⟨[106, 101, 113].toArray⟩) (⟨[106, 97, 115].toArray⟩)),
  (ops_form.mk (⟨[106, 110, 101].toArray⟩) (⟨[106, 97, 115].toArray⟩)),
  (ops_form.mk (⟨[106, 108, 116].toArray⟩) (⟨[106, 97, 115].toArray⟩)),
  (ops_form.mk (⟨[106, 103, 101].toArray⟩) (⟨[106, 97, 115].toArray⟩)),
  (ops_form.mk (⟨[108, 111, 111, 112].toArray⟩) (⟨[98, 97, 110].toArray⟩)),
  (ops_form.mk (⟨[99, 97, 108, 108].toArray⟩) (⟨[104].toArray⟩)),
  (ops_form.mk (⟨[101, 120, 105, 116].toArray⟩) (⟨[97].toArray⟩))]

structure api_Inst where
  Op : Int
  D : Int
  A : Int
  B : Int
  Imm : Int

def enc_api_Inst (x : api_Inst) : List Value := [.int .i64 x.Op, .int .i64 x.D, .int .i64 x.A, .int .i64 x.B, .int .i64 x.Imm]

structure strings_Builder where
  addr : ByteArray
  buf : List Int

def R_t42 : Rp ByteArray := bldP 45 5

def ops_of (p0 : Int) : Option (ops_form × Bool) :=
  if (decide (p0 < 0) || decide (p0 ≥ 23)) then
    some ((ops_form.mk ByteArray.empty ByteArray.empty), false)
  else
    (idx tab_g0 p0).bind fun x12 =>
    some (x12, true)

def ops_register (p0 : Int) : Option Bool :=
  some (decide (p0 ≥ 0) && decide (p0 < 8))

def ops_within (p0 : Int) (p1 : Int) (p2 : Int) : Option Bool :=
  some (decide (p0 ≥ p1) && decide (p0 ≤ p2))

def ops_right_l1 (p0 : api_Inst) (r12 : ops_form × Bool) (i610 : Nat) (again : (Bool × api_Inst) → Option (Bool × api_Inst)) (s609 : Bool × api_Inst) : Option (Bool × api_Inst) :=
  (sidx r12.1.fields (i610 : Int)).bind fun c617 =>
  if (c617 == 100) then
    if s609.1 then
      (ops_register p0.D).bind fun r621 =>
      again (r621, (api_Inst.mk s609.2.Op 0 s609.2.A s609.2.B s609.2.Imm))
    else
      again (false, (api_Inst.mk s609.2.Op 0 s609.2.A s609.2.B s609.2.Imm))
  else
    if (c617 == 97) then
      if s609.1 then
        (ops_register p0.A).bind fun r629 =>
        again (r629, (api_Inst.mk s609.2.Op s609.2.D 0 s609.2.B s609.2.Imm))
      else
        again (false, (api_Inst.mk s609.2.Op s609.2.D 0 s609.2.B s609.2.Imm))
    else
      if (c617 == 115) then
        if (p0.B == 8) then
          again (s609.1, (api_Inst.mk s609.2.Op s609.2.D s609.2.A 0 0))
        else
          if s609.1 then
            (ops_register p0.B).bind fun r642 =>
            again (r642, (api_Inst.mk s609.2.Op s609.2.D s609.2.A 0 s609.2.Imm))
          else
            again (false, (api_Inst.mk s609.2.Op s609.2.D s609.2.A 0 s609.2.Imm))
      else
        if (c617 == 102) then
          if s609.1 then
            (ops_within p0.Imm 0 1).bind fun r648 =>
            again (r648, (api_Inst.mk s609.2.Op s609.2.D s609.2.A s609.2.B 0))
          else
            again (false, (api_Inst.mk s609.2.Op s609.2.D s609.2.A s609.2.B 0))
        else
          if (c617 == 109) then
            if s609.1 then
              (ops_within p0.Imm 0 3).bind fun r656 =>
              again (r656, (api_Inst.mk s609.2.Op s609.2.D s609.2.A s609.2.B 0))
            else
              again (false, (api_Inst.mk s609.2.Op s609.2.D s609.2.A s609.2.B 0))
          else
            if (c617 == 104) then
              if s609.1 then
                (ops_within p0.Imm 0 6).bind fun r664 =>
                again (r664, (api_Inst.mk s609.2.Op s609.2.D s609.2.A s609.2.B 0))
              else
                again (false, (api_Inst.mk s609.2.Op s609.2.D s609.2.A s609.2.B 0))
            else
              if (c617 == 110) then
                if s609.1 then
                  (ops_within p0.Imm 1 255).bind fun r672 =>
                  again (r672, (api_Inst.mk s609.2.Op s609.2.D s609.2.A s609.2.B 0))
                else
                  again (false, (api_Inst.mk s609.2.Op s609.2.D s609.2.A s609.2.B 0))
              else
                if (c617 == 106) then
                  if s609.1 then
                    (ops_within p0.D 0 63).bind fun r680 =>
                    again (r680, (api_Inst.mk s609.2.Op 0 s609.2.A s609.2.B s609.2.Imm))
                  else
                    again (false, (api_Inst.mk s609.2.Op 0 s609.2.A s609.2.B s609.2.Imm))
                else
                  if (c617 == 98) then
                    if s609.1 then
                      (ops_within p0.D 1 63).bind fun r688 =>
                      again (r688, (api_Inst.mk s609.2.Op 0 s609.2.A s609.2.B s609.2.Imm))
                    else
                      again (false, (api_Inst.mk s609.2.Op 0 s609.2.A s609.2.B s609.2.Imm))
                  else
                    again (s609.1, s609.2)
def ops_right (p0 : api_Inst) : Option Bool :=
  (ops_of p0.Op).bind fun r12 =>
  if (!r12.2) then
    some false
  else
    ((room r12.1.fields.size 1).bind fun u612 =>
    forN (ops_right_l1 p0 r12) (fun (s609 : Bool × api_Inst) => (s609.1, s609.2)) r12.1.fields.size 0 (r12.2, (api_Inst.mk 0 p0.D p0.A p0.B p0.Imm))).bind fun o364 =>
    (if o364.1 then
      some ((o364.2.Op == 0) && ((o364.2.D == 0) && ((o364.2.A == 0) && ((o364.2.B == 0) && ((o364.2.Imm == 0) && true)))))
    else
      some false).bind fun o695 =>
    some o695

def ops_Right_l1 (p0 : List api_Inst) (i157 : Nat) (again : Unit → Option (Unit ⊕ Bool)) (s156 : Unit) : Option (Unit ⊕ Bool) :=
  (idx p0 (i157 : Int)).bind fun x169 =>
  (ops_right x169).bind fun r182 =>
  if (!r182) then
    some (.inr false)
  else
    again ()
def ops_Right (p0 : List api_Inst) : Option Bool :=
  (forN (ops_Right_l1 p0) (fun (s156 : Unit) => (.inl ())) (p0).length 0 ()).bind fun o94 => match o94 with
    | .inl t96 =>
      some true
    | .inr r => some r

def ops_Name (p0 : Int) : Option ByteArray :=
  (ops_of p0).bind fun r8 =>
  some r8.1.name

def lines_order (p0 : Int) : Option ByteArray :=
  (if (p0 == 0) then
    some (p0 == 0)
  else
    some (p0 == 11)).bind fun o2 =>
  if o2 then
    some (⟨[100, 115].toArray⟩)
  else
    if (p0 == 12) then
      some (⟨[97, 115].toArray⟩)
    else
      (if (p0 == 13) then
        some (p0 == 13)
      else
        some (p0 == 14)).bind fun o8 =>
      if o8 then
        some (⟨[100, 110].toArray⟩)
      else
        if (p0 == 15) then
          some (⟨[106].toArray⟩)
        else
          (if (p0 == 16) then
            some (p0 == 16)
          else
            if (p0 == 17) then
              some (p0 == 17)
            else
              if (p0 == 18) then
                some (p0 == 18)
              else
                some (p0 == 19)).bind fun o16 =>
          if o16 then
            some (⟨[97, 115, 106].toArray⟩)
          else
            if (p0 == 20) then
              some (⟨[97, 106, 110].toArray⟩)
            else
              if (p0 == 21) then
                some (⟨[110].toArray⟩)
              else
                if (p0 == 22) then
                  some (⟨[97].toArray⟩)
                else
                  some (⟨[100, 97, 115].toArray⟩)

def lines_reg (p0 : Int) : Option ByteArray :=
  (strconv_Itoa p0).bind fun r7 =>
  (catB (⟨[114].toArray⟩) r7).bind fun x11 =>
  some x11

def lines_line_l1 (p0 : api_Inst) (r23 : ByteArray) (again : ((List ByteArray) × Nat) → Option (List ByteArray)) (s754 : (List ByteArray) × Nat) : Option (List ByteArray) :=
  if decide (s754.2 < r23.size) then
    if ((runeAt r23 s754.2) == 100) then
      (lines_reg p0.D).bind fun r777 =>
      (room (s754.1.length + ([r777]).length) 16).bind fun u783 =>
      again ((s754.1 ++ [r777]), (runeEnd r23 s754.2))
    else
      if ((runeAt r23 s754.2) == 97) then
        (lines_reg p0.A).bind fun r805 =>
        (room (s754.1.length + ([r805]).length) 16).bind fun u811 =>
        again ((s754.1 ++ [r805]), (runeEnd r23 s754.2))
      else
        if ((runeAt r23 s754.2) == 106) then
          (strconv_Itoa p0.D).bind fun r833 =>
          (room (s754.1.length + ([r833]).length) 16).bind fun u839 =>
          again ((s754.1 ++ [r833]), (runeEnd r23 s754.2))
        else
          if (((runeAt r23 s754.2) == 115) && (p0.B != 8)) then
            (lines_reg p0.B).bind fun r862 =>
            (room (s754.1.length + ([r862]).length) 16).bind fun u868 =>
            again ((s754.1 ++ [r862]), (runeEnd r23 s754.2))
          else
            (strconv_FormatInt p0.Imm 10).bind fun r889 =>
            (room (s754.1.length + ([r889]).length) 16).bind fun u895 =>
            again ((s754.1 ++ [r889]), (runeEnd r23 s754.2))
  else
    some s754.1
def lines_line (fu : Nat) (p0 : api_Inst) : Option ByteArray :=
  (ops_Name p0.Op).bind fun r11 =>
  (lines_order p0.Op).bind fun r23 =>
  (loop (lines_line_l1 p0 r23) fu ([r11], 0)).bind fun o465 =>
  (strings_Join o465 (⟨[32].toArray⟩)).bind fun r911 =>
  some r911

def lines_Print_l1 (fu : Nat) (p0 : List api_Inst) (i231 : Nat) (again : ByteArray → Option ByteArray) (s229 : ByteArray) : Option ByteArray :=
  (idx p0 (i231 : Int)).bind fun x243 =>
  (lines_line fu x243).bind fun r262 =>
  (catB r262 (⟨[10].toArray⟩)).bind fun x266 =>
  (strings_Builder_WriteString s229 x266).bind fun r268 =>
  again r268
def lines_Print (fu : Nat) (p0 : List api_Inst) : Option (ByteArray × Int) :=
  (ops_Right p0).bind fun r8 =>
  if (!r8) then
    some (ByteArray.empty, 12)
  else
    (forN (lines_Print_l1 fu p0) (fun (s229 : ByteArray) => s229) (p0).length 0 ByteArray.empty).bind fun o144 =>
    some (o144, 0)

def stringslite_Cut (p0 : ByteArray) (p1 : ByteArray) : Option (ByteArray × ByteArray × Bool) :=
  (stringslite_Index p0 p1).bind fun r5 =>
  if decide (r5 ≥ 0) then
    (scut p0 0 r5).bind fun x18 =>
    (scut p0 (w64 (r5 + (p1.size : Int))) ((p0).size : Int)).bind fun x20 =>
    some (x18, x20, true)
  else
    some (p0, ByteArray.empty, false)

def strings_Cut (p0 : ByteArray) (p1 : ByteArray) : Option (ByteArray × ByteArray × Bool) :=
  (stringslite_Cut p0 p1).bind fun r5 =>
  some (r5.1, r5.2.1, r5.2.2)

def ops_Find_l1 (p0 : ByteArray) (i72 : Nat) (again : Unit → Option (Unit ⊕ (Int × Bool))) (s71 : Unit) : Option (Unit ⊕ (Int × Bool)) :=
  (idx tab_g0 (i72 : Int)).bind fun x80 =>
  if sEq x80.name p0 then
    some (.inr ((i72 : Int), true))
  else
    again ()
def ops_Find (p0 : ByteArray) : Option (Int × Bool) :=
  (forN (ops_Find_l1 p0) (fun (s71 : Unit) => (.inl ())) 23 0 ()).bind fun o42 => match o42 with
    | .inl t44 =>
      some (0, false)
    | .inr r => some r

def lines_register (p0 : ByteArray) : Option (Int × Bool) :=
  (if ((p0.size : Int) != 2) then
    some true
  else
    (sidx p0 0).bind fun c11 =>
    if (c11 != 114) then
      some true
    else
      (sidx p0 1).bind fun c14 =>
      if decide (c14 < 48) then
        some true
      else
        some (decide (c14 > 55))).bind fun o8 =>
  if o8 then
    some (0, false)
  else
    (sidx p0 1).bind fun c20 =>
    some (w64 (IntKind.u8.wrap (c20 - 48)), true)

def lines_read_l1 (r50 : ByteArray) (ys67 : List ByteArray) (i713 : Nat) (again : api_Inst → Option (api_Inst ⊕ (api_Inst × Bool))) (s712 : api_Inst) : Option (api_Inst ⊕ (api_Inst × Bool)) :=
  (idx ys67 (i713 : Int)).bind fun x722 =>
  (lines_register x722).bind fun r732 =>
  (strconv_ParseInt x722 10 64).bind fun r741 =>
  ((sidx r50 (i713 : Int)).bind fun c753 =>
  if (c753 == 100) then
    some r732.2
  else
    some false).bind fun o751 =>
  if o751 then
    again (api_Inst.mk s712.Op r732.1 s712.A s712.B s712.Imm)
  else
    ((sidx r50 (i713 : Int)).bind fun c766 =>
    if (c766 == 97) then
      some r732.2
    else
      some false).bind fun o764 =>
    if o764 then
      again (api_Inst.mk s712.Op s712.D r732.1 s712.B s712.Imm)
    else
      ((sidx r50 (i713 : Int)).bind fun c779 =>
      if (c779 == 115) then
        some r732.2
      else
        some false).bind fun o777 =>
      if o777 then
        again (api_Inst.mk s712.Op s712.D s712.A r732.1 s712.Imm)
      else
        if r741.2 then
          some (.inr ((api_Inst.mk 0 0 0 0 0), false))
        else
          (sidx r50 (i713 : Int)).bind fun c790 =>
          if (c790 == 115) then
            again (api_Inst.mk s712.Op s712.D s712.A 8 r741.1)
          else
            if (c790 == 106) then
              again (api_Inst.mk s712.Op r741.1 s712.A s712.B s712.Imm)
            else
              if (c790 == 110) then
                again (api_Inst.mk s712.Op s712.D s712.A s712.B r741.1)
              else
                some (.inr ((api_Inst.mk 0 0 0 0 0), false))
def lines_read (fu : Nat) (p0 : ByteArray) : Option (api_Inst × Bool) :=
  (strings_Split p0 (⟨[32].toArray⟩)).bind fun r13 =>
  (idx r13 0).bind fun x36 =>
  (ops_Find x36).bind fun r42 =>
  (lines_order r42.1).bind fun r50 =>
  if ((!r42.2) || (((r13).length : Int) != (w64 ((r50.size : Int) + 1)))) then
    some ((api_Inst.mk 0 0 0 0 0), false)
  else
    (cut r13 1 (r13.length : Int)).bind fun ys67 =>
    (forN (lines_read_l1 r50 ys67) (fun (s712 : api_Inst) => (.inl s712)) (ys67).length 0 (api_Inst.mk r42.1 0 0 0 0)).bind fun o436 => match o436 with
      | .inl t438 =>
        ((ops_Right ([t438])).bind fun r834 =>
        if r834 then
          (lines_line fu t438).bind fun r839 =>
          some (sEq r839 p0)
        else
          some false).bind fun o828 =>
        some (t438, o828)
      | .inr r => some r

def lines_Parse_l1 (fu : Nat) (again : (ByteArray × (List api_Inst) × Int) → Option ((List api_Inst) ⊕ ((List api_Inst) × Int × Int))) (s243 : ByteArray × (List api_Inst) × Int) : Option ((List api_Inst) ⊕ ((List api_Inst) × Int × Int)) :=
  if sNe s243.1 ByteArray.empty then
    (strings_Cut s243.1 (⟨[10].toArray⟩)).bind fun r253 =>
    (lines_read fu r253.1).bind fun r264 =>
    if ((!r253.2.2) || (!r264.2)) then
      some (.inr (([] : List api_Inst), s243.2.2, 20))
    else
      (room (s243.2.1.length + ([r264.1]).length) 40).bind fun u284 =>
      again (r253.2.1, (s243.2.1 ++ [r264.1]), w64 (s243.2.2 + 1))
  else
    some (.inl s243.2.1)
def lines_Parse (fu : Nat) (p0 : ByteArray) : Option ((List api_Inst) × Int × Int) :=
  (loop (lines_Parse_l1 fu) fu (p0, ([] : List api_Inst), 1)).bind fun o145 => match o145 with
    | .inl t147 =>
      some (t147, 0, 0)
    | .inr r => some r

def tappetlaw03_awake (fu : Nat)  : Option Bool :=
  (lines_Print fu ([(api_Inst.mk 1 1 2 3 0)])).bind fun r9 =>
  (lines_Parse fu (⟨[106, 108, 116, 32, 114, 52, 32, 45, 49, 32, 50, 10].toArray⟩)).bind fun r21 =>
  (if sEq r9.1 (⟨[97, 100, 100, 32, 114, 49, 32, 114, 50, 32, 114, 51, 10].toArray⟩) then
    if (r9.2 == 0) then
      if (((r21.1).length : Int) == 1) then
        (idx r21.1 0).bind fun x45 =>
        if ((x45.Op == 18) && ((x45.D == 2) && ((x45.A == 4) && ((x45.B == 8) && ((x45.Imm == (-1)) && true))))) then
          if (r21.2.1 == 0) then
            some (r21.2.2 == 0)
          else
            some false
        else
          some false
      else
        some false
    else
      some false
  else
    some false).bind fun o40 =>
  some o40

def tappetref02_reg (p0 : Int) : Option Bool :=
  some (decide (p0 ≥ 0) && decide (p0 ≤ 7))

def tappetref02_sourced (p0 : api_Inst) : Option Bool :=
  ((tappetref02_reg p0.B).bind fun r17 =>
  if r17 then
    if (p0.Imm == 0) then
      some true
    else
      some (p0.B == 8)
  else
    some (p0.B == 8)).bind fun o15 =>
  some o15

def tappetref02_Three (p0 : Int) : Option Bool :=
  some (decide (p0 ≥ 1) && decide (p0 ≤ 10))

def tappetref02_Jump (p0 : Int) : Option Bool :=
  some (decide (p0 ≥ 16) && decide (p0 ≤ 19))

def tappetref02_Right (p0 : api_Inst) : Option Bool :=
  if ((p0.Op == 0) || (p0.Op == 11)) then
    ((tappetref02_reg p0.D).bind fun r23 =>
    if r23 then
      if (p0.A == 0) then
        (tappetref02_sourced p0).bind fun r29 =>
        some r29
      else
        some false
    else
      some false).bind fun o21 =>
    some o21
  else
    (tappetref02_Three p0.Op).bind fun r37 =>
    if r37 then
      ((tappetref02_reg p0.D).bind fun r62 =>
      if r62 then
        (tappetref02_reg p0.A).bind fun r67 =>
        if r67 then
          (tappetref02_sourced p0).bind fun r72 =>
          some r72
        else
          some false
      else
        some false).bind fun o60 =>
      some o60
    else
      if (p0.Op == 12) then
        (if (p0.D == 0) then
          (tappetref02_reg p0.A).bind fun r90 =>
          if r90 then
            (tappetref02_sourced p0).bind fun r95 =>
            some r95
          else
            some false
        else
          some false).bind fun o87 =>
        some o87
      else
        if (p0.Op == 13) then
          ((tappetref02_reg p0.D).bind fun r114 =>
          if r114 then
            if (p0.A == 0) then
              if (p0.B == 0) then
                if (p0.Imm == 0) then
                  some true
                else
                  some (p0.Imm == 1)
              else
                some false
            else
              some false
          else
            some false).bind fun o112 =>
          some o112
        else
          if (p0.Op == 14) then
            ((tappetref02_reg p0.D).bind fun r137 =>
            if r137 then
              if (p0.A == 0) then
                if (p0.B == 0) then
                  if decide (p0.Imm ≥ 0) then
                    some (decide (p0.Imm ≤ 3))
                  else
                    some false
                else
                  some false
              else
                some false
            else
              some false).bind fun o135 =>
            some o135
          else
            if (p0.Op == 15) then
              some ((((decide (p0.D ≥ 0) && decide (p0.D ≤ 63)) && (p0.A == 0)) && (p0.B == 0)) && (p0.Imm == 0))
            else
              (tappetref02_Jump p0.Op).bind fun r154 =>
              if r154 then
                (if decide (p0.D ≥ 0) then
                  if decide (p0.D ≤ 63) then
                    (tappetref02_reg p0.A).bind fun r174 =>
                    if r174 then
                      (tappetref02_sourced p0).bind fun r179 =>
                      some r179
                    else
                      some false
                  else
                    some false
                else
                  some false).bind fun o170 =>
                some o170
              else
                if (p0.Op == 20) then
                  (if decide (p0.D ≥ 1) then
                    if decide (p0.D ≤ 63) then
                      (tappetref02_reg p0.A).bind fun r197 =>
                      if r197 then
                        if (p0.B == 0) then
                          if decide (p0.Imm ≥ 1) then
                            some (decide (p0.Imm ≤ 255))
                          else
                            some false
                        else
                          some false
                      else
                        some false
                    else
                      some false
                  else
                    some false).bind fun o193 =>
                  some o193
                else
                  if (p0.Op == 21) then
                    some (((((p0.D == 0) && (p0.A == 0)) && (p0.B == 0)) && decide (p0.Imm ≥ 0)) && decide (p0.Imm ≤ 6))
                  else
                    if (p0.Op == 22) then
                      (if (p0.D == 0) then
                        (tappetref02_reg p0.A).bind fun r220 =>
                        if r220 then
                          if (p0.B == 0) then
                            some (p0.Imm == 0)
                          else
                            some false
                        else
                          some false
                      else
                        some false).bind fun o217 =>
                      some o217
                    else
                      some false

def tappetref02_names  : Option (List ByteArray) :=
  some ([⟨[115, 101, 116].toArray⟩, ⟨[97, 100, 100].toArray⟩, ⟨[115, 117, 98].toArray⟩, ⟨[109, 117, 108].toArray⟩, ⟨[100, 105, 118].toArray⟩, ⟨[114, 101, 109].toArray⟩, ⟨[97, 110, 100].toArray⟩, ⟨[111, 114].toArray⟩, ⟨[120, 111, 114].toArray⟩, ⟨[115, 104, 108].toArray⟩, ⟨[115, 104, 114].toArray⟩, ⟨[108, 111, 97, 100].toArray⟩, ⟨[115, 116, 111, 114, 101].toArray⟩, ⟨[102, 105, 101, 108, 100].toArray⟩, ⟨[109, 97, 112].toArray⟩, ⟨[106, 117, 109, 112].toArray⟩, ⟨[106, 101, 113].toArray⟩, ⟨[106, 110, 101].toArray⟩, ⟨[106, 108, 116].toArray⟩, ⟨[106, 103, 101].toArray⟩, ⟨[108, 111, 111, 112].toArray⟩, ⟨[99, 97, 108, 108].toArray⟩, ⟨[101, 120, 105, 116].toArray⟩])

def tappetref02_Name (p0 : Int) : Option ByteArray :=
  tappetref02_names.bind fun r9 =>
  if (decide (p0 < 0) || decide (p0 ≥ ((r9).length : Int))) then
    some ByteArray.empty
  else
    (idx r9 p0).bind fun x25 =>
    some x25

def tappetref03_Number_l1 (again : (Int × ByteArray) → Option ByteArray) (s59 : Int × ByteArray) : Option ByteArray :=
  (scut (⟨[48, 49, 50, 51, 52, 53, 54, 55, 56, 57].toArray⟩) (s59.1.tmod 10) (wu64 ((s59.1.tmod 10) + 1))).bind fun x64 =>
  (catB x64 s59.2).bind fun x66 =>
  if ((wu64 (s59.1.tdiv 10)) == 0) then
    some x66
  else
    again (wu64 (s59.1.tdiv 10), x66)
def tappetref03_Number (fu : Nat) (p0 : Int) : Option ByteArray :=
  (if decide (p0 < 0) then
    some (wu64 (0 - (wu64 p0)))
  else
    some (wu64 p0)).bind fun o2 =>
  (loop tappetref03_Number_l1 fu (o2, ByteArray.empty)).bind fun o36 =>
  if decide (p0 < 0) then
    (catB (⟨[45].toArray⟩) o36).bind fun x72 =>
    some x72
  else
    some o36

def tappetref03_r (fu : Nat) (p0 : Int) : Option ByteArray :=
  (tappetref03_Number fu p0).bind fun r7 =>
  (catB (⟨[114].toArray⟩) r7).bind fun x11 =>
  some x11

def tappetref03_source (fu : Nat) (p0 : api_Inst) : Option ByteArray :=
  if (p0.B == 8) then
    (tappetref03_Number fu p0.Imm).bind fun r10 =>
    some r10
  else
    (tappetref03_r fu p0.B).bind fun r18 =>
    some r18

def tappetref03_Line (fu : Nat) (p0 : api_Inst) : Option ByteArray :=
  (tappetref02_Name p0.Op).bind fun r11 =>
  (catB r11 (⟨[32].toArray⟩)).bind fun x15 =>
  if ((p0.Op == 0) || (p0.Op == 11)) then
    (tappetref03_r fu p0.D).bind fun r37 =>
    (catB x15 r37).bind fun x41 =>
    (catB x41 (⟨[32].toArray⟩)).bind fun x43 =>
    (tappetref03_source fu p0).bind fun r45 =>
    (catB x43 r45).bind fun x49 =>
    some x49
  else
    if decide (p0.Op ≤ 10) then
      (tappetref03_r fu p0.D).bind fun r78 =>
      (catB x15 r78).bind fun x82 =>
      (catB x82 (⟨[32].toArray⟩)).bind fun x84 =>
      (tappetref03_r fu p0.A).bind fun r86 =>
      (catB x84 r86).bind fun x90 =>
      (catB x90 (⟨[32].toArray⟩)).bind fun x92 =>
      (tappetref03_source fu p0).bind fun r94 =>
      (catB x92 r94).bind fun x98 =>
      some x98
    else
      if (p0.Op == 12) then
        (tappetref03_r fu p0.A).bind fun r119 =>
        (catB x15 r119).bind fun x123 =>
        (catB x123 (⟨[32].toArray⟩)).bind fun x125 =>
        (tappetref03_source fu p0).bind fun r127 =>
        (catB x125 r127).bind fun x131 =>
        some x131
      else
        if ((p0.Op == 13) || (p0.Op == 14)) then
          (tappetref03_r fu p0.D).bind fun r153 =>
          (catB x15 r153).bind fun x157 =>
          (catB x157 (⟨[32].toArray⟩)).bind fun x159 =>
          (tappetref03_Number fu p0.Imm).bind fun r161 =>
          (catB x159 r161).bind fun x165 =>
          some x165
        else
          if (p0.Op == 15) then
            (tappetref03_Number fu p0.D).bind fun r174 =>
            (catB x15 r174).bind fun x178 =>
            some x178
          else
            if decide (p0.Op ≤ 19) then
              (tappetref03_r fu p0.A).bind fun r207 =>
              (catB x15 r207).bind fun x211 =>
              (catB x211 (⟨[32].toArray⟩)).bind fun x213 =>
              (tappetref03_source fu p0).bind fun r215 =>
              (catB x213 r215).bind fun x219 =>
              (catB x219 (⟨[32].toArray⟩)).bind fun x221 =>
              (tappetref03_Number fu p0.D).bind fun r223 =>
              (catB x221 r223).bind fun x227 =>
              some x227
            else
              if (p0.Op == 20) then
                (tappetref03_r fu p0.A).bind fun r256 =>
                (catB x15 r256).bind fun x260 =>
                (catB x260 (⟨[32].toArray⟩)).bind fun x262 =>
                (tappetref03_Number fu p0.D).bind fun r264 =>
                (catB x262 r264).bind fun x268 =>
                (catB x268 (⟨[32].toArray⟩)).bind fun x270 =>
                (tappetref03_Number fu p0.Imm).bind fun r272 =>
                (catB x270 r272).bind fun x276 =>
                some x276
              else
                if (p0.Op == 21) then
                  (tappetref03_Number fu p0.Imm).bind fun r285 =>
                  (catB x15 r285).bind fun x289 =>
                  some x289
                else
                  (tappetref03_r fu p0.A).bind fun r297 =>
                  (catB x15 r297).bind fun x301 =>
                  some x301

def tappetref03_Print_l1 (fu : Nat) (p0 : List api_Inst) (i391 : Nat) (again : (List Int) → Option ((List Int) ⊕ (ByteArray × Int))) (s389 : (List Int)) : Option ((List Int) ⊕ (ByteArray × Int)) :=
  (idx p0 (i391 : Int)).bind fun x407 =>
  (tappetref02_Right x407).bind fun r413 =>
  if (!r413) then
    some (.inr (ByteArray.empty, 12))
  else
    (tappetref03_Line fu x407).bind fun r437 =>
    (room (s389.length + r437.size) 1).bind fun u441 =>
    (room ((s389 ++ bytesOf r437).length + ([10] : List Int).length) 1).bind fun u459 =>
    again ((s389 ++ bytesOf r437) ++ ([10] : List Int))
def tappetref03_Print (fu : Nat) (p0 : List api_Inst) : Option (ByteArray × Int) :=
  (forN (tappetref03_Print_l1 fu p0) (fun (s389 : (List Int)) => (.inl s389)) (p0).length 0 ([] : List Int)).bind fun o234 => match o234 with
    | .inl t236 =>
      some ((strOfNums t236), 0)
    | .inr r => some r

def tappetlaw03_alike_l1 (p0 : List api_Inst) (p1 : List api_Inst) (i171 : Nat) (again : Unit → Option (Unit ⊕ Bool)) (s170 : Unit) : Option (Unit ⊕ Bool) :=
  (idx p0 (i171 : Int)).bind fun x190 =>
  (idx p1 (i171 : Int)).bind fun x196 =>
  if (!((x190.Op == x196.Op) && ((x190.D == x196.D) && ((x190.A == x196.A) && ((x190.B == x196.B) && ((x190.Imm == x196.Imm) && true)))))) then
    some (.inr false)
  else
    again ()
def tappetlaw03_alike (p0 : List api_Inst) (p1 : List api_Inst) : Option Bool :=
  if (((p0).length : Int) != ((p1).length : Int)) then
    some false
  else
    (forN (tappetlaw03_alike_l1 p0 p1) (fun (s170 : Unit) => (.inl ())) (p0).length 0 ()).bind fun o104 => match o104 with
      | .inl t106 =>
        some true
      | .inr r => some r

def tappetlaw03_LinesPrints_l1 (fu : Nat) (p0 : List api_Inst) (i280 : Nat) (again : Unit → Option (Unit ⊕ Bool)) (s279 : Unit) : Option (Unit ⊕ Bool) :=
  (idx p0 (i280 : Int)).bind fun x295 =>
  (lines_Print fu ([x295])).bind fun r303 =>
  (cut p0 (i280 : Int) (w64 ((i280 : Int) + 1))).bind fun ys314 =>
  (tappetref03_Print fu ys314).bind fun r317 =>
  if (sNe r303.1 r317.1 || (r303.2 != r317.2)) then
    some (.inr false)
  else
    again ()
def tappetlaw03_LinesPrints (fu : Nat) (p0 : List api_Inst) : Option Bool :=
  (tappetlaw03_awake fu).bind fun r8 =>
  if (!r8) then
    some false
  else
    (room (([] : List api_Inst).length + p0.length) 40).bind fun u24 =>
    (lines_Print fu (([] : List api_Inst) ++ p0)).bind fun r35 =>
    (tappetref03_Print fu p0).bind fun r43 =>
    (if sNe r35.1 r43.1 then
      some true
    else
      if (r35.2 != r43.2) then
        some true
      else
        (tappetlaw03_alike (([] : List api_Inst) ++ p0) p0).bind fun r57 =>
        some (!r57)).bind fun o53 =>
    if o53 then
      some false
    else
      (forN (tappetlaw03_LinesPrints_l1 fu p0) (fun (s279 : Unit) => (.inl ())) (p0).length 0 ()).bind fun o191 => match o191 with
        | .inl t193 =>
          some true
        | .inr r => some r

def tappetref03_words_l1 (p0 : ByteArray) (again : ((List ByteArray) × Int × Int) → Option (List ByteArray)) (s194 : (List ByteArray) × Int × Int) : Option (List ByteArray) :=
  if decide (s194.2.2 ≤ (p0.size : Int)) then
    (if (s194.2.2 == (p0.size : Int)) then
      some true
    else
      (sidx p0 s194.2.2).bind fun c206 =>
      some (c206 == 32)).bind fun o203 =>
    if o203 then
      (scut p0 s194.2.1 s194.2.2).bind fun x220 =>
      (room (s194.1.length + ([x220]).length) 16).bind fun u224 =>
      again ((s194.1 ++ [x220]), w64 (s194.2.2 + 1), w64 (s194.2.2 + 1))
    else
      again (s194.1, s194.2.1, w64 (s194.2.2 + 1))
  else
    some s194.1
def tappetref03_words (fu : Nat) (p0 : ByteArray) : Option (List ByteArray) :=
  (loop (tappetref03_words_l1 p0) fu (([] : List ByteArray), 0, 0)).bind fun o116 =>
  some o116

def tappetref02_Find_l1 (p0 : ByteArray) (r9 : (List ByteArray)) (i100 : Nat) (again : Unit → Option (Unit ⊕ (Int × Bool))) (s99 : Unit) : Option (Unit ⊕ (Int × Bool)) :=
  (idx r9 (i100 : Int)).bind fun x109 =>
  if sEq x109 p0 then
    some (.inr ((i100 : Int), true))
  else
    again ()
def tappetref02_Find (p0 : ByteArray) : Option (Int × Bool) :=
  tappetref02_names.bind fun r9 =>
  (forN (tappetref02_Find_l1 p0 r9) (fun (s99 : Unit) => (.inl ())) (r9).length 0 ()).bind fun o65 => match o65 with
    | .inl t67 =>
      some (0, false)
    | .inr r => some r

def tappetref03_value_l1 (p0 : ByteArray) (i151 : Nat) (again : (Int × Int) → Option ((Int × Int) ⊕ (Int × Bool))) (s150 : Int × Int) : Option ((Int × Int) ⊕ (Int × Bool)) :=
  ((sidx p0 (i151 : Int)).bind fun c163 =>
  if (c163 == 45) then
    some ((i151 : Int) == 0)
  else
    some false).bind fun o161 =>
  if o161 then
    again (s150.1, s150.2)
  else
    ((sidx p0 (i151 : Int)).bind fun c174 =>
    if decide (c174 < 48) then
      some true
    else
      some (decide (c174 > 57))).bind fun o172 =>
    if o172 then
      some (.inr (0, false))
    else
      (sidx p0 (i151 : Int)).bind fun c180 =>
      again (wu64 ((wu64 (10 * s150.1)) + (wu64 (IntKind.u8.wrap (c180 - 48)))), w64 (s150.2 + 1))
def tappetref03_value (p0 : ByteArray) : Option (Int × Bool) :=
  ((room p0.size 1).bind fun u153 =>
  forN (tappetref03_value_l1 p0) (fun (s150 : Int × Int) => (.inl (s150.1, s150.2))) p0.size 0 (0, 0)).bind fun o90 => match o90 with
    | .inl t92 =>
      if (t92.2 == 0) then
        some (0, false)
      else
        (sidx p0 0).bind fun c185 =>
        if (c185 == 45) then
          some (w64 (wu64 (0 - t92.1)), true)
        else
          some (w64 t92.1, true)
    | .inr r => some r

def tappetref03_Read_l1 (r13 : (List ByteArray)) (again : ((List Int) × (List Int) × (List Bool) × Int) → Option (((List Int) × (List Int) × (List Bool)) ⊕ (api_Inst × Bool))) (s652 : (List Int) × (List Int) × (List Bool) × Int) : Option (((List Int) × (List Int) × (List Bool)) ⊕ (api_Inst × Bool)) :=
  if decide (s652.2.2.2 < ((r13).length : Int)) then
    ((idx r13 s652.2.2.2).bind fun x675 =>
    if ((x675.size : Int) == 2) then
      (sidx x675 0).bind fun c686 =>
      some (c686 == 114)
    else
      some false).bind fun o673 =>
    if o673 then
      (idx r13 s652.2.2.2).bind fun x704 =>
      (sidx x704 1).bind fun c710 =>
      (idx s652.1 (w64 (s652.2.2.2 - 1))).bind fun x712 =>
      (idx s652.2.2.1 (w64 (s652.2.2.2 - 1))).bind fun x726 =>
      again ((s652.1.set (Int.toNat (w64 (s652.2.2.2 - 1))) (w64 ((w64 c710) - 48))), s652.2.1, (s652.2.2.1.set (Int.toNat (w64 (s652.2.2.2 - 1))) true), w64 (s652.2.2.2 + 1))
    else
      (idx r13 s652.2.2.2).bind fun x743 =>
      (tappetref03_value x743).bind fun r749 =>
      if (!r749.2) then
        some (.inr ((api_Inst.mk 0 0 0 0 0), false))
      else
        (idx s652.2.1 (w64 (s652.2.2.2 - 1))).bind fun x763 =>
        again (s652.1, (s652.2.1.set (Int.toNat (w64 (s652.2.2.2 - 1))) r749.1), s652.2.2.1, w64 (s652.2.2.2 + 1))
  else
    some (.inl (s652.1, s652.2.1, s652.2.2.1))
def tappetref03_Read (fu : Nat) (p0 : ByteArray) : Option (api_Inst × Bool) :=
  (tappetref03_words fu p0).bind fun r13 =>
  (idx r13 0).bind fun x31 =>
  (tappetref02_Find x31).bind fun r37 =>
  if ((!r37.2) || decide (((r13).length : Int) > 4)) then
    some ((api_Inst.mk 0 0 0 0 0), false)
  else
    (loop (tappetref03_Read_l1 r13) fu (([0, 0, 0] : List Int), ([0, 0, 0] : List Int), [false, false, false], 1)).bind fun o412 => match o412 with
      | .inl t414 =>
        (if ((r37.1 == 0) || (r37.1 == 11)) then
          (idx t414.1 0).bind fun x993 =>
          some ((api_Inst.mk r37.1 x993 0 0 0), 1)
        else
          if decide (r37.1 ≤ 10) then
            (idx t414.1 0).bind fun x1008 =>
            (idx t414.1 1).bind fun x1022 =>
            some ((api_Inst.mk r37.1 x1008 x1022 0 0), 2)
          else
            if (r37.1 == 12) then
              (idx t414.1 0).bind fun x1037 =>
              some ((api_Inst.mk r37.1 0 x1037 0 0), 1)
            else
              if ((r37.1 == 13) || (r37.1 == 14)) then
                (idx t414.1 0).bind fun x1053 =>
                (idx t414.2.1 1).bind fun x1067 =>
                some ((api_Inst.mk r37.1 x1053 0 0 x1067), 0)
              else
                if (r37.1 == 15) then
                  (idx t414.2.1 0).bind fun x1082 =>
                  some ((api_Inst.mk r37.1 x1082 0 0 0), 0)
                else
                  if decide (r37.1 ≤ 19) then
                    (idx t414.1 0).bind fun x1097 =>
                    (idx t414.2.1 2).bind fun x1111 =>
                    some ((api_Inst.mk r37.1 x1111 x1097 0 0), 1)
                  else
                    if (r37.1 == 20) then
                      (idx t414.1 0).bind fun x1126 =>
                      (idx t414.2.1 1).bind fun x1140 =>
                      (idx t414.2.1 2).bind fun x1154 =>
                      some ((api_Inst.mk r37.1 x1140 x1126 0 x1154), 0)
                    else
                      if (r37.1 == 21) then
                        (idx t414.2.1 0).bind fun x1169 =>
                        some ((api_Inst.mk r37.1 0 0 0 x1169), 0)
                      else
                        (idx t414.1 0).bind fun x1183 =>
                        some ((api_Inst.mk r37.1 0 x1183 0 0), 0)).bind fun o982 =>
        (if decide (o982.2 > 0) then
          (idx t414.2.2 o982.2).bind fun x1200 =>
          some x1200
        else
          some false).bind fun o1197 =>
        (if o1197 then
          (idx t414.1 o982.2).bind fun x1248 =>
          some (api_Inst.mk o982.1.Op o982.1.D o982.1.A x1248 o982.1.Imm)
        else
          if decide (o982.2 > 0) then
            (idx t414.2.1 o982.2).bind fun x1265 =>
            some (api_Inst.mk o982.1.Op o982.1.D o982.1.A 8 x1265)
          else
            some o982.1).bind fun o1238 =>
        ((tappetref02_Right o1238).bind fun r1295 =>
        if r1295 then
          (tappetref03_Line fu o1238).bind fun r1300 =>
          some (sEq r1300 p0)
        else
          some false).bind fun o1291 =>
        some (o1238, o1291)
      | .inr r => some r

def tappetref03_Parse_l1 (fu : Nat) (p0 : ByteArray) (i256 : Nat) (again : ((List api_Inst) × Int) → Option (((List api_Inst) × Int) ⊕ ((List api_Inst) × Int × Int))) (s254 : (List api_Inst) × Int) : Option (((List api_Inst) × Int) ⊕ ((List api_Inst) × Int × Int)) :=
  (sidx p0 (i256 : Int)).bind fun c266 =>
  if (c266 != 10) then
    again (s254.1, s254.2)
  else
    (scut p0 s254.2 (i256 : Int)).bind fun x279 =>
    (tappetref03_Read fu x279).bind fun r281 =>
    if (!r281.2) then
      some (.inr (([] : List api_Inst), w64 (((s254.1).length : Int) + 1), 20))
    else
      (room (s254.1.length + ([r281.1]).length) 40).bind fun u300 =>
      again ((s254.1 ++ [r281.1]), w64 ((i256 : Int) + 1))
def tappetref03_Parse (fu : Nat) (p0 : ByteArray) : Option ((List api_Inst) × Int × Int) :=
  ((room p0.size 1).bind fun u258 =>
  forN (tappetref03_Parse_l1 fu p0) (fun (s254 : (List api_Inst) × Int) => (.inl (s254.1, s254.2))) p0.size 0 (([] : List api_Inst), 0)).bind fun o153 => match o153 with
    | .inl t155 =>
      if decide (t155.2 < (p0.size : Int)) then
        some (([] : List api_Inst), w64 (((t155.1).length : Int) + 1), 20)
      else
        some (t155.1, 0, 0)
    | .inr r => some r

def tappetlaw03_LinesParses (fu : Nat) (p0 : ByteArray) : Option Bool :=
  (tappetlaw03_awake fu).bind fun r5 =>
  if (!r5) then
    some false
  else
    (lines_Parse fu p0).bind fun r18 =>
    (tappetref03_Parse fu p0).bind fun r34 =>
    ((tappetlaw03_alike r18.1 r34.1).bind fun r54 =>
    if r54 then
      if (r18.2.1 == r34.2.1) then
        some (r18.2.2 == r34.2.2)
      else
        some false
    else
      some false).bind fun o52 =>
    some o52

def tappetlaw03_LinesFresh_l1 (again : ((List api_Inst) × Int) → Option (List api_Inst)) (s162 : (List api_Inst) × Int) : Option (List api_Inst) :=
  if decide (s162.2 < ((s162.1).length : Int)) then
    (idx s162.1 s162.2).bind fun x175 =>
    again ((s162.1.set (Int.toNat s162.2) (api_Inst.mk 77 0 0 0 0)), w64 (s162.2 + 1))
  else
    some s162.1
def tappetlaw03_LinesFresh (fu : Nat) (p0 : List api_Inst) : Option Bool :=
  (tappetlaw03_awake fu).bind fun r8 =>
  if (!r8) then
    some false
  else
    (lines_Print fu p0).bind fun r17 =>
    (lines_Parse fu r17.1).bind fun r29 =>
    (lines_Parse fu r17.1).bind fun r45 =>
    (loop tappetlaw03_LinesFresh_l1 fu (r29.1, 0)).bind fun o117 =>
    (lines_Parse fu r17.1).bind fun r196 =>
    (room (o117.length + ([(api_Inst.mk 78 0 0 0 0), (api_Inst.mk 79 0 0 0 0)]).length) 40).bind fun u215 =>
    ((tappetlaw03_alike r45.1 r196.1).bind fun r233 =>
    if r233 then
      some ((((o117 ++ [(api_Inst.mk 78 0 0 0 0), (api_Inst.mk 79 0 0 0 0)])).length : Int) == (w64 (((r45.1).length : Int) + 2)))
    else
      some false).bind fun o231 =>
    some o231

def tappetlaw03_LinesEach_l2 (r527 : ByteArray × Int) (i577 : Nat) (again : Int → Option Int) (s576 : Int) : Option Int :=
  (sidx r527.1 (i577 : Int)).bind fun c584 =>
  if (c584 == 10) then
    again (w64 (s576 + 1))
  else
    again s576
def tappetlaw03_LinesEach_l1 (fu : Nat) (p0 : List api_Inst) (r17 : ByteArray × Int) (i504 : Nat) (again : ByteArray → Option (ByteArray ⊕ Bool)) (s503 : ByteArray) : Option (ByteArray ⊕ Bool) :=
  (idx p0 (i504 : Int)).bind fun x519 =>
  (lines_Print fu ([x519])).bind fun r527 =>
  if (r527.2 != 0) then
    some (.inr ((r17.2 == 12) && sEq r17.1 ByteArray.empty))
  else
    ((room r527.1.size 1).bind fun u579 =>
    forN (tappetlaw03_LinesEach_l2 r527) (fun (s576 : Int) => s576) r527.1.size 0 0).bind fun o559 =>
    (if (o559 != 1) then
      some true
    else
      (sidx r527.1 (w64 ((r527.1.size : Int) - 1))).bind fun c593 =>
      some (c593 != 10)).bind fun o590 =>
    if o590 then
      some (.inr false)
    else
      (catB s503 r527.1).bind fun x598 =>
      again x598
def tappetlaw03_LinesEach (fu : Nat) (p0 : List api_Inst) : Option Bool :=
  (tappetlaw03_awake fu).bind fun r8 =>
  if (!r8) then
    some false
  else
    (lines_Print fu p0).bind fun r17 =>
    (forN (tappetlaw03_LinesEach_l1 fu p0 r17) (fun (s503 : ByteArray) => (.inl s503)) (p0).length 0 ByteArray.empty).bind fun o309 => match o309 with
      | .inl t311 =>
        some ((r17.2 == 0) && sEq t311 r17.1)
      | .inr r => some r

def tappetlaw03_LinesBack (fu : Nat) (p0 : List api_Inst) (p1 : ByteArray) : Option Bool :=
  (tappetlaw03_awake fu).bind fun r8 =>
  if (!r8) then
    some false
  else
    (lines_Print fu p0).bind fun r17 =>
    ((if (r17.2 == 0) then
      (lines_Parse fu r17.1).bind fun r82 =>
      (if (r82.2.2 != 0) then
        some true
      else
        if (r82.2.1 != 0) then
          some true
        else
          (tappetlaw03_alike p0 r82.1).bind fun r100 =>
          some (!r100)).bind fun o96 =>
      if o96 then
        some (.inr false)
      else
        some (.inl ())
    else
      ((ops_Right p0).bind fun r116 =>
      if r116 then
        some true
      else
        some (sNe r17.1 ByteArray.empty)).bind fun o114 =>
      if o114 then
        some (.inr false)
      else
        some (.inl ())) : Option (Unit ⊕ Bool)).bind fun o70 => match o70 with
      | .inl t72 =>
        (lines_Parse fu p1).bind fun r130 =>
        if (r130.2.2 != 0) then
          some (((r130.2.2 == 20) && decide (r130.2.1 ≥ 1)) && (((r130.1).length : Int) == 0))
        else
          (lines_Print fu r130.1).bind fun r145 =>
          some (((r145.2 == 0) && sEq r145.1 p1) && (r130.2.1 == 0))
      | .inr r => some r

def tappetlaw03_LinesJoined (fu : Nat) (p0 : ByteArray) (p1 : ByteArray) : Option Bool :=
  (tappetlaw03_awake fu).bind fun r5 =>
  if (!r5) then
    some false
  else
    (lines_Parse fu p0).bind fun r18 =>
    (lines_Parse fu p1).bind fun r34 =>
    if (r18.2.2 != 0) then
      some true
    else
      (catB p0 p1).bind fun x53 =>
      (lines_Parse fu x53).bind fun r55 =>
      if (r34.2.2 != 0) then
        some (((r55.2.2 == r34.2.2) && (r55.2.1 == (w64 (r34.2.1 + ((r18.1).length : Int))))) && (((r55.1).length : Int) == 0))
      else
        (if (r55.2.2 == 0) then
          if (r55.2.1 == 0) then
            (room (([] : List api_Inst).length + r18.1.length) 40).bind fun u94 =>
            (room ((([] : List api_Inst) ++ r18.1).length + r34.1.length) 40).bind fun u101 =>
            (tappetlaw03_alike r55.1 ((([] : List api_Inst) ++ r18.1) ++ r34.1)).bind fun r108 =>
            some r108
          else
            some false
        else
          some false).bind fun o88 =>
        some o88

end Go.Proofs.YteaedkohbgediaaDoor
