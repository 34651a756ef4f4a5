/- Written by a program (wip/gen) from the translation: what each Go function computes, as a plain Lean function. -/
import Derived.Test.YteaedkohbgediaaDoorOpen
import Derived.Test.YteaedkohbgediaaDoorPart
import Derived.Test.YteaedkohbgediaaDoorExt
import Derived.Test.YteaedkohbgediaaDoorStr
namespace Go.Proofs.YteaedkohbgediaaDoor
open Go.Sx
set_option linter.unusedVariables false

structure ops_form where
  name : ByteArray
  fields : ByteArray

def enc_ops_form (x : ops_form) : List Value := [.string x.name, .string x.fields]

def tab_g0 : List ops_form := [(ops_form.mk (⟨[115, 101, 116].toArray⟩) (⟨[100, 115].toArray⟩)),
  (ops_form.mk (⟨[97, 100, 100].toArray⟩) (⟨[100, 97, 115].toArray⟩)),
  (ops_form.mk (⟨[115, 117, 98].toArray⟩) (⟨[100, 97, 115].toArray⟩)),
  (ops_form.mk (⟨[109, 117, 108].toArray⟩) (⟨[100, 97, 115].toArray⟩)),
  (ops_form.mk (⟨[100, 105, 118].toArray⟩) (⟨[100, 97, 115].toArray⟩)),
  (ops_form.mk (⟨[114, 101, 109].toArray⟩) (⟨[100, 97, 115].toArray⟩)),
  (ops_form.mk (⟨[97, 110, 100].toArray⟩) (⟨[100, 97, 115].toArray⟩)),
  (ops_form.mk (⟨[111, 114].toArray⟩) (⟨[100, 97, 115].toArray⟩)),
  (ops_form.mk (⟨[120, 111, 114].toArray⟩) (⟨[100, 97, 115].toArray⟩)),
  (ops_form.mk (⟨[115, 104, 108].toArray⟩) (⟨[100, 97, 115].toArray⟩)),
  (ops_form.mk (⟨[115, 104, 114].toArray⟩) (⟨[100, 97, 115].toArray⟩)),
  (ops_form.mk (⟨[108, 111, 97, 100].toArray⟩) (⟨[100, 115].toArray⟩)),
  (ops_form.mk (⟨[115, 116, 111, 114, 101].toArray⟩) (⟨[97, 115].toArray⟩)),
  (ops_form.mk (⟨[102, 105, 101, 108, 100].toArray⟩) (⟨[100, 102].toArray⟩)),
  (ops_form.mk (⟨[109, 97, 112].toArray⟩) (⟨[100, 109].toArray⟩)),
  (ops_form.mk (⟨[106, 117, 109, 112].toArray⟩) (⟨[106].toArray⟩)),
  (ops_form.mk (⟨[106, 101, 113].toArray⟩) (⟨[106, 97, 115].toArray⟩)),
  (ops_form.mk (⟨[106, 110, 101].toArray⟩) (⟨[106, 97, 115].toArray⟩)),
  (ops_form.mk (⟨[106, 108, 116].toArray⟩) (⟨[106, 97, 115].toArray⟩)),
  (ops_form.mk (⟨[106, 103, 101].toArray⟩) (⟨[106, 97, 115].toArray⟩)),
  (ops_form.mk (⟨[108, 111, 111, 112].toArray⟩) (⟨[98, 97, 110].toArray⟩)),
  (ops_form.mk (⟨[99, 97, 108, 108].toArray⟩) (⟨[104].toArray⟩)),
  (ops_form.mk (⟨[101, 120, 105, 116].toArray⟩) (⟨[97].toArray⟩))]

structure api_Inst where
  Op : Int
  D : Int
  A : Int
  B : Int
  Imm : Int

def enc_api_Inst (x : api_Inst) : List Value := [.int .i64 x.Op, .int .i64 x.D, .int .i64 x.A, .int .i64 x.B, .int .i64 x.Imm]

structure strings_Builder where
  addr : ByteArray
  buf : List Int

def R_t42 : Rp ByteArray := bldP 45 5

def ops_of (p0 : Int) : Option (ops_form × Bool) :=
  if (decide (p0 < 0) || decide (p0 ≥ 23)) then
    some ((ops_form.mk ByteArray.empty ByteArray.empty), false)
  else
    (idx tab_g0 p0).bind fun x12 =>
    some (x12, true)

def ops_register (p0 : Int) : Option Bool :=
  some (decide (p0 ≥ 0) && decide (p0 < 8))

def ops_within (p0 : Int) (p1 : Int) (p2 : Int) : Option Bool :=
  some (decide (p0 ≥ p1) && decide (p0 ≤ p2))

def ops_right_l1 (p0 : api_Inst) (r12 : ops_form × Bool) (i610 : Nat) (again : (Bool × api_Inst) → Option (Bool × api_Inst)) (s609 : Bool × api_Inst) : Option (Bool × api_Inst) :=
  (sidx r12.1.fields (i610 : Int)).bind fun c617 =>
  if (c617 == 100) then
    if s609.1 then
      (ops_register p0.D).bind fun r621 =>
      again (r621, (api_Inst.mk s609.2.Op 0 s609.2.A s609.2.B s609.2.Imm))
    else
      again (false, (api_Inst.mk s609.2.Op 0 s609.2.A s609.2.B s609.2.Imm))
  else
    if (c617 == 97) then
      if s609.1 then
        (ops_register p0.A).bind fun r629 =>
        again (r629, (api_Inst.mk s609.2.Op s609.2.D 0 s609.2.B s609.2.Imm))
      else
        again (false, (api_Inst.mk s609.2.Op s609.2.D 0 s609.2.B s609.2.Imm))
    else
      if (c617 == 115) then
        if (p0.B == 8) then
          again (s609.1, (api_Inst.mk s609.2.Op s609.2.D s609.2.A 0 0))
        else
          if s609.1 then
            (ops_register p0.B).bind fun r642 =>
            again (r642, (api_Inst.mk s609.2.Op s609.2.D s609.2.A 0 s609.2.Imm))
          else
            again (false, (api_Inst.mk s609.2.Op s609.2.D s609.2.A 0 s609.2.Imm))
      else
        if (c617 == 102) then
          if s609.1 then
            (ops_within p0.Imm 0 1).bind fun r648 =>
            again (r648, (api_Inst.mk s609.2.Op s609.2.D s609.2.A s609.2.B 0))
          else
            again (false, (api_Inst.mk s609.2.Op s609.2.D s609.2.A s609.2.B 0))
        else
          if (c617 == 109) then
            if s609.1 then
              (ops_within p0.Imm 0 3).bind fun r656 =>
              again (r656, (api_Inst.mk s609.2.Op s609.2.D s609.2.A s609.2.B 0))
            else
              again (false, (api_Inst.mk s609.2.Op s609.2.D s609.2.A s609.2.B 0))
          else
            if (c617 == 104) then
              if s609.1 then
                (ops_within p0.Imm 0 6).bind fun r664 =>
                again (r664, (api_Inst.mk s609.2.Op s609.2.D s609.2.A s609.2.B 0))
              else
                again (false, (api_Inst.mk s609.2.Op s609.2.D s609.2.A s609.2.B 0))
            else
              if (c617 == 110) then
                if s609.1 then
                  (ops_within p0.Imm 1 255).bind fun r672 =>
                  again (r672, (api_Inst.mk s609.2.Op s609.2.D s609.2.A s609.2.B 0))
                else
                  again (false, (api_Inst.mk s609.2.Op s609.2.D s609.2.A s609.2.B 0))
              else
                if (c617 == 106) then
                  if s609.1 then
                    (ops_within p0.D 0 63).bind fun r680 =>
                    again (r680, (api_Inst.mk s609.2.Op 0 s609.2.A s609.2.B s609.2.Imm))
                  else
                    again (false, (api_Inst.mk s609.2.Op 0 s609.2.A s609.2.B s609.2.Imm))
                else
                  if (c617 == 98) then
                    if s609.1 then
                      (ops_within p0.D 1 63).bind fun r688 =>
                      again (r688, (api_Inst.mk s609.2.Op 0 s609.2.A s609.2.B s609.2.Imm))
                    else
                      again (false, (api_Inst.mk s609.2.Op 0 s609.2.A s609.2.B s609.2.Imm))
                  else
                    again (s609.1, s609.2)
def ops_right (p0 : api_Inst) : Option Bool :=
  (ops_of p0.Op).bind fun r12 =>
  if (!r12.2) then
    some false
  else
    ((room r12.1.fields.size 1).bind fun u612 =>
    forN (ops_right_l1 p0 r12) (fun (s609 : Bool × api_Inst) => (s609.1, s609.2)) r12.1.fields.size 0 (r12.2, (api_Inst.mk 0 p0.D p0.A p0.B p0.Imm))).bind fun o364 =>
    (if o364.1 then
      some ((o364.2.Op == 0) && ((o364.2.D == 0) && ((o364.2.A == 0) && ((o364.2.B == 0) && ((o364.2.Imm == 0) && true)))))
    else
      some false).bind fun o695 =>
    some o695

def ops_Right_l1 (p0 : List api_Inst) (i157 : Nat) (again : Unit → Option (Unit ⊕ Bool)) (s156 : Unit) : Option (Unit ⊕ Bool) :=
  (idx p0 (i157 : Int)).bind fun x169 =>
  (ops_right x169).bind fun r182 =>
  if (!r182) then
    some (.inr false)
  else
    again ()
def ops_Right (p0 : List api_Inst) : Option Bool :=
  (forN (ops_Right_l1 p0) (fun (s156 : Unit) => (.inl ())) (p0).length 0 ()).bind fun o94 => match o94 with
    | .inl t96 =>
      some true
    | .inr r => some r

def ops_Name (p0 : Int) : Option ByteArray :=
  (ops_of p0).bind fun r8 =>
  some r8.1.name

def lines_order (p0 : Int) : Option ByteArray :=
  (if (p0 == 0) then
    some (p0 == 0)
  else
    some (p0 == 11)).bind fun o2 =>
  if o2 then
    some (⟨[100, 115].toArray⟩)
  else
    if (p0 == 12) then
      some (⟨[97, 115].toArray⟩)
    else
      (if (p0 == 13) then
        some (p0 == 13)
      else
        some (p0 == 14)).bind fun o8 =>
      if o8 then
        some (⟨[100, 110].toArray⟩)
      else
        if (p0 == 15) then
          some (⟨[106].toArray⟩)
        else
          (if (p0 == 16) then
            some (p0 == 16)
          else
            if (p0 == 17) then
              some (p0 == 17)
            else
              if (p0 == 18) then
                some (p0 == 18)
              else
                some (p0 == 19)).bind fun o16 =>
          if o16 then
            some (⟨[97, 115, 106].toArray⟩)
          else
            if (p0 == 20) then
              some (⟨[97, 106, 110].toArray⟩)
            else
              if (p0 == 21) then
                some (⟨[110].toArray⟩)
              else
                if (p0 == 22) then
                  some (⟨[97].toArray⟩)
                else
                  some (⟨[100, 97, 115].toArray⟩)

def lines_reg (p0 : Int) : Option ByteArray :=
  (strconv_Itoa p0).bind fun r7 =>
  (catB (⟨[114].toArray⟩) r7).bind fun x11 =>
  some x11

def lines_line_l1 (p0 : api_Inst) (r23 : ByteArray) (again : ((List ByteArray) × Nat) → Option (List ByteArray)) (s754 : (List ByteArray) × Nat) : Option (List ByteArray) :=
  if decide (s754.2 < r23.size) then
    if ((runeAt r23 s754.2) == 100) then
      (lines_reg p0.D).bind fun r777 =>
      (room (s754.1.length + ([r777]).length) 16).bind fun u783 =>
      again ((s754.1 ++ [r777]), (runeEnd r23 s754.2))
    else
      if ((runeAt r23 s754.2) == 97) then
        (lines_reg p0.A).bind fun r805 =>
        (room (s754.1.length + ([r805]).length) 16).bind fun u811 =>
        again ((s754.1 ++ [r805]), (runeEnd r23 s754.2))
      else
        if ((runeAt r23 s754.2) == 106) then
          (strconv_Itoa p0.D).bind fun r833 =>
          (room (s754.1.length + ([r833]).length) 16).bind fun u839 =>
          again ((s754.1 ++ [r833]), (runeEnd r23 s754.2))
        else
          if (((runeAt r23 s754.2) == 115) && (p0.B != 8)) then
            (lines_reg p0.B).bind fun r862 =>
            (room (s754.1.length + ([r862]).length) 16).bind fun u868 =>
            again ((s754.1 ++ [r862]), (runeEnd r23 s754.2))
          else
            (strconv_FormatInt p0.Imm 10).bind fun r889 =>
            (room (s754.1.length + ([r889]).length) 16).bind fun u895 =>
            again ((s754.1 ++ [r889]), (runeEnd r23 s754.2))
  else
    some s754.1
def lines_line (fu : Nat) (p0 : api_Inst) : Option ByteArray :=
  (ops_Name p0.Op).bind fun r11 =>
  (lines_order p0.Op).bind fun r23 =>
  (loop (lines_line_l1 p0 r23) fu ([r11], 0)).bind fun o465 =>
  (strings_Join o465 (⟨[32].toArray⟩)).bind fun r911 =>
  some r911

def lines_Print_l1 (fu : Nat) (p0 : List api_Inst) (i231 : Nat) (again : ByteArray → Option ByteArray) (s229 : ByteArray) : Option ByteArray :=
  (idx p0 (i231 : Int)).bind fun x243 =>
  (lines_line fu x243).bind fun r262 =>
  (catB r262 (⟨[10].toArray⟩)).bind fun x266 =>
  (strings_Builder_WriteString s229 x266).bind fun r268 =>
  again r268
def lines_Print (fu : Nat) (p0 : List api_Inst) : Option (ByteArray × Int) :=
  (ops_Right p0).bind fun r8 =>
  if (!r8) then
    some (ByteArray.empty, 12)
  else
    (forN (lines_Print_l1 fu p0) (fun (s229 : ByteArray) => s229) (p0).length 0 ByteArray.empty).bind fun o144 =>
    some (o144, 0)

def stringslite_Cut (p0 : ByteArray) (p1 : ByteArray) : Option (ByteArray × ByteArray × Bool) :=
  (stringslite_Index p0 p1).bind fun r5 =>
  if decide (r5 ≥ 0) then
    (scut p0 0 r5).bind fun x18 =>
    (scut p0 (w64 (r5 + (p1.size : Int))) ((p0).size : Int)).bind fun x20 =>
    some (x18, x20, true)
  else
    some (p0, ByteArray.empty, false)

def strings_Cut (p0 : ByteArray) (p1 : ByteArray) : Option (ByteArray × ByteArray × Bool) :=
  (stringslite_Cut p0 p1).bind fun r5 =>
  some (r5.1, r5.2.1, r5.2.2)

def ops_Find_l1 (p0 : ByteArray) (i72 : Nat) (again : Unit → Option (Unit ⊕ (Int × Bool))) (s71 : Unit) : Option (Unit ⊕ (Int × Bool)) :=
  (idx tab_g0 (i72 : Int)).bind fun x80 =>
  if sEq x80.name p0 then
    some (.inr ((i72 : Int), true))
  else
    again ()
def ops_Find (p0 : ByteArray) : Option (Int × Bool) :=
  (forN (ops_Find_l1 p0) (fun (s71 : Unit) => (.inl ())) 23 0 ()).bind fun o42 => match o42 with
    | .inl t44 =>
      some (0, false)
    | .inr r => some r

def lines_register (p0 : ByteArray) : Option (Int × Bool) :=
  (if ((p0.size : Int) != 2) then
    some true
  else
    (sidx p0 0).bind fun c11 =>
    if (c11 != 114) then
      some true
    else
      (sidx p0 1).bind fun c14 =>
      if decide (c14 < 48) then
        some true
      else
        some (decide (c14 > 55))).bind fun o8 =>
  if o8 then
    some (0, false)
  else
    (sidx p0 1).bind fun c20 =>
    some (w64 (IntKind.u8.wrap (c20 - 48)), true)

def lines_read_l1 (r50 : ByteArray) (ys67 : List ByteArray) (i713 : Nat) (again : api_Inst → Option (api_Inst ⊕ (api_Inst × Bool))) (s712 : api_Inst) : Option (api_Inst ⊕ (api_Inst × Bool)) :=
  (idx ys67 (i713 : Int)).bind fun x722 =>
  (lines_register x722).bind fun r732 =>
  (strconv_ParseInt x722 10 64).bind fun r741 =>
  ((sidx r50 (i713 : Int)).bind fun c753 =>
  if (c753 == 100) then
    some r732.2
  else
    some false).bind fun o751 =>
  if o751 then
    again (api_Inst.mk s712.Op r732.1 s712.A s712.B s712.Imm)
  else
    ((sidx r50 (i713 : Int)).bind fun c766 =>
    if (c766 == 97) then
      some r732.2
    else
      some false).bind fun o764 =>
    if o764 then
      again (api_Inst.mk s712.Op s712.D r732.1 s712.B s712.Imm)
    else
      ((sidx r50 (i713 : Int)).bind fun c779 =>
      if (c779 == 115) then
        some r732.2
      else
        some false).bind fun o777 =>
      if o777 then
        again (api_Inst.mk s712.Op s712.D s712.A r732.1 s712.Imm)
      else
        if r741.2 then
          some (.inr ((api_Inst.mk 0 0 0 0 0), false))
        else
          (sidx r50 (i713 : Int)).bind fun c790 =>
          if (c790 == 115) then
            again (api_Inst.mk s712.Op s712.D s712.A 8 r741.1)
          else
            if (c790 == 106) then
              again (api_Inst.mk s712.Op r741.1 s712.A s712.B s712.Imm)
            else
              if (c790 == 110) then
                again (api_Inst.mk s712.Op s712.D s712.A s712.B r741.1)
              else
                some (.inr ((api_Inst.mk 0 0 0 0 0), false))
def lines_read (fu : Nat) (p0 : ByteArray) : Option (api_Inst × Bool) :=
  (strings_Split p0 (⟨[32].toArray⟩)).bind fun r13 =>
  (idx r13 0).bind fun x36 =>
  (ops_Find x36).bind fun r42 =>
  (lines_order r42.1).bind fun r50 =>
  if ((!r42.2) || (((r13).length : Int) != (w64 ((r50.size : Int) + 1)))) then
    some ((api_Inst.mk 0 0 0 0 0), false)
  else
    (cut r13 1 (r13.length : Int)).bind fun ys67 =>
    (forN (lines_read_l1 r50 ys67) (fun (s712 : api_Inst) => (.inl s712)) (ys67).length 0 (api_Inst.mk r42.1 0 0 0 0)).bind fun o436 => match o436 with
      | .inl t438 =>
        ((ops_Right ([t438])).bind fun r834 =>
        if r834 then
          (lines_line fu t438).bind fun r839 =>
          some (sEq r839 p0)
        else
          some false).bind fun o828 =>
        some (t438, o828)
      | .inr r => some r

def lines_Parse_l1 (fu : Nat) (again : (ByteArray × (List api_Inst) × Int) → Option ((List api_Inst) ⊕ ((List api_Inst) × Int × Int))) (s243 : ByteArray × (List api_Inst) × Int) : Option ((List api_Inst) ⊕ ((List api_Inst) × Int × Int)) :=
  if sNe s243.1 ByteArray.empty then
    (strings_Cut s243.1 (⟨[10].toArray⟩)).bind fun r253 =>
    (lines_read fu r253.1).bind fun r264 =>
    if ((!r253.2.2) || (!r264.2)) then
      some (.inr (([] : List api_Inst), s243.2.2, 20))
    else
      (room (s243.2.1.length + ([r264.1]).length) 40).bind fun u284 =>
      again (r253.2.1, (s243.2.1 ++ [r264.1]), w64 (s243.2.2 + 1))
  else
    some (.inl s243.2.1)
def lines_Parse (fu : Nat) (p0 : ByteArray) : Option ((List api_Inst) × Int × Int) :=
  (loop (lines_Parse_l1 fu) fu (p0, ([] : List api_Inst), 1)).bind fun o145 => match o145 with
    | .inl t147 =>
      some (t147, 0, 0)
    | .inr r => some r

def tappetlaw03_awake (fu : Nat)  : Option Bool :=
  (lines_Print fu ([(api_Inst.mk 1 1 2 3 0)])).bind fun r9 =>
  (lines_Parse fu (⟨[106, 108, 116, 32, 114, 52, 32, 45, 49, 32, 50, 10].toArray⟩)).bind fun r21 =>
  (if sEq r9.1 (⟨[97, 100, 100, 32, 114, 49, 32, 114, 50, 32, 114, 51, 10].toArray⟩) then
    if (r9.2 == 0) then
      if (((r21.1).length : Int) == 1) then
        (idx r21.1 0).bind fun x45 =>
        if ((x45.Op == 18) && ((x45.D == 2) && ((x45.A == 4) && ((x45.B == 8) && ((x45.Imm == (-1)) && true))))) then
          if (r21.2.1 == 0) then
            some (r21.2.2 == 0)
          else
            some false
        else
          some false
      else
        some false
    else
      some false
  else
    some false).bind fun o40 =>
  some o40

def tappetlaw03_alike_l1 (p0 : List api_Inst) (p1 : List api_Inst) (i171 : Nat) (again : Unit → Option (Unit ⊕ Bool)) (s170 : Unit) : Option (Unit ⊕ Bool) :=
  (idx p0 (i171 : Int)).bind fun x190 =>
  (idx p1 (i171 : Int)).bind fun x196 =>
  if (!((x190.Op == x196.Op) && ((x190.D == x196.D) && ((x190.A == x196.A) && ((x190.B == x196.B) && ((x190.Imm == x196.Imm) && true)))))) then
    some (.inr false)
  else
    again ()
def tappetlaw03_alike (p0 : List api_Inst) (p1 : List api_Inst) : Option Bool :=
  if (((p0).length : Int) != ((p1).length : Int)) then
    some false
  else
    (forN (tappetlaw03_alike_l1 p0 p1) (fun (s170 : Unit) => (.inl ())) (p0).length 0 ()).bind fun o104 => match o104 with
      | .inl t106 =>
        some true
      | .inr r => some r

def tappetlaw03_LinesFresh_l1 (again : ((List api_Inst) × Int) → Option (List api_Inst)) (s162 : (List api_Inst) × Int) : Option (List api_Inst) :=
  if decide (s162.2 < ((s162.1).length : Int)) then
    (idx s162.1 s162.2).bind fun x175 =>
    again ((s162.1.set (Int.toNat s162.2) (api_Inst.mk 77 0 0 0 0)), w64 (s162.2 + 1))
  else
    some s162.1
def tappetlaw03_LinesFresh (fu : Nat) (p0 : List api_Inst) : Option Bool :=
  (tappetlaw03_awake fu).bind fun r8 =>
  if (!r8) then
    some false
  else
    (lines_Print fu p0).bind fun r17 =>
    (lines_Parse fu r17.1).bind fun r29 =>
    (lines_Parse fu r17.1).bind fun r45 =>
    (loop tappetlaw03_LinesFresh_l1 fu (r29.1, 0)).bind fun o117 =>
    (lines_Parse fu r17.1).bind fun r196 =>
    (room (o117.length + ([(api_Inst.mk 78 0 0 0 0), (api_Inst.mk 79 0 0 0 0)]).length) 40).bind fun u215 =>
    ((tappetlaw03_alike r45.1 r196.1).bind fun r233 =>
    if r233 then
      some ((((o117 ++ [(api_Inst.mk 78 0 0 0 0), (api_Inst.mk 79 0 0 0 0)])).length : Int) == (w64 (((r45.1).length : Int) + 2)))
    else
      some false).bind fun o231 =>
    some o231

def tappetlaw03_LinesEach_l2 (r527 : ByteArray × Int) (i577 : Nat) (again : Int → Option Int) (s576 : Int) : Option Int :=
  (sidx r527.1 (i577 : Int)).bind fun c584 =>
  if (c584 == 10) then
    again (w64 (s576 + 1))
  else
    again s576
def tappetlaw03_LinesEach_l1 (fu : Nat) (p0 : List api_Inst) (r17 : ByteArray × Int) (i504 : Nat) (again : ByteArray → Option (ByteArray ⊕ Bool)) (s503 : ByteArray) : Option (ByteArray ⊕ Bool) :=
  (idx p0 (i504 : Int)).bind fun x519 =>
  (lines_Print fu ([x519])).bind fun r527 =>
  if (r527.2 != 0) then
    some (.inr ((r17.2 == 12) && sEq r17.1 ByteArray.empty))
  else
    ((room r527.1.size 1).bind fun u579 =>
    forN (tappetlaw03_LinesEach_l2 r527) (fun (s576 : Int) => s576) r527.1.size 0 0).bind fun o559 =>
    (if (o559 != 1) then
      some true
    else
      (sidx r527.1 (w64 ((r527.1.size : Int) - 1))).bind fun c593 =>
      some (c593 != 10)).bind fun o590 =>
    if o590 then
      some (.inr false)
    else
      (catB s503 r527.1).bind fun x598 =>
      again x598
def tappetlaw03_LinesEach (fu : Nat) (p0 : List api_Inst) : Option Bool :=
  (tappetlaw03_awake fu).bind fun r8 =>
  if (!r8) then
    some false
  else
    (lines_Print fu p0).bind fun r17 =>
    (forN (tappetlaw03_LinesEach_l1 fu p0 r17) (fun (s503 : ByteArray) => (.inl s503)) (p0).length 0 ByteArray.empty).bind fun o309 => match o309 with
      | .inl t311 =>
        some ((r17.2 == 0) && sEq t311 r17.1)
      | .inr r => some r

def tappetlaw03_LinesBack (fu : Nat) (p0 : List api_Inst) (p1 : ByteArray) : Option Bool :=
  (tappetlaw03_awake fu).bind fun r8 =>
  if (!r8) then
    some false
  else
    (lines_Print fu p0).bind fun r17 =>
    ((if (r17.2 == 0) then
      (lines_Parse fu r17.1).bind fun r82 =>
      (if (r82.2.2 != 0) then
        some true
      else
        if (r82.2.1 != 0) then
          some true
        else
          (tappetlaw03_alike p0 r82.1).bind fun r100 =>
          some (!r100)).bind fun o96 =>
      if o96 then
        some (.inr false)
      else
        some (.inl ())
    else
      ((ops_Right p0).bind fun r116 =>
      if r116 then
        some true
      else
        some (sNe r17.1 ByteArray.empty)).bind fun o114 =>
      if o114 then
        some (.inr false)
      else
        some (.inl ())) : Option (Unit ⊕ Bool)).bind fun o70 => match o70 with
      | .inl t72 =>
        (lines_Parse fu p1).bind fun r130 =>
        if (r130.2.2 != 0) then
          some (((r130.2.2 == 20) && decide (r130.2.1 ≥ 1)) && (((r130.1).length : Int) == 0))
        else
          (lines_Print fu r130.1).bind fun r145 =>
          some (((r145.2 == 0) && sEq r145.1 p1) && (r130.2.1 == 0))
      | .inr r => some r

def tappetlaw03_LinesJoined (fu : Nat) (p0 : ByteArray) (p1 : ByteArray) : Option Bool :=
  (tappetlaw03_awake fu).bind fun r5 =>
  if (!r5) then
    some false
  else
    (lines_Parse fu p0).bind fun r18 =>
    (lines_Parse fu p1).bind fun r34 =>
    if (r18.2.2 != 0) then
      some true
    else
      (catB p0 p1).bind fun x53 =>
      (lines_Parse fu x53).bind fun r55 =>
      if (r34.2.2 != 0) then
        some (((r55.2.2 == r34.2.2) && (r55.2.1 == (w64 (r34.2.1 + ((r18.1).length : Int))))) && (((r55.1).length : Int) == 0))
      else
        (if (r55.2.2 == 0) then
          if (r55.2.1 == 0) then
            (room (([] : List api_Inst).length + r18.1.length) 40).bind fun u94 =>
            (room ((([] : List api_Inst) ++ r18.1).length + r34.1.length) 40).bind fun u101 =>
            (tappetlaw03_alike r55.1 ((([] : List api_Inst) ++ r18.1) ++ r34.1)).bind fun r108 =>
            some r108
          else
            some false
        else
          some false).bind fun o88 =>
        some o88

end Go.Proofs.YteaedkohbgediaaDoor
