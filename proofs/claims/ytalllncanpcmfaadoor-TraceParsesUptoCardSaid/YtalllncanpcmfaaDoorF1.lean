/- Written by a program (wip/gen) from the translation: what each Go function computes, as a plain Lean function. -/
import Derived.Test.YtalllncanpcmfaaDoorOpen
import Derived.Test.YtalllncanpcmfaaDoorPart
import Derived.Test.YtalllncanpcmfaaDoorExt
import Derived.Test.YtalllncanpcmfaaDoorStr
import Derived.Test.YtalllncanpcmfaaDoorStr2
namespace Go.Proofs.YtalllncanpcmfaaDoor
open Go.Sx
set_option linter.unusedVariables false

structure api_Item where
  Map : Int
  Op : Int
  Key : Int
  Val : Int

def enc_api_Item (x : api_Item) : List Value := [.int .i64 x.Map, .int .i64 x.Op, .int .u64 x.Key, .int .u64 x.Val]

structure api_Res where
  E : Int
  Found : Bool
  Val : Int
  Out : Bool
  OutKey : Int
  OutVal : Int

def enc_api_Res (x : api_Res) : List Value := [.int .i64 x.E, .bool x.Found, .int .u64 x.Val, .bool x.Out, .int .u64 x.OutKey, .int .u64 x.OutVal]

structure api_Entry where
  What : Int
  Task : Int
  From : Int
  Cmd : Int
  Tag : Int
  Event : Int
  Hook : Int
  Prog : Int
  Version : Int
  Pc : Int
  Item : api_Item
  Res : api_Res
  Val : Int
  E : Int

def enc_api_Entry (x : api_Entry) : List Value := [.int .i64 x.What, .int .i64 x.Task, .int .i64 x.From, .int .i64 x.Cmd, .int .i64 x.Tag, .int .i64 x.Event, .int .i64 x.Hook, .int .i64 x.Prog, .int .i64 x.Version, .int .i64 x.Pc, .int .i64 x.Item.Map, .int .i64 x.Item.Op, .int .u64 x.Item.Key, .int .u64 x.Item.Val, .int .i64 x.Res.E, .bool x.Res.Found, .int .u64 x.Res.Val, .bool x.Res.Out, .int .u64 x.Res.OutKey, .int .u64 x.Res.OutVal, .int .u64 x.Val, .int .i64 x.E]

structure trace_form where
  name : ByteArray
  fields : ByteArray

def enc_trace_form (x : trace_form) : List Value := [.string x.name, .string x.fields]

def tab_g0 : List trace_form := [(trace_form.mk ByteArray.empty ByteArray.empty),
  (trace_form.mk (⟨[99, 97, 108, 108].toArray⟩) (⟨[116, 99].toArray⟩)),
  (trace_form.mk (⟨[114, 101, 116, 117, 114, 110].toArray⟩) (⟨[116, 99, 120, 110].toArray⟩)),
  (trace_form.mk (⟨[97, 112, 112, 108, 121].toArray⟩) (⟨[116, 102, 99, 103, 101, 73, 82].toArray⟩)),
  (trace_form.mk (⟨[97, 99, 99, 101, 112, 116].toArray⟩) (⟨[116, 99, 104, 101].toArray⟩)),
  (trace_form.mk (⟨[116, 97, 107, 101].toArray⟩) (⟨[116, 104, 101].toArray⟩)),
  (trace_form.mk (⟨[101, 110, 116, 101, 114].toArray⟩) (⟨[116, 104, 101, 112, 118].toArray⟩)),
  (trace_form.mk (⟨[114, 97, 110].toArray⟩) (⟨[116, 101, 112, 118, 97, 110].toArray⟩)),
  (trace_form.mk (⟨[110, 111, 116, 101].toArray⟩) (⟨[116, 101, 112, 118, 97, 110].toArray⟩)),
  (trace_form.mk (⟨[100, 111, 110, 101].toArray⟩) (⟨[116, 104, 101, 112, 118, 97, 110].toArray⟩)),
  (trace_form.mk (⟨[100, 114, 111, 112].toArray⟩) (⟨[116, 104, 101].toArray⟩)),
  (trace_form.mk (⟨[112, 117, 98, 108, 105, 115, 104].toArray⟩) (⟨[116, 104, 112, 118].toArray⟩)),
  (trace_form.mk (⟨[108, 111, 97, 100, 101, 100].toArray⟩) (⟨[116, 112].toArray⟩)),
  (trace_form.mk (⟨[114, 101, 116, 105, 114, 101, 100].toArray⟩) (⟨[116, 112].toArray⟩)),
  (trace_form.mk (⟨[99, 108, 111, 115, 101, 100].toArray⟩) (⟨[116].toArray⟩)),
  (trace_form.mk (⟨[101, 110, 100].toArray⟩) (⟨[116].toArray⟩)),
  (trace_form.mk (⟨[97, 115, 107].toArray⟩) (⟨[116, 101, 112, 118, 97, 73].toArray⟩)),
  (trace_form.mk (⟨[98, 97, 99, 107].toArray⟩) (⟨[116, 101, 112, 118, 97, 82].toArray⟩))]

def geto_api_Entry (x : api_Entry) (k : Nat) : Int :=
  if k = 0 then x.What else if k = 1 then x.Task else if k = 2 then x.From else if k = 3 then x.Cmd else if k = 4 then x.Tag else if k = 5 then x.Event else if k = 6 then x.Hook else if k = 7 then x.Prog else if k = 8 then x.Version else if k = 9 then x.Pc else if k = 10 then x.Item.Map else if k = 11 then x.Item.Op else if k = 12 then x.Item.Key else if k = 13 then x.Item.Val else if k = 14 then x.Res.E else if k = 16 then x.Res.Val else if k = 18 then x.Res.OutKey else if k = 19 then x.Res.OutVal else if k = 20 then x.Val else if k = 21 then x.E else 0

def puto_api_Entry (x : api_Entry) (k : Nat) (v : Int) : api_Entry :=
  if k = 0 then (api_Entry.mk v x.Task x.From x.Cmd x.Tag x.Event x.Hook x.Prog x.Version x.Pc x.Item x.Res x.Val x.E) else
  if k = 1 then (api_Entry.mk x.What v x.From x.Cmd x.Tag x.Event x.Hook x.Prog x.Version x.Pc x.Item x.Res x.Val x.E) else
  if k = 2 then (api_Entry.mk x.What x.Task v x.Cmd x.Tag x.Event x.Hook x.Prog x.Version x.Pc x.Item x.Res x.Val x.E) else
  if k = 3 then (api_Entry.mk x.What x.Task x.From v x.Tag x.Event x.Hook x.Prog x.Version x.Pc x.Item x.Res x.Val x.E) else
  if k = 4 then (api_Entry.mk x.What x.Task x.From x.Cmd v x.Event x.Hook x.Prog x.Version x.Pc x.Item x.Res x.Val x.E) else
  if k = 5 then (api_Entry.mk x.What x.Task x.From x.Cmd x.Tag v x.Hook x.Prog x.Version x.Pc x.Item x.Res x.Val x.E) else
  if k = 6 then (api_Entry.mk x.What x.Task x.From x.Cmd x.Tag x.Event v x.Prog x.Version x.Pc x.Item x.Res x.Val x.E) else
  if k = 7 then (api_Entry.mk x.What x.Task x.From x.Cmd x.Tag x.Event x.Hook v x.Version x.Pc x.Item x.Res x.Val x.E) else
  if k = 8 then (api_Entry.mk x.What x.Task x.From x.Cmd x.Tag x.Event x.Hook x.Prog v x.Pc x.Item x.Res x.Val x.E) else
  if k = 9 then (api_Entry.mk x.What x.Task x.From x.Cmd x.Tag x.Event x.Hook x.Prog x.Version v x.Item x.Res x.Val x.E) else
  if k = 10 then (api_Entry.mk x.What x.Task x.From x.Cmd x.Tag x.Event x.Hook x.Prog x.Version x.Pc (api_Item.mk v x.Item.Op x.Item.Key x.Item.Val) x.Res x.Val x.E) else
  if k = 11 then (api_Entry.mk x.What x.Task x.From x.Cmd x.Tag x.Event x.Hook x.Prog x.Version x.Pc (api_Item.mk x.Item.Map v x.Item.Key x.Item.Val) x.Res x.Val x.E) else
  if k = 12 then (api_Entry.mk x.What x.Task x.From x.Cmd x.Tag x.Event x.Hook x.Prog x.Version x.Pc (api_Item.mk x.Item.Map x.Item.Op v x.Item.Val) x.Res x.Val x.E) else
  if k = 13 then (api_Entry.mk x.What x.Task x.From x.Cmd x.Tag x.Event x.Hook x.Prog x.Version x.Pc (api_Item.mk x.Item.Map x.Item.Op x.Item.Key v) x.Res x.Val x.E) else
  if k = 14 then (api_Entry.mk x.What x.Task x.From x.Cmd x.Tag x.Event x.Hook x.Prog x.Version x.Pc x.Item (api_Res.mk v x.Res.Found x.Res.Val x.Res.Out x.Res.OutKey x.Res.OutVal) x.Val x.E) else
  if k = 16 then (api_Entry.mk x.What x.Task x.From x.Cmd x.Tag x.Event x.Hook x.Prog x.Version x.Pc x.Item (api_Res.mk x.Res.E x.Res.Found v x.Res.Out x.Res.OutKey x.Res.OutVal) x.Val x.E) else
  if k = 18 then (api_Entry.mk x.What x.Task x.From x.Cmd x.Tag x.Event x.Hook x.Prog x.Version x.Pc x.Item (api_Res.mk x.Res.E x.Res.Found x.Res.Val x.Res.Out v x.Res.OutVal) x.Val x.E) else
  if k = 19 then (api_Entry.mk x.What x.Task x.From x.Cmd x.Tag x.Event x.Hook x.Prog x.Version x.Pc x.Item (api_Res.mk x.Res.E x.Res.Found x.Res.Val x.Res.Out x.Res.OutKey v) x.Val x.E) else
  if k = 20 then (api_Entry.mk x.What x.Task x.From x.Cmd x.Tag x.Event x.Hook x.Prog x.Version x.Pc x.Item x.Res v x.E) else
  if k = 21 then (api_Entry.mk x.What x.Task x.From x.Cmd x.Tag x.Event x.Hook x.Prog x.Version x.Pc x.Item x.Res x.Val v) else
  x

def whK (c : Int) : Option Nat :=
  if c = 116 then some 1 else if c = 102 then some 2 else if c = 99 then some 3 else if c = 103 then some 4 else if c = 101 then some 5 else if c = 104 then some 6 else if c = 112 then some 7 else if c = 118 then some 8 else if c = 97 then some 9 else if c = 109 then some 10 else none

def R_t46 : Rp api_Entry := flatP (enc_api_Entry) 22 (fun _ => rfl)

def R_t88 : Rp api_Entry := ptrP 46 R_t46

def wdK (c : Int) : Option Nat :=
  if c = 110 then some 20 else if c = 107 then some 12 else if c = 119 then some 13 else if c = 114 then some 16 else if c = 79 then some 18 else if c = 86 then some 19 else none

structure strings_Builder where
  addr : ByteArray
  buf : List Int

def R_t59 : Rp ByteArray := bldP 62 5

def slices_Index_tappet_api_Mark_tappet_api_Mark_l1 (p0 : List Int) (p1 : Int) (i87 : Nat) (again : Unit → Option (Unit ⊕ Int)) (s86 : Unit) : Option (Unit ⊕ Int) :=
  (idx p0 (i87 : Int)).bind fun x96 =>
  if (p1 == x96) then
    some (.inr (i87 : Int))
  else
    again ()
def slices_Index_tappet_api_Mark_tappet_api_Mark (p0 : List Int) (p1 : Int) : Option Int :=
  (forN (slices_Index_tappet_api_Mark_tappet_api_Mark_l1 p0 p1) (fun (s86 : Unit) => (.inl ())) (p0).length 0 ()).bind fun o52 => match o52 with
    | .inl t54 =>
      some (-1)
    | .inr r => some r

def slices_Contains_tappet_api_Mark_tappet_api_Mark (p0 : List Int) (p1 : Int) : Option Bool :=
  (slices_Index_tappet_api_Mark_tappet_api_Mark p0 p1).bind fun r8 =>
  some (decide (r8 ≥ 0))

def trace_Only_1 (p0 : api_Entry) (p1 : List Int) : Option Bool :=
  (slices_Contains_tappet_api_Mark_tappet_api_Mark p1 p0.What).bind fun r12 =>
  some r12

def slices_Index_int_int_l1 (p0 : List Int) (p1 : Int) (i87 : Nat) (again : Unit → Option (Unit ⊕ Int)) (s86 : Unit) : Option (Unit ⊕ Int) :=
  (idx p0 (i87 : Int)).bind fun x96 =>
  if (p1 == x96) then
    some (.inr (i87 : Int))
  else
    again ()
def slices_Index_int_int (p0 : List Int) (p1 : Int) : Option Int :=
  (forN (slices_Index_int_int_l1 p0 p1) (fun (s86 : Unit) => (.inl ())) (p0).length 0 ()).bind fun o52 => match o52 with
    | .inl t54 =>
      some (-1)
    | .inr r => some r

def slices_Contains_int_int (p0 : List Int) (p1 : Int) : Option Bool :=
  (slices_Index_int_int p0 p1).bind fun r8 =>
  some (decide (r8 ≥ 0))

def trace_Of_1 (p0 : api_Entry) (p1 : List Int) : Option Bool :=
  (slices_Contains_int_int p1 p0.Task).bind fun r12 =>
  some r12

def trace_of (p0 : Int) : Option (trace_form × Bool) :=
  if (decide (p0 < 1) || decide (p0 ≥ 18)) then
    some ((trace_form.mk ByteArray.empty ByteArray.empty), false)
  else
    (idx tab_g0 p0).bind fun x12 =>
    some (x12, true)

def trace_letters (p0 : trace_form) (p1 : Bool) : Option ByteArray :=
  (strings_ReplaceAll p0.fields (⟨[73].toArray⟩) (⟨[109, 111, 107, 119].toArray⟩)).bind fun r9 =>
  if p1 then
    (strings_ReplaceAll r9 (⟨[82].toArray⟩) (⟨[121, 98, 114, 79, 86].toArray⟩)).bind fun r18 =>
    some r18
  else
    (strings_ReplaceAll r9 (⟨[82].toArray⟩) (⟨[121, 98, 114].toArray⟩)).bind fun r26 =>
    some r26

def trace_word (p0 : api_Entry) (p1 : Int) : Option ByteArray :=
  ocase (whK p1)
    (ocase (wdK p1)
      ((if (p1 == 120) then
        some p0.E
      else
        if (p1 == 111) then
          some p0.Item.Op
        else
          if (p1 == 121) then
            some p0.Res.E
          else
            if (p1 == 98) then
              if p0.Res.Found then
                some 1
              else
                some 0
            else
              some 0).bind fun o63 =>
      (ofRune p1).bind fun x78 =>
      (strconv_Itoa o63).bind fun r80 =>
      (catB x78 r80).bind fun x84 =>
      some x84)
      (fun q41 =>
      (ofRune p1).bind fun x50 =>
      (strconv_FormatUint (geto_api_Entry p0 q41) 10).bind fun r52 =>
      (catB x50 r52).bind fun x56 =>
      some x56))
    (fun q7 =>
    (if (p1 == 120) then
      some p0.E
    else
      if (p1 == 111) then
        some p0.Item.Op
      else
        if (p1 == 121) then
          some p0.Res.E
        else
          if (p1 == 98) then
            if p0.Res.Found then
              some 1
            else
              some (geto_api_Entry p0 q7)
          else
            some (geto_api_Entry p0 q7)).bind fun o13 =>
    (ofRune p1).bind fun x28 =>
    (strconv_Itoa o13).bind fun r30 =>
    (catB x28 r30).bind fun x34 =>
    some x34)

def trace_line_l1 (p0 : api_Entry) (r25 : ByteArray) (again : (ByteArray × Nat) → Option ByteArray) (s155 : ByteArray × Nat) : Option ByteArray :=
  if decide (s155.2 < r25.size) then
    (trace_word p0 (runeAt r25 s155.2)).bind fun r170 =>
    (catB (⟨[32].toArray⟩) r170).bind fun x175 =>
    (catB s155.1 x175).bind fun x177 =>
    again (x177, (runeEnd r25 s155.2))
  else
    some s155.1
def trace_line (fu : Nat) (p0 : api_Entry) : Option ByteArray :=
  (trace_of p0.What).bind fun r12 =>
  (trace_letters r12.1 p0.Res.Out).bind fun r25 =>
  (loop (trace_line_l1 p0 r25) fu (r12.1.name, 0)).bind fun o104 =>
  some o104

def trace_find_l1 (p0 : ByteArray) (i73 : Nat) (again : Unit → Option (Unit ⊕ Int)) (s72 : Unit) : Option (Unit ⊕ Int) :=
  (idx tab_g0 (i73 : Int)).bind fun x81 =>
  if (decide ((i73 : Int) > 0) && sEq x81.name p0) then
    some (.inr (i73 : Int))
  else
    again ()
def trace_find (p0 : ByteArray) : Option Int :=
  (forN (trace_find_l1 p0) (fun (s72 : Unit) => (.inl ())) 18 0 ()).bind fun o43 => match o43 with
    | .inl t45 =>
      some 0
    | .inr r => some r

def stringslite_HasSuffix (p0 : ByteArray) (p1 : ByteArray) : Option Bool :=
  (if decide ((p0.size : Int) ≥ (p1.size : Int)) then
    (scut p0 (w64 ((p0.size : Int) - (p1.size : Int))) ((p0).size : Int)).bind fun x7 =>
    some (sEq x7 p1)
  else
    some false).bind fun o4 =>
  some o4

def strings_HasSuffix (p0 : ByteArray) (p1 : ByteArray) : Option Bool :=
  (stringslite_HasSuffix p0 p1).bind fun r5 =>
  some r5

def trace_read (p0 : api_Entry) (p1 : Int) (p2 : ByteArray) : Option (Bool × api_Entry) :=
  (if sEq p2 ByteArray.empty then
    some true
  else
    (sidx p2 0).bind fun c8 =>
    some ((IntKind.i32.wrap c8) != p1)).bind fun o5 =>
  if o5 then
    some (false, p0)
  else
    ocase (wdK p1)
      ((scut p2 1 ((p2).size : Int)).bind fun x40 =>
      (strconv_ParseInt x40 10 64).bind fun r42 =>
      ocase (whK p1)
        (if (p1 == 120) then
          some ((!r42.2), (api_Entry.mk p0.What p0.Task p0.From p0.Cmd p0.Tag p0.Event p0.Hook p0.Prog p0.Version p0.Pc p0.Item p0.Res p0.Val r42.1))
        else
          if (p1 == 111) then
            some ((!r42.2), (api_Entry.mk p0.What p0.Task p0.From p0.Cmd p0.Tag p0.Event p0.Hook p0.Prog p0.Version p0.Pc (api_Item.mk p0.Item.Map r42.1 p0.Item.Key p0.Item.Val) p0.Res p0.Val p0.E))
          else
            if (p1 == 121) then
              some ((!r42.2), (api_Entry.mk p0.What p0.Task p0.From p0.Cmd p0.Tag p0.Event p0.Hook p0.Prog p0.Version p0.Pc p0.Item (api_Res.mk r42.1 p0.Res.Found p0.Res.Val p0.Res.Out p0.Res.OutKey p0.Res.OutVal) p0.Val p0.E))
            else
              if (p1 == 98) then
                some ((!r42.2), (api_Entry.mk p0.What p0.Task p0.From p0.Cmd p0.Tag p0.Event p0.Hook p0.Prog p0.Version p0.Pc p0.Item (api_Res.mk p0.Res.E (r42.1 == 1) p0.Res.Val p0.Res.Out p0.Res.OutKey p0.Res.OutVal) p0.Val p0.E))
              else
                some ((!r42.2), p0))
        (fun q52 =>
        if (p1 == 120) then
          some ((!r42.2), (api_Entry.mk (puto_api_Entry p0 q52 r42.1).What (puto_api_Entry p0 q52 r42.1).Task (puto_api_Entry p0 q52 r42.1).From (puto_api_Entry p0 q52 r42.1).Cmd (puto_api_Entry p0 q52 r42.1).Tag (puto_api_Entry p0 q52 r42.1).Event (puto_api_Entry p0 q52 r42.1).Hook (puto_api_Entry p0 q52 r42.1).Prog (puto_api_Entry p0 q52 r42.1).Version (puto_api_Entry p0 q52 r42.1).Pc (puto_api_Entry p0 q52 r42.1).Item (puto_api_Entry p0 q52 r42.1).Res (puto_api_Entry p0 q52 r42.1).Val r42.1))
        else
          if (p1 == 111) then
            some ((!r42.2), (api_Entry.mk (puto_api_Entry p0 q52 r42.1).What (puto_api_Entry p0 q52 r42.1).Task (puto_api_Entry p0 q52 r42.1).From (puto_api_Entry p0 q52 r42.1).Cmd (puto_api_Entry p0 q52 r42.1).Tag (puto_api_Entry p0 q52 r42.1).Event (puto_api_Entry p0 q52 r42.1).Hook (puto_api_Entry p0 q52 r42.1).Prog (puto_api_Entry p0 q52 r42.1).Version (puto_api_Entry p0 q52 r42.1).Pc (api_Item.mk (puto_api_Entry p0 q52 r42.1).Item.Map r42.1 (puto_api_Entry p0 q52 r42.1).Item.Key (puto_api_Entry p0 q52 r42.1).Item.Val) (puto_api_Entry p0 q52 r42.1).Res (puto_api_Entry p0 q52 r42.1).Val (puto_api_Entry p0 q52 r42.1).E))
          else
            if (p1 == 121) then
              some ((!r42.2), (api_Entry.mk (puto_api_Entry p0 q52 r42.1).What (puto_api_Entry p0 q52 r42.1).Task (puto_api_Entry p0 q52 r42.1).From (puto_api_Entry p0 q52 r42.1).Cmd (puto_api_Entry p0 q52 r42.1).Tag (puto_api_Entry p0 q52 r42.1).Event (puto_api_Entry p0 q52 r42.1).Hook (puto_api_Entry p0 q52 r42.1).Prog (puto_api_Entry p0 q52 r42.1).Version (puto_api_Entry p0 q52 r42.1).Pc (puto_api_Entry p0 q52 r42.1).Item (api_Res.mk r42.1 (puto_api_Entry p0 q52 r42.1).Res.Found (puto_api_Entry p0 q52 r42.1).Res.Val (puto_api_Entry p0 q52 r42.1).Res.Out (puto_api_Entry p0 q52 r42.1).Res.OutKey (puto_api_Entry p0 q52 r42.1).Res.OutVal) (puto_api_Entry p0 q52 r42.1).Val (puto_api_Entry p0 q52 r42.1).E))
            else
              if (p1 == 98) then
                some ((!r42.2), (api_Entry.mk (puto_api_Entry p0 q52 r42.1).What (puto_api_Entry p0 q52 r42.1).Task (puto_api_Entry p0 q52 r42.1).From (puto_api_Entry p0 q52 r42.1).Cmd (puto_api_Entry p0 q52 r42.1).Tag (puto_api_Entry p0 q52 r42.1).Event (puto_api_Entry p0 q52 r42.1).Hook (puto_api_Entry p0 q52 r42.1).Prog (puto_api_Entry p0 q52 r42.1).Version (puto_api_Entry p0 q52 r42.1).Pc (puto_api_Entry p0 q52 r42.1).Item (api_Res.mk (puto_api_Entry p0 q52 r42.1).Res.E (r42.1 == 1) (puto_api_Entry p0 q52 r42.1).Res.Val (puto_api_Entry p0 q52 r42.1).Res.Out (puto_api_Entry p0 q52 r42.1).Res.OutKey (puto_api_Entry p0 q52 r42.1).Res.OutVal) (puto_api_Entry p0 q52 r42.1).Val (puto_api_Entry p0 q52 r42.1).E))
              else
                some ((!r42.2), (puto_api_Entry p0 q52 r42.1))))
      (fun q16 =>
      (scut p2 1 ((p2).size : Int)).bind fun x24 =>
      (strconv_ParseUint x24 10 64).bind fun r26 =>
      some ((!r26.2), (puto_api_Entry p0 q16 r26.1)))

def trace_parsed_l1 (r13 : (List ByteArray)) (o85 : api_Entry × ByteArray) (again : (api_Entry × Nat) → Option (api_Entry ⊕ (api_Entry × Bool))) (s266 : api_Entry × Nat) : Option (api_Entry ⊕ (api_Entry × Bool)) :=
  if decide (s266.2 < o85.2.size) then
    (idx r13 (w64 ((s266.2 : Int) + 1))).bind fun x283 =>
    (trace_read s266.1 (runeAt o85.2 s266.2) x283).bind fun r289 =>
    if (!r289.1) then
      some (.inr ((api_Entry.mk 0 0 0 0 0 0 0 0 0 0 (api_Item.mk 0 0 0 0) (api_Res.mk 0 false 0 false 0 0) 0 0), false))
    else
      again (r289.2, (runeEnd o85.2 s266.2))
  else
    some (.inl s266.1)
def trace_parsed (fu : Nat) (p0 : ByteArray) : Option (api_Entry × Bool) :=
  (strings_Split p0 (⟨[32].toArray⟩)).bind fun r13 =>
  (idx r13 0).bind fun x31 =>
  (trace_find x31).bind fun r37 =>
  if decide (r37 < 1) then
    some ((api_Entry.mk 0 0 0 0 0 0 0 0 0 0 (api_Item.mk 0 0 0 0) (api_Res.mk 0 false 0 false 0 0) 0 0), false)
  else
    (idx tab_g0 r37).bind fun x56 =>
    (trace_letters x56 false).bind fun r58 =>
    (if (((r13).length : Int) == (w64 ((r58.size : Int) + 3))) then
      (strings_HasSuffix x56.fields (⟨[82].toArray⟩)).bind fun r70 =>
      some r70
    else
      some false).bind fun o67 =>
    (if o67 then
      (trace_letters x56 true).bind fun r94 =>
      some ((api_Entry.mk (api_Entry.mk r37 0 0 0 0 0 0 0 0 0 (api_Item.mk 0 0 0 0) (api_Res.mk 0 false 0 false 0 0) 0 0).What (api_Entry.mk r37 0 0 0 0 0 0 0 0 0 (api_Item.mk 0 0 0 0) (api_Res.mk 0 false 0 false 0 0) 0 0).Task (api_Entry.mk r37 0 0 0 0 0 0 0 0 0 (api_Item.mk 0 0 0 0) (api_Res.mk 0 false 0 false 0 0) 0 0).From (api_Entry.mk r37 0 0 0 0 0 0 0 0 0 (api_Item.mk 0 0 0 0) (api_Res.mk 0 false 0 false 0 0) 0 0).Cmd (api_Entry.mk r37 0 0 0 0 0 0 0 0 0 (api_Item.mk 0 0 0 0) (api_Res.mk 0 false 0 false 0 0) 0 0).Tag (api_Entry.mk r37 0 0 0 0 0 0 0 0 0 (api_Item.mk 0 0 0 0) (api_Res.mk 0 false 0 false 0 0) 0 0).Event (api_Entry.mk r37 0 0 0 0 0 0 0 0 0 (api_Item.mk 0 0 0 0) (api_Res.mk 0 false 0 false 0 0) 0 0).Hook (api_Entry.mk r37 0 0 0 0 0 0 0 0 0 (api_Item.mk 0 0 0 0) (api_Res.mk 0 false 0 false 0 0) 0 0).Prog (api_Entry.mk r37 0 0 0 0 0 0 0 0 0 (api_Item.mk 0 0 0 0) (api_Res.mk 0 false 0 false 0 0) 0 0).Version (api_Entry.mk r37 0 0 0 0 0 0 0 0 0 (api_Item.mk 0 0 0 0) (api_Res.mk 0 false 0 false 0 0) 0 0).Pc (api_Entry.mk r37 0 0 0 0 0 0 0 0 0 (api_Item.mk 0 0 0 0) (api_Res.mk 0 false 0 false 0 0) 0 0).Item (api_Res.mk (api_Entry.mk r37 0 0 0 0 0 0 0 0 0 (api_Item.mk 0 0 0 0) (api_Res.mk 0 false 0 false 0 0) 0 0).Res.E (api_Entry.mk r37 0 0 0 0 0 0 0 0 0 (api_Item.mk 0 0 0 0) (api_Res.mk 0 false 0 false 0 0) 0 0).Res.Found (api_Entry.mk r37 0 0 0 0 0 0 0 0 0 (api_Item.mk 0 0 0 0) (api_Res.mk 0 false 0 false 0 0) 0 0).Res.Val true (api_Entry.mk r37 0 0 0 0 0 0 0 0 0 (api_Item.mk 0 0 0 0) (api_Res.mk 0 false 0 false 0 0) 0 0).Res.OutKey (api_Entry.mk r37 0 0 0 0 0 0 0 0 0 (api_Item.mk 0 0 0 0) (api_Res.mk 0 false 0 false 0 0) 0 0).Res.OutVal) (api_Entry.mk r37 0 0 0 0 0 0 0 0 0 (api_Item.mk 0 0 0 0) (api_Res.mk 0 false 0 false 0 0) 0 0).Val (api_Entry.mk r37 0 0 0 0 0 0 0 0 0 (api_Item.mk 0 0 0 0) (api_Res.mk 0 false 0 false 0 0) 0 0).E), r94)
    else
      some ((api_Entry.mk r37 0 0 0 0 0 0 0 0 0 (api_Item.mk 0 0 0 0) (api_Res.mk 0 false 0 false 0 0) 0 0), r58)).bind fun o85 =>
    if (((r13).length : Int) != (w64 ((o85.2.size : Int) + 1))) then
      some ((api_Entry.mk 0 0 0 0 0 0 0 0 0 0 (api_Item.mk 0 0 0 0) (api_Res.mk 0 false 0 false 0 0) 0 0), false)
    else
      (loop (trace_parsed_l1 r13 o85) fu (o85.1, 0)).bind fun o200 => match o200 with
        | .inl t202 =>
          (trace_line fu t202).bind fun r306 =>
          some (t202, sEq r306 p0)
        | .inr r => some r

def trace_plain (fu : Nat) (p0 : api_Entry) : Option Bool :=
  (trace_of p0.What).bind fun r12 =>
  if (!r12.2) then
    some false
  else
    (trace_line fu p0).bind fun r31 =>
    (trace_parsed fu r31).bind fun r35 =>
    (if r35.2 then
      if ((r35.1.What == p0.What) && ((r35.1.Task == p0.Task) && ((r35.1.From == p0.From) && ((r35.1.Cmd == p0.Cmd) && ((r35.1.Tag == p0.Tag) && ((r35.1.Event == p0.Event) && ((r35.1.Hook == p0.Hook) && ((r35.1.Prog == p0.Prog) && ((r35.1.Version == p0.Version) && ((r35.1.Pc == p0.Pc) && (((r35.1.Item.Map == p0.Item.Map) && ((r35.1.Item.Op == p0.Item.Op) && ((r35.1.Item.Key == p0.Item.Key) && ((r35.1.Item.Val == p0.Item.Val) && true)))) && (((r35.1.Res.E == p0.Res.E) && ((r35.1.Res.Found == p0.Res.Found) && ((r35.1.Res.Val == p0.Res.Val) && ((r35.1.Res.Out == p0.Res.Out) && ((r35.1.Res.OutKey == p0.Res.OutKey) && ((r35.1.Res.OutVal == p0.Res.OutVal) && true)))))) && ((r35.1.Val == p0.Val) && ((r35.1.E == p0.E) && true)))))))))))))) then
        some (sNe r12.1.name ByteArray.empty)
      else
        some false
    else
      some false).bind fun o44 =>
    some o44

def trace_Plain_l1 (fu : Nat) (p0 : List api_Entry) (i157 : Nat) (again : Unit → Option (Unit ⊕ Bool)) (s156 : Unit) : Option (Unit ⊕ Bool) :=
  (idx p0 (i157 : Int)).bind fun x169 =>
  (trace_plain fu x169).bind fun r182 =>
  if (!r182) then
    some (.inr false)
  else
    again ()
def trace_Plain (fu : Nat) (p0 : List api_Entry) : Option Bool :=
  (forN (trace_Plain_l1 fu p0) (fun (s156 : Unit) => (.inl ())) (p0).length 0 ()).bind fun o94 => match o94 with
    | .inl t96 =>
      some true
    | .inr r => some r

def trace_Print_l1 (fu : Nat) (p0 : List api_Entry) (i231 : Nat) (again : ByteArray → Option ByteArray) (s229 : ByteArray) : Option ByteArray :=
  (idx p0 (i231 : Int)).bind fun x243 =>
  (trace_line fu x243).bind fun r262 =>
  (catB r262 (⟨[10].toArray⟩)).bind fun x266 =>
  (strings_Builder_WriteString s229 x266).bind fun r268 =>
  again r268
def trace_Print (fu : Nat) (p0 : List api_Entry) : Option (ByteArray × Int) :=
  (trace_Plain fu p0).bind fun r8 =>
  if (!r8) then
    some (ByteArray.empty, 12)
  else
    (forN (trace_Print_l1 fu p0) (fun (s229 : ByteArray) => s229) (p0).length 0 ByteArray.empty).bind fun o144 =>
    some (o144, 0)

def stringslite_Cut (p0 : ByteArray) (p1 : ByteArray) : Option (ByteArray × ByteArray × Bool) :=
  (stringslite_Index p0 p1).bind fun r5 =>
  if decide (r5 ≥ 0) then
    (scut p0 0 r5).bind fun x18 =>
    (scut p0 (w64 (r5 + (p1.size : Int))) ((p0).size : Int)).bind fun x20 =>
    some (x18, x20, true)
  else
    some (p0, ByteArray.empty, false)

def strings_Cut (p0 : ByteArray) (p1 : ByteArray) : Option (ByteArray × ByteArray × Bool) :=
  (stringslite_Cut p0 p1).bind fun r5 =>
  some (r5.1, r5.2.1, r5.2.2)

def trace_Parse_l1 (fu : Nat) (again : (ByteArray × (List api_Entry) × Int) → Option ((List api_Entry) ⊕ ((List api_Entry) × Int × Int))) (s243 : ByteArray × (List api_Entry) × Int) : Option ((List api_Entry) ⊕ ((List api_Entry) × Int × Int)) :=
  if sNe s243.1 ByteArray.empty then
    (strings_Cut s243.1 (⟨[10].toArray⟩)).bind fun r253 =>
    (trace_parsed fu r253.1).bind fun r264 =>
    if ((!r253.2.2) || (!r264.2)) then
      some (.inr (([] : List api_Entry), s243.2.2, 20))
    else
      (room (s243.2.1.length + ([r264.1]).length) 176).bind fun u284 =>
      again (r253.2.1, (s243.2.1 ++ [r264.1]), w64 (s243.2.2 + 1))
  else
    some (.inl s243.2.1)
def trace_Parse (fu : Nat) (p0 : ByteArray) : Option ((List api_Entry) × Int × Int) :=
  (loop (trace_Parse_l1 fu) fu (p0, ([] : List api_Entry), 1)).bind fun o145 => match o145 with
    | .inl t147 =>
      some (t147, 0, 0)
    | .inr r => some r

def tappetlaw26_awake (fu : Nat)  : Option Bool :=
  (trace_Print fu ([(api_Entry.mk 1 0 0 2 0 0 0 0 0 0 (api_Item.mk 0 0 0 0) (api_Res.mk 0 false 0 false 0 0) 0 0), (api_Entry.mk 2 1 0 0 0 0 0 0 0 0 (api_Item.mk 0 0 0 0) (api_Res.mk 0 false 0 false 0 0) 0 40)])).bind fun r9 =>
  (trace_Parse fu (⟨[98, 97, 99, 107, 32, 116, 50, 32, 101, 55, 32, 112, 49, 32, 118, 51, 32, 97, 52, 32, 121, 48, 32, 98, 48, 32, 114, 48, 32, 79, 56, 32, 86, 50, 10].toArray⟩)).bind fun r21 =>
  (if sEq r9.1 (⟨[99, 97, 108, 108, 32, 116, 48, 32, 99, 50, 10, 114, 101, 116, 117, 114, 110, 32, 116, 49, 32, 99, 48, 32, 120, 52, 48, 32, 110, 48, 10].toArray⟩) then
    if (r9.2 == 0) then
      if (((r21.1).length : Int) == 1) then
        if (r21.2.1 == 0) then
          if (r21.2.2 == 0) then
            (idx r21.1 0).bind fun x47 =>
            some ((x47.What == 17) && ((x47.Task == 2) && ((x47.From == 0) && ((x47.Cmd == 0) && ((x47.Tag == 0) && ((x47.Event == 7) && ((x47.Hook == 0) && ((x47.Prog == 1) && ((x47.Version == 3) && ((x47.Pc == 4) && (((x47.Item.Map == 0) && ((x47.Item.Op == 0) && ((x47.Item.Key == 0) && ((x47.Item.Val == 0) && true)))) && (((x47.Res.E == 0) && ((x47.Res.Found == false) && ((x47.Res.Val == 0) && ((x47.Res.Out == true) && ((x47.Res.OutKey == 8) && ((x47.Res.OutVal == 2) && true)))))) && ((x47.Val == 0) && ((x47.E == 0) && true))))))))))))))
          else
            some false
        else
          some false
      else
        some false
    else
      some false
  else
    some false).bind fun o40 =>
  some o40

def tappetref26_Name (p0 : Int) : Option ByteArray :=
  if (decide (p0 < 1) || decide (p0 > 17)) then
    some ByteArray.empty
  else
    (idx ([ByteArray.empty, ⟨[99, 97, 108, 108].toArray⟩, ⟨[114, 101, 116, 117, 114, 110].toArray⟩, ⟨[97, 112, 112, 108, 121].toArray⟩, ⟨[97, 99, 99, 101, 112, 116].toArray⟩, ⟨[116, 97, 107, 101].toArray⟩, ⟨[101, 110, 116, 101, 114].toArray⟩, ⟨[114, 97, 110].toArray⟩, ⟨[110, 111, 116, 101].toArray⟩, ⟨[100, 111, 110, 101].toArray⟩, ⟨[100, 114, 111, 112].toArray⟩, ⟨[112, 117, 98, 108, 105, 115, 104].toArray⟩, ⟨[108, 111, 97, 100, 101, 100].toArray⟩, ⟨[114, 101, 116, 105, 114, 101, 100].toArray⟩, ⟨[99, 108, 111, 115, 101, 100].toArray⟩, ⟨[101, 110, 100].toArray⟩, ⟨[97, 115, 107].toArray⟩, ⟨[98, 97, 99, 107].toArray⟩]) p0).bind fun x13 =>
    some x13

def tappetref26_fields (p0 : Int) (p1 : Bool) : Option ByteArray :=
  (if p1 then
    some (⟨[121, 98, 114, 79, 86].toArray⟩)
  else
    some (⟨[121, 98, 114].toArray⟩)).bind fun o2 =>
  if (p0 == 1) then
    some (⟨[116, 99].toArray⟩)
  else
    if (p0 == 2) then
      some (⟨[116, 99, 120, 110].toArray⟩)
    else
      if (p0 == 3) then
        (catB (⟨[116, 102, 99, 103, 101, 109, 111, 107, 119].toArray⟩) o2).bind fun x10 =>
        some x10
      else
        if (p0 == 4) then
          some (⟨[116, 99, 104, 101].toArray⟩)
        else
          (if (p0 == 5) then
            some (p0 == 5)
          else
            some (p0 == 10)).bind fun o14 =>
          if o14 then
            some (⟨[116, 104, 101].toArray⟩)
          else
            if (p0 == 6) then
              some (⟨[116, 104, 101, 112, 118].toArray⟩)
            else
              (if (p0 == 7) then
                some (p0 == 7)
              else
                some (p0 == 8)).bind fun o20 =>
              if o20 then
                some (⟨[116, 101, 112, 118, 97, 110].toArray⟩)
              else
                if (p0 == 9) then
                  some (⟨[116, 104, 101, 112, 118, 97, 110].toArray⟩)
                else
                  if (p0 == 11) then
                    some (⟨[116, 104, 112, 118].toArray⟩)
                  else
                    (if (p0 == 12) then
                      some (p0 == 12)
                    else
                      some (p0 == 13)).bind fun o27 =>
                    if o27 then
                      some (⟨[116, 112].toArray⟩)
                    else
                      if (p0 == 16) then
                        some (⟨[116, 101, 112, 118, 97, 109, 111, 107, 119].toArray⟩)
                      else
                        if (p0 == 17) then
                          (catB (⟨[116, 101, 112, 118, 97].toArray⟩) o2).bind fun x35 =>
                          some x35
                        else
                          some (⟨[116].toArray⟩)

def tappetref26_has_l1 (p0 : ByteArray) (p1 : Int) (i46 : Nat) (again : Unit → Option (Unit ⊕ Bool)) (s45 : Unit) : Option (Unit ⊕ Bool) :=
  (sidx p0 (i46 : Int)).bind fun c53 =>
  if (c53 == p1) then
    some (.inr true)
  else
    again ()
def tappetref26_has (p0 : ByteArray) (p1 : Int) : Option Bool :=
  ((room p0.size 1).bind fun u48 =>
  forN (tappetref26_has_l1 p0 p1) (fun (s45 : Unit) => (.inl ())) p0.size 0 ()).bind fun o27 => match o27 with
    | .inl t29 =>
      some false
    | .inr r => some r

def tappetref26_broad (p0 : api_Entry) (p1 : Int) (p2 : Int) : Option api_Entry :=
  if (p1 == 110) then
    some (api_Entry.mk p0.What p0.Task p0.From p0.Cmd p0.Tag p0.Event p0.Hook p0.Prog p0.Version p0.Pc p0.Item p0.Res p2 p0.E)
  else
    if (p1 == 107) then
      some (api_Entry.mk p0.What p0.Task p0.From p0.Cmd p0.Tag p0.Event p0.Hook p0.Prog p0.Version p0.Pc (api_Item.mk p0.Item.Map p0.Item.Op p2 p0.Item.Val) p0.Res p0.Val p0.E)
    else
      if (p1 == 119) then
        some (api_Entry.mk p0.What p0.Task p0.From p0.Cmd p0.Tag p0.Event p0.Hook p0.Prog p0.Version p0.Pc (api_Item.mk p0.Item.Map p0.Item.Op p0.Item.Key p2) p0.Res p0.Val p0.E)
      else
        if (p1 == 114) then
          some (api_Entry.mk p0.What p0.Task p0.From p0.Cmd p0.Tag p0.Event p0.Hook p0.Prog p0.Version p0.Pc p0.Item (api_Res.mk p0.Res.E p0.Res.Found p2 p0.Res.Out p0.Res.OutKey p0.Res.OutVal) p0.Val p0.E)
        else
          if (p1 == 79) then
            some (api_Entry.mk p0.What p0.Task p0.From p0.Cmd p0.Tag p0.Event p0.Hook p0.Prog p0.Version p0.Pc p0.Item (api_Res.mk p0.Res.E p0.Res.Found p0.Res.Val p0.Res.Out p2 p0.Res.OutVal) p0.Val p0.E)
          else
            if (p1 == 86) then
              some (api_Entry.mk p0.What p0.Task p0.From p0.Cmd p0.Tag p0.Event p0.Hook p0.Prog p0.Version p0.Pc p0.Item (api_Res.mk p0.Res.E p0.Res.Found p0.Res.Val p0.Res.Out p0.Res.OutKey p2) p0.Val p0.E)
            else
              some p0

def tappetref26_set_l1 (p0 : api_Entry) (p2 : ByteArray) (again : (Int × Int) → Option (Int ⊕ (api_Entry × Bool))) (s128 : Int × Int) : Option (Int ⊕ (api_Entry × Bool)) :=
  if decide (s128.2 < (p2.size : Int)) then
    ((sidx p2 s128.2).bind fun c137 =>
    if decide (c137 < 48) then
      some true
    else
      some (decide (c137 > 57))).bind fun o135 =>
    if o135 then
      some (.inr (p0, false))
    else
      (sidx p2 s128.2).bind fun c145 =>
      again (wu64 ((wu64 (10 * s128.1)) + (wu64 (IntKind.u8.wrap (c145 - 48)))), w64 (s128.2 + 1))
  else
    some (.inl s128.1)
def tappetref26_set (fu : Nat) (p0 : api_Entry) (p1 : Int) (p2 : ByteArray) : Option (api_Entry × Bool) :=
  (if decide ((p2.size : Int) < 2) then
    some true
  else
    (sidx p2 0).bind fun c15 =>
    some (c15 != p1)).bind fun o12 =>
  if o12 then
    some (p0, false)
  else
    (sidx p2 1).bind fun c22 =>
    (if (c22 == 45) then
      some 2
    else
      some 1).bind fun o25 =>
    (loop (tappetref26_set_l1 p0 p2) fu (0, o25)).bind fun o86 => match o86 with
      | .inl t88 =>
        (if (c22 == 45) then
          some (w64 (wu64 (0 - t88)))
        else
          some (w64 t88)).bind fun o148 =>
        if (p1 == 116) then
          some ((api_Entry.mk p0.What o148 p0.From p0.Cmd p0.Tag p0.Event p0.Hook p0.Prog p0.Version p0.Pc p0.Item p0.Res p0.Val p0.E), true)
        else
          if (p1 == 102) then
            some ((api_Entry.mk p0.What p0.Task o148 p0.Cmd p0.Tag p0.Event p0.Hook p0.Prog p0.Version p0.Pc p0.Item p0.Res p0.Val p0.E), true)
          else
            if (p1 == 99) then
              some ((api_Entry.mk p0.What p0.Task p0.From o148 p0.Tag p0.Event p0.Hook p0.Prog p0.Version p0.Pc p0.Item p0.Res p0.Val p0.E), true)
            else
              if (p1 == 103) then
                some ((api_Entry.mk p0.What p0.Task p0.From p0.Cmd o148 p0.Event p0.Hook p0.Prog p0.Version p0.Pc p0.Item p0.Res p0.Val p0.E), true)
              else
                if (p1 == 101) then
                  some ((api_Entry.mk p0.What p0.Task p0.From p0.Cmd p0.Tag o148 p0.Hook p0.Prog p0.Version p0.Pc p0.Item p0.Res p0.Val p0.E), true)
                else
                  if (p1 == 104) then
                    some ((api_Entry.mk p0.What p0.Task p0.From p0.Cmd p0.Tag p0.Event o148 p0.Prog p0.Version p0.Pc p0.Item p0.Res p0.Val p0.E), true)
                  else
                    if (p1 == 112) then
                      some ((api_Entry.mk p0.What p0.Task p0.From p0.Cmd p0.Tag p0.Event p0.Hook o148 p0.Version p0.Pc p0.Item p0.Res p0.Val p0.E), true)
                    else
                      if (p1 == 118) then
                        some ((api_Entry.mk p0.What p0.Task p0.From p0.Cmd p0.Tag p0.Event p0.Hook p0.Prog o148 p0.Pc p0.Item p0.Res p0.Val p0.E), true)
                      else
                        if (p1 == 97) then
                          some ((api_Entry.mk p0.What p0.Task p0.From p0.Cmd p0.Tag p0.Event p0.Hook p0.Prog p0.Version o148 p0.Item p0.Res p0.Val p0.E), true)
                        else
                          if (p1 == 120) then
                            some ((api_Entry.mk p0.What p0.Task p0.From p0.Cmd p0.Tag p0.Event p0.Hook p0.Prog p0.Version p0.Pc p0.Item p0.Res p0.Val o148), true)
                          else
                            if (p1 == 109) then
                              some ((api_Entry.mk p0.What p0.Task p0.From p0.Cmd p0.Tag p0.Event p0.Hook p0.Prog p0.Version p0.Pc (api_Item.mk o148 p0.Item.Op p0.Item.Key p0.Item.Val) p0.Res p0.Val p0.E), true)
                            else
                              if (p1 == 111) then
                                some ((api_Entry.mk p0.What p0.Task p0.From p0.Cmd p0.Tag p0.Event p0.Hook p0.Prog p0.Version p0.Pc (api_Item.mk p0.Item.Map o148 p0.Item.Key p0.Item.Val) p0.Res p0.Val p0.E), true)
                              else
                                if (p1 == 121) then
                                  some ((api_Entry.mk p0.What p0.Task p0.From p0.Cmd p0.Tag p0.Event p0.Hook p0.Prog p0.Version p0.Pc p0.Item (api_Res.mk o148 p0.Res.Found p0.Res.Val p0.Res.Out p0.Res.OutKey p0.Res.OutVal) p0.Val p0.E), true)
                                else
                                  if (p1 == 98) then
                                    some ((api_Entry.mk p0.What p0.Task p0.From p0.Cmd p0.Tag p0.Event p0.Hook p0.Prog p0.Version p0.Pc p0.Item (api_Res.mk p0.Res.E (o148 == 1) p0.Res.Val p0.Res.Out p0.Res.OutKey p0.Res.OutVal) p0.Val p0.E), true)
                                  else
                                    (tappetref26_broad p0 p1 t88).bind fun r226 =>
                                    some (r226, true)
      | .inr r => some r

def tappetref26_unsigned (p0 : api_Entry) (p1 : Int) : Option (Int × Bool) :=
  if (p1 == 110) then
    some (p0.Val, true)
  else
    if (p1 == 107) then
      some (p0.Item.Key, true)
    else
      if (p1 == 119) then
        some (p0.Item.Val, true)
      else
        if (p1 == 114) then
          some (p0.Res.Val, true)
        else
          if (p1 == 79) then
            some (p0.Res.OutKey, true)
          else
            if (p1 == 86) then
              some (p0.Res.OutVal, true)
            else
              some (0, false)

def tappetref26_digits (fu : Nat) (p0 : Int) : Option ByteArray :=
  match fu with
  | 0 => none
  | fu + 1 =>
    if decide (p0 < 10) then
      (scut (⟨[48, 49, 50, 51, 52, 53, 54, 55, 56, 57].toArray⟩) p0 (wu64 (p0 + 1))).bind fun x4 =>
      some x4
    else
      (tappetref26_digits fu (wu64 (p0.tdiv 10))).bind fun r16 =>
      (tappetref26_digits fu (p0.tmod 10)).bind fun r20 =>
      (catB r16 r20).bind fun x24 =>
      some x24

def tappetref26_signed (p0 : api_Entry) (p1 : Int) : Option Int :=
  if (p1 == 116) then
    some p0.Task
  else
    if (p1 == 102) then
      some p0.From
    else
      if (p1 == 99) then
        some p0.Cmd
      else
        if (p1 == 103) then
          some p0.Tag
        else
          if (p1 == 101) then
            some p0.Event
          else
            if (p1 == 104) then
              some p0.Hook
            else
              if (p1 == 112) then
                some p0.Prog
              else
                if (p1 == 118) then
                  some p0.Version
                else
                  if (p1 == 97) then
                    some p0.Pc
                  else
                    if (p1 == 120) then
                      some p0.E
                    else
                      if (p1 == 109) then
                        some p0.Item.Map
                      else
                        if (p1 == 111) then
                          some p0.Item.Op
                        else
                          if (p1 == 121) then
                            some p0.Res.E
                          else
                            if p0.Res.Found then
                              some 1
                            else
                              some 0

def tappetref03_Number_l1 (again : (Int × ByteArray) → Option ByteArray) (s59 : Int × ByteArray) : Option ByteArray :=
  (scut (⟨[48, 49, 50, 51, 52, 53, 54, 55, 56, 57].toArray⟩) (s59.1.tmod 10) (wu64 ((s59.1.tmod 10) + 1))).bind fun x64 =>
  (catB x64 s59.2).bind fun x66 =>
  if ((wu64 (s59.1.tdiv 10)) == 0) then
    some x66
  else
    again (wu64 (s59.1.tdiv 10), x66)
def tappetref03_Number (fu : Nat) (p0 : Int) : Option ByteArray :=
  (if decide (p0 < 0) then
    some (wu64 (0 - (wu64 p0)))
  else
    some (wu64 p0)).bind fun o2 =>
  (loop tappetref03_Number_l1 fu (o2, ByteArray.empty)).bind fun o36 =>
  if decide (p0 < 0) then
    (catB (⟨[45].toArray⟩) o36).bind fun x72 =>
    some x72
  else
    some o36

def tappetref26_Line_l1 (fu : Nat) (p0 : api_Entry) (r17 : ByteArray) (i365 : Nat) (again : ByteArray → Option ByteArray) (s364 : ByteArray) : Option ByteArray :=
  (sidx r17 (i365 : Int)).bind fun c380 =>
  (tappetref26_unsigned p0 c380).bind fun r382 =>
  (catB s364 (⟨[32].toArray⟩)).bind fun x392 =>
  (scut r17 (i365 : Int) (w64 ((i365 : Int) + 1))).bind fun x394 =>
  (catB x392 x394).bind fun x396 =>
  if r382.2 then
    (tappetref26_digits fu r382.1).bind fun r405 =>
    (catB x396 r405).bind fun x409 =>
    again x409
  else
    (tappetref26_signed p0 c380).bind fun r425 =>
    (tappetref03_Number fu r425).bind fun r429 =>
    (catB x396 r429).bind fun x433 =>
    again x433
def tappetref26_Line (fu : Nat) (p0 : api_Entry) : Option ByteArray :=
  (tappetref26_Name p0.What).bind fun r9 =>
  (tappetref26_fields p0.What p0.Res.Out).bind fun r17 =>
  ((room r17.size 1).bind fun u367 =>
  forN (tappetref26_Line_l1 fu p0 r17) (fun (s364 : ByteArray) => s364) r17.size 0 r9).bind fun o227 =>
  some o227

def tappetref26_Read_l1 (p0 : ByteArray) (again : ((List ByteArray) × Int × Int) → Option (List ByteArray)) (s198 : (List ByteArray) × Int × Int) : Option (List ByteArray) :=
  if decide (s198.2.2 ≤ (p0.size : Int)) then
    (if (s198.2.2 == (p0.size : Int)) then
      some true
    else
      (sidx p0 s198.2.2).bind fun c210 =>
      some (c210 == 32)).bind fun o207 =>
    if o207 then
      (scut p0 s198.2.1 s198.2.2).bind fun x224 =>
      (room (s198.1.length + ([x224]).length) 16).bind fun u228 =>
      again ((s198.1 ++ [x224]), w64 (s198.2.2 + 1), w64 (s198.2.2 + 1))
    else
      again (s198.1, s198.2.1, w64 (s198.2.2 + 1))
  else
    some s198.1
def tappetref26_Read_l3 (fu : Nat) (o120 : (List ByteArray)) (o2913 : api_Entry × ByteArray) (i3284 : Nat) (again : api_Entry → Option (api_Entry ⊕ (api_Entry × Bool))) (s3283 : api_Entry) : Option (api_Entry ⊕ (api_Entry × Bool)) :=
  ((sidx o2913.2 (i3284 : Int)).bind fun c3329 =>
  (idx o120 (w64 ((i3284 : Int) + 1))).bind fun x3331 =>
  (tappetref26_set fu s3283 c3329 x3331).bind fun r3337 =>
  some (r3337.1, r3337.2)).bind fun o3325 =>
  if (!o3325.2) then
    some (.inr (s3283, false))
  else
    again o3325.1
def tappetref26_Read_l2 (fu : Nat) (p0 : ByteArray) (o120 : (List ByteArray)) (again : Int → Option (Unit ⊕ (api_Entry × Bool))) (s2849 : Int) : Option (Unit ⊕ (api_Entry × Bool)) :=
  if decide (s2849 ≤ 17) then
    (idx o120 0).bind fun x2865 =>
    (tappetref26_Name s2849).bind fun r2871 =>
    if sNe r2871 x2865 then
      again (w64 (s2849 + 1))
    else
      (tappetref26_fields s2849 false).bind fun r2886 =>
      (if (((o120).length : Int) == (w64 ((r2886.size : Int) + 3))) then
        (tappetref26_has r2886 121).bind fun r2898 =>
        some r2898
      else
        some false).bind fun o2895 =>
      (if o2895 then
        (tappetref26_fields s2849 true).bind fun r2922 =>
        some ((api_Entry.mk (api_Entry.mk s2849 0 0 0 0 0 0 0 0 0 (api_Item.mk 0 0 0 0) (api_Res.mk 0 false 0 false 0 0) 0 0).What (api_Entry.mk s2849 0 0 0 0 0 0 0 0 0 (api_Item.mk 0 0 0 0) (api_Res.mk 0 false 0 false 0 0) 0 0).Task (api_Entry.mk s2849 0 0 0 0 0 0 0 0 0 (api_Item.mk 0 0 0 0) (api_Res.mk 0 false 0 false 0 0) 0 0).From (api_Entry.mk s2849 0 0 0 0 0 0 0 0 0 (api_Item.mk 0 0 0 0) (api_Res.mk 0 false 0 false 0 0) 0 0).Cmd (api_Entry.mk s2849 0 0 0 0 0 0 0 0 0 (api_Item.mk 0 0 0 0) (api_Res.mk 0 false 0 false 0 0) 0 0).Tag (api_Entry.mk s2849 0 0 0 0 0 0 0 0 0 (api_Item.mk 0 0 0 0) (api_Res.mk 0 false 0 false 0 0) 0 0).Event (api_Entry.mk s2849 0 0 0 0 0 0 0 0 0 (api_Item.mk 0 0 0 0) (api_Res.mk 0 false 0 false 0 0) 0 0).Hook (api_Entry.mk s2849 0 0 0 0 0 0 0 0 0 (api_Item.mk 0 0 0 0) (api_Res.mk 0 false 0 false 0 0) 0 0).Prog (api_Entry.mk s2849 0 0 0 0 0 0 0 0 0 (api_Item.mk 0 0 0 0) (api_Res.mk 0 false 0 false 0 0) 0 0).Version (api_Entry.mk s2849 0 0 0 0 0 0 0 0 0 (api_Item.mk 0 0 0 0) (api_Res.mk 0 false 0 false 0 0) 0 0).Pc (api_Entry.mk s2849 0 0 0 0 0 0 0 0 0 (api_Item.mk 0 0 0 0) (api_Res.mk 0 false 0 false 0 0) 0 0).Item (api_Res.mk (api_Entry.mk s2849 0 0 0 0 0 0 0 0 0 (api_Item.mk 0 0 0 0) (api_Res.mk 0 false 0 false 0 0) 0 0).Res.E (api_Entry.mk s2849 0 0 0 0 0 0 0 0 0 (api_Item.mk 0 0 0 0) (api_Res.mk 0 false 0 false 0 0) 0 0).Res.Found (api_Entry.mk s2849 0 0 0 0 0 0 0 0 0 (api_Item.mk 0 0 0 0) (api_Res.mk 0 false 0 false 0 0) 0 0).Res.Val true (api_Entry.mk s2849 0 0 0 0 0 0 0 0 0 (api_Item.mk 0 0 0 0) (api_Res.mk 0 false 0 false 0 0) 0 0).Res.OutKey (api_Entry.mk s2849 0 0 0 0 0 0 0 0 0 (api_Item.mk 0 0 0 0) (api_Res.mk 0 false 0 false 0 0) 0 0).Res.OutVal) (api_Entry.mk s2849 0 0 0 0 0 0 0 0 0 (api_Item.mk 0 0 0 0) (api_Res.mk 0 false 0 false 0 0) 0 0).Val (api_Entry.mk s2849 0 0 0 0 0 0 0 0 0 (api_Item.mk 0 0 0 0) (api_Res.mk 0 false 0 false 0 0) 0 0).E), r2922)
      else
        some ((api_Entry.mk s2849 0 0 0 0 0 0 0 0 0 (api_Item.mk 0 0 0 0) (api_Res.mk 0 false 0 false 0 0) 0 0), r2886)).bind fun o2913 =>
      if (((o120).length : Int) != (w64 ((o2913.2.size : Int) + 1))) then
        some (.inr (o2913.1, false))
      else
        ((room o2913.2.size 1).bind fun u3286 =>
        forN (tappetref26_Read_l3 fu o120 o2913) (fun (s3283 : api_Entry) => (.inl s3283)) o2913.2.size 0 o2913.1).bind fun o3141 => match o3141 with
          | .inl t3143 =>
            (tappetref26_Line fu t3143).bind fun r3365 =>
            some (.inr (t3143, sEq r3365 p0))
          | .inr r => some (.inr r)
  else
    some (.inl ())
def tappetref26_Read (fu : Nat) (p0 : ByteArray) : Option (api_Entry × Bool) :=
  (loop (tappetref26_Read_l1 p0) fu (([] : List ByteArray), 0, 0)).bind fun o120 =>
  (loop (tappetref26_Read_l2 fu p0 o120) fu 1).bind fun o1804 => match o1804 with
    | .inl t1806 =>
      some ((api_Entry.mk 0 0 0 0 0 0 0 0 0 0 (api_Item.mk 0 0 0 0) (api_Res.mk 0 false 0 false 0 0) 0 0), false)
    | .inr r => some r

def tappetref26_Parse_l1 (fu : Nat) (p0 : ByteArray) (i256 : Nat) (again : ((List api_Entry) × Int) → Option (((List api_Entry) × Int) ⊕ ((List api_Entry) × Int × Int))) (s254 : (List api_Entry) × Int) : Option (((List api_Entry) × Int) ⊕ ((List api_Entry) × Int × Int)) :=
  (sidx p0 (i256 : Int)).bind fun c266 =>
  if (c266 != 10) then
    again (s254.1, s254.2)
  else
    (scut p0 s254.2 (i256 : Int)).bind fun x279 =>
    (tappetref26_Read fu x279).bind fun r281 =>
    if (!r281.2) then
      some (.inr (([] : List api_Entry), w64 (((s254.1).length : Int) + 1), 20))
    else
      (room (s254.1.length + ([r281.1]).length) 176).bind fun u300 =>
      again ((s254.1 ++ [r281.1]), w64 ((i256 : Int) + 1))
def tappetref26_Parse (fu : Nat) (p0 : ByteArray) : Option ((List api_Entry) × Int × Int) :=
  ((room p0.size 1).bind fun u258 =>
  forN (tappetref26_Parse_l1 fu p0) (fun (s254 : (List api_Entry) × Int) => (.inl (s254.1, s254.2))) p0.size 0 (([] : List api_Entry), 0)).bind fun o153 => match o153 with
    | .inl t155 =>
      if decide (t155.2 < (p0.size : Int)) then
        some (([] : List api_Entry), w64 (((t155.1).length : Int) + 1), 20)
      else
        some (t155.1, 0, 0)
    | .inr r => some r

def tappetlaw26_logs_l1 (p0 : List api_Entry) (p1 : List api_Entry) (i171 : Nat) (again : Unit → Option (Unit ⊕ Bool)) (s170 : Unit) : Option (Unit ⊕ Bool) :=
  (idx p0 (i171 : Int)).bind fun x190 =>
  (idx p1 (i171 : Int)).bind fun x196 =>
  if (!((x190.What == x196.What) && ((x190.Task == x196.Task) && ((x190.From == x196.From) && ((x190.Cmd == x196.Cmd) && ((x190.Tag == x196.Tag) && ((x190.Event == x196.Event) && ((x190.Hook == x196.Hook) && ((x190.Prog == x196.Prog) && ((x190.Version == x196.Version) && ((x190.Pc == x196.Pc) && (((x190.Item.Map == x196.Item.Map) && ((x190.Item.Op == x196.Item.Op) && ((x190.Item.Key == x196.Item.Key) && ((x190.Item.Val == x196.Item.Val) && true)))) && (((x190.Res.E == x196.Res.E) && ((x190.Res.Found == x196.Res.Found) && ((x190.Res.Val == x196.Res.Val) && ((x190.Res.Out == x196.Res.Out) && ((x190.Res.OutKey == x196.Res.OutKey) && ((x190.Res.OutVal == x196.Res.OutVal) && true)))))) && ((x190.Val == x196.Val) && ((x190.E == x196.E) && true))))))))))))))) then
    some (.inr false)
  else
    again ()
def tappetlaw26_logs (p0 : List api_Entry) (p1 : List api_Entry) : Option Bool :=
  if (((p0).length : Int) != ((p1).length : Int)) then
    some false
  else
    (forN (tappetlaw26_logs_l1 p0 p1) (fun (s170 : Unit) => (.inl ())) (p0).length 0 ()).bind fun o104 => match o104 with
      | .inl t106 =>
        some true
      | .inr r => some r

def tappetlaw26_TraceParses (fu : Nat) (p0 : ByteArray) : Option Bool :=
  (tappetlaw26_awake fu).bind fun r5 =>
  if (!r5) then
    some false
  else
    (trace_Parse fu p0).bind fun r18 =>
    (tappetref26_Parse fu p0).bind fun r34 =>
    ((tappetlaw26_logs r18.1 r34.1).bind fun r54 =>
    if r54 then
      if (r18.2.1 == r34.2.1) then
        some (r18.2.2 == r34.2.2)
      else
        some false
    else
      some false).bind fun o52 =>
    some o52

def tappetlaw26_TraceBack (fu : Nat) (p0 : List api_Entry) (p1 : ByteArray) : Option Bool :=
  (tappetlaw26_awake fu).bind fun r8 =>
  if (!r8) then
    some false
  else
    (trace_Print fu p0).bind fun r17 =>
    (trace_Parse fu r17.1).bind fun r29 =>
    (if (r29.2.2 != 0) then
      some true
    else
      if (r29.2.1 != 0) then
        some true
      else
        if (r17.2 == 0) then
          (tappetlaw26_logs r29.1 p0).bind fun r62 =>
          if (!r62) then
            some true
          else
            if (r17.2 != 0) then
              if sNe r17.1 ByteArray.empty then
                some true
              else
                (trace_Plain fu p0).bind fun r69 =>
                some r69
            else
              some false
        else
          if (r17.2 != 0) then
            if sNe r17.1 ByteArray.empty then
              some true
            else
              (trace_Plain fu p0).bind fun r75 =>
              some r75
          else
            some false).bind fun o57 =>
    if o57 then
      some false
    else
      (trace_Parse fu p1).bind fun r88 =>
      if (r88.2.2 != 0) then
        (catB r17.1 p1).bind fun x107 =>
        (trace_Parse fu x107).bind fun r109 =>
        some ((((decide (r88.2.1 ≥ 1) && (((r88.1).length : Int) == 0)) && (r109.2.2 == r88.2.2)) && (r109.2.1 == (w64 (r88.2.1 + ((r29.1).length : Int))))) && (((r109.1).length : Int) == 0))
      else
        (trace_Print fu r88.1).bind fun r125 =>
        (catB r17.1 p1).bind fun x139 =>
        (trace_Parse fu x139).bind fun r141 =>
        (if (r125.2 == 0) then
          if sEq r125.1 p1 then
            if (r141.2.2 == 0) then
              (room (([] : List api_Entry).length + r29.1.length) 176).bind fun u179 =>
              (room ((([] : List api_Entry) ++ r29.1).length + r88.1.length) 176).bind fun u186 =>
              (tappetlaw26_logs r141.1 ((([] : List api_Entry) ++ r29.1) ++ r88.1)).bind fun r193 =>
              some r193
            else
              some false
          else
            some false
        else
          some false).bind fun o172 =>
        some o172

def trace_Name (p0 : Int) : Option ByteArray :=
  (trace_of p0).bind fun r8 =>
  some r8.1.name

def tappetref26_Plain_l1 (p0 : api_Entry) (r18 : ByteArray) (i357 : Nat) (again : Unit → Option (Unit ⊕ Bool)) (s356 : Unit) : Option (Unit ⊕ Bool) :=
  (sidx (⟨[116, 102, 99, 103, 101, 104, 112, 118, 97, 120, 109, 111, 121, 98, 110, 107, 119, 114, 79, 86].toArray⟩) (i357 : Int)).bind fun c372 =>
  (tappetref26_unsigned p0 c372).bind fun r374 =>
  ((tappetref26_has r18 c372).bind fun r407 =>
  if (!r407) then
    if r374.2 then
      if (r374.1 != 0) then
        some true
      else
        if (!r374.2) then
          (tappetref26_signed p0 c372).bind fun r415 =>
          some (r415 != 0)
        else
          some false
    else
      if (!r374.2) then
        (tappetref26_signed p0 c372).bind fun r420 =>
        some (r420 != 0)
      else
        some false
  else
    some false).bind fun o403 =>
  if o403 then
    some (.inr false)
  else
    again ()
def tappetref26_Plain (p0 : api_Entry) : Option Bool :=
  (tappetref26_Name p0.What).bind fun r9 =>
  if sEq r9 ByteArray.empty then
    some false
  else
    (tappetref26_fields p0.What p0.Res.Out).bind fun r18 =>
    ((room (⟨[116, 102, 99, 103, 101, 104, 112, 118, 97, 120, 109, 111, 121, 98, 110, 107, 119, 114, 79, 86].toArray⟩ : ByteArray).size 1).bind fun u359 =>
    forN (tappetref26_Plain_l1 p0 r18) (fun (s356 : Unit) => (.inl ())) (⟨[116, 102, 99, 103, 101, 104, 112, 118, 97, 120, 109, 111, 121, 98, 110, 107, 119, 114, 79, 86].toArray⟩ : ByteArray).size 0 ()).bind fun o222 => match o222 with
      | .inl t224 =>
        (if (!p0.Res.Out) then
          some true
        else
          (tappetref26_has r18 121).bind fun r433 =>
          some r433).bind fun o430 =>
        some o430
      | .inr r => some r

def tappetref26_Print_l1 (fu : Nat) (p0 : List api_Entry) (i391 : Nat) (again : (List Int) → Option ((List Int) ⊕ (ByteArray × Int))) (s389 : (List Int)) : Option ((List Int) ⊕ (ByteArray × Int)) :=
  (idx p0 (i391 : Int)).bind fun x407 =>
  (tappetref26_Plain x407).bind fun r413 =>
  if (!r413) then
    some (.inr (ByteArray.empty, 12))
  else
    (tappetref26_Line fu x407).bind fun r437 =>
    (room (s389.length + r437.size) 1).bind fun u441 =>
    (room ((s389 ++ bytesOf r437).length + ([10] : List Int).length) 1).bind fun u459 =>
    again ((s389 ++ bytesOf r437) ++ ([10] : List Int))
def tappetref26_Print (fu : Nat) (p0 : List api_Entry) : Option (ByteArray × Int) :=
  (forN (tappetref26_Print_l1 fu p0) (fun (s389 : (List Int)) => (.inl s389)) (p0).length 0 ([] : List Int)).bind fun o234 => match o234 with
    | .inl t236 =>
      some ((strOfNums t236), 0)
    | .inr r => some r

def tappetlaw26_TracePrints_l1 (fu : Nat) (p0 : List api_Entry) (i731 : Nat) (again : Bool → Option (Bool ⊕ Bool)) (s730 : Bool) : Option (Bool ⊕ Bool) :=
  (idx p0 (i731 : Int)).bind fun x744 =>
  (tappetref26_Plain x744).bind fun r750 =>
  (trace_Print fu ([x744])).bind fun r771 =>
  (cut p0 (i731 : Int) (w64 ((i731 : Int) + 1))).bind fun ys782 =>
  (tappetref26_Print fu ys782).bind fun r785 =>
  ((trace_Plain fu ([x744])).bind fun r842 =>
  if (!(r842 == r750)) then
    some true
  else
    if sNe r771.1 r785.1 then
      some true
    else
      if (r771.2 != r785.2) then
        some true
      else
        (trace_Name x744.What).bind fun r857 =>
        (tappetref26_Name x744.What).bind fun r861 =>
        some (sNe r857 r861)).bind fun o832 =>
  if o832 then
    some (.inr false)
  else
    again (s730 && r750)
def tappetlaw26_TracePrints (fu : Nat) (p0 : List api_Entry) (p1 : Int) : Option Bool :=
  ((tappetlaw26_awake fu).bind fun r23 =>
  if (!r23) then
    some true
  else
    (trace_Name p1).bind fun r28 =>
    (tappetref26_Name p1).bind fun r32 =>
    some (sNe r28 r32)).bind fun o21 =>
  if o21 then
    some false
  else
    (room (([] : List api_Entry).length + p0.length) 176).bind fun u48 =>
    (forN (tappetlaw26_TracePrints_l1 fu p0) (fun (s730 : Bool) => (.inl s730)) (p0).length 0 true).bind fun o459 => match o459 with
      | .inl t461 =>
        (trace_Print fu (([] : List api_Entry) ++ p0)).bind fun r870 =>
        (tappetref26_Print fu p0).bind fun r878 =>
        ((trace_Plain fu (([] : List api_Entry) ++ p0)).bind fun r899 =>
        if (r899 == t461) then
          if sEq r870.1 r878.1 then
            if (r870.2 == r878.2) then
              (tappetlaw26_logs (([] : List api_Entry) ++ p0) p0).bind fun r906 =>
              some r906
            else
              some false
          else
            some false
        else
          some false).bind fun o897 =>
        some o897
      | .inr r => some r

def trace_kept_34_l1 (p0 : List api_Entry) (p1 : List Int) (i274 : Nat) (again : (List api_Entry) → Option (List api_Entry)) (s272 : (List api_Entry)) : Option (List api_Entry) :=
  (idx p0 (i274 : Int)).bind fun x289 =>
  (trace_Only_1 x289 p1).bind fun r302 =>
  if r302 then
    (room (s272.length + ([x289]).length) 176).bind fun u318 =>
    again (s272 ++ [x289])
  else
    again s272
def trace_kept_34 (p0 : List api_Entry) (p1 : List Int) : Option (List api_Entry) :=
  (forN (trace_kept_34_l1 p0 p1) (fun (s272 : (List api_Entry)) => s272) (p0).length 0 ([] : List api_Entry)).bind fun o166 =>
  some o166

def trace_kept_36_l1 (p0 : List api_Entry) (p1 : List Int) (i274 : Nat) (again : (List api_Entry) → Option (List api_Entry)) (s272 : (List api_Entry)) : Option (List api_Entry) :=
  (idx p0 (i274 : Int)).bind fun x289 =>
  (trace_Of_1 x289 p1).bind fun r302 =>
  if r302 then
    (room (s272.length + ([x289]).length) 176).bind fun u318 =>
    again (s272 ++ [x289])
  else
    again s272
def trace_kept_36 (p0 : List api_Entry) (p1 : List Int) : Option (List api_Entry) :=
  (forN (trace_kept_36_l1 p0 p1) (fun (s272 : (List api_Entry)) => s272) (p0).length 0 ([] : List api_Entry)).bind fun o166 =>
  some o166

def trace_Only (p0 : List api_Entry) (p1 : List Int) : Option (List api_Entry) :=
  (trace_kept_34 p0 p1).bind fun r19 =>
  some r19

def tappetlaw26_TraceEach_l1 (fu : Nat) (p0 : List api_Entry) (r17 : ByteArray × Int) (i189 : Nat) (again : ByteArray → Option (ByteArray ⊕ Bool)) (s188 : ByteArray) : Option (ByteArray ⊕ Bool) :=
  (idx p0 (i189 : Int)).bind fun x204 =>
  (trace_Print fu ([x204])).bind fun r212 =>
  if (r212.2 != 0) then
    some (.inr ((r17.2 == 12) && sEq r17.1 ByteArray.empty))
  else
    (catB s188 r212.1).bind fun x220 =>
    again x220
def tappetlaw26_TraceEach_l2 (p1 : Int) (i357 : Nat) (again : (List Int) → Option (List Int)) (s355 : (List Int)) : Option (List Int) :=
  if ((i357 : Int) != p1) then
    (room (s355.length + ([(i357 : Int)]).length) 8).bind fun u375 =>
    again (s355 ++ [(i357 : Int)])
  else
    again s355
def tappetlaw26_TraceEach (fu : Nat) (p0 : List api_Entry) (p1 : Int) : Option Bool :=
  (tappetlaw26_awake fu).bind fun r8 =>
  if (!r8) then
    some false
  else
    (trace_Print fu p0).bind fun r17 =>
    (forN (tappetlaw26_TraceEach_l1 fu p0 r17) (fun (s188 : ByteArray) => (.inl s188)) (p0).length 0 ByteArray.empty).bind fun o120 => match o120 with
      | .inl t122 =>
        (forN (tappetlaw26_TraceEach_l2 p1) (fun (s355 : (List Int)) => s355) 20 0 ([] : List Int)).bind fun o302 =>
        (trace_Only p0 ([p1])).bind fun r400 =>
        (trace_Only p0 o302).bind fun r416 =>
        some (((r17.2 == 0) && sEq t122 r17.1) && ((w64 (((r400).length : Int) + ((r416).length : Int))) == ((p0).length : Int)))
      | .inr r => some r

def trace_Of (p0 : List api_Entry) (p1 : List Int) : Option (List api_Entry) :=
  (trace_kept_36 p0 p1).bind fun r19 =>
  some r19

def tappetlaw26_TraceOnly_l1 (p1 : List Int) (i228 : Nat) (again : (List Int) → Option (List Int)) (s226 : (List Int)) : Option (List Int) :=
  (idx p1 (i228 : Int)).bind fun x249 =>
  (room (s226.length + ([x249]).length) 8).bind fun u257 =>
  again (s226 ++ [x249])
def tappetlaw26_TraceOnly_l3 (p0 : List api_Entry) (o150 : (List Int)) (i2332 : Nat) (i2459 : Nat) (again : Bool → Option Bool) (s2458 : Bool) : Option Bool :=
  if s2458 then
    again true
  else
    (idx o150 (i2459 : Int)).bind fun x2467 =>
    (idx p0 (i2332 : Int)).bind fun x2473 =>
    again (x2467 == x2473.What)
def tappetlaw26_TraceOnly_l4 (p0 : List api_Entry) (p2 : List Int) (i2332 : Nat) (i2603 : Nat) (again : Bool → Option Bool) (s2602 : Bool) : Option Bool :=
  if s2602 then
    again true
  else
    (idx p2 (i2603 : Int)).bind fun x2611 =>
    (idx p0 (i2332 : Int)).bind fun x2617 =>
    again (x2611 == x2617.Task)
def tappetlaw26_TraceOnly_l2 (p0 : List api_Entry) (p2 : List Int) (o150 : (List Int)) (r277 : (List api_Entry)) (r311 : (List api_Entry)) (i2332 : Nat) (again : (Int × Int) → Option ((Int × Int) ⊕ Bool)) (s2331 : Int × Int) : Option ((Int × Int) ⊕ Bool) :=
  (forN (tappetlaw26_TraceOnly_l3 p0 o150 i2332) (fun (s2458 : Bool) => s2458) (o150).length 0 false).bind fun o2406 =>
  (forN (tappetlaw26_TraceOnly_l4 p0 p2 i2332) (fun (s2602 : Bool) => s2602) (p2).length 0 false).bind fun o2550 =>
  ((if o2406 then
    (if decide (s2331.1 ≥ ((r277).length : Int)) then
      some true
    else
      (idx r277 s2331.1).bind fun x2685 =>
      (idx p0 (i2332 : Int)).bind fun x2691 =>
      some (!((x2685.What == x2691.What) && ((x2685.Task == x2691.Task) && ((x2685.From == x2691.From) && ((x2685.Cmd == x2691.Cmd) && ((x2685.Tag == x2691.Tag) && ((x2685.Event == x2691.Event) && ((x2685.Hook == x2691.Hook) && ((x2685.Prog == x2691.Prog) && ((x2685.Version == x2691.Version) && ((x2685.Pc == x2691.Pc) && (((x2685.Item.Map == x2691.Item.Map) && ((x2685.Item.Op == x2691.Item.Op) && ((x2685.Item.Key == x2691.Item.Key) && ((x2685.Item.Val == x2691.Item.Val) && true)))) && (((x2685.Res.E == x2691.Res.E) && ((x2685.Res.Found == x2691.Res.Found) && ((x2685.Res.Val == x2691.Res.Val) && ((x2685.Res.Out == x2691.Res.Out) && ((x2685.Res.OutKey == x2691.Res.OutKey) && ((x2685.Res.OutVal == x2691.Res.OutVal) && true)))))) && ((x2685.Val == x2691.Val) && ((x2685.E == x2691.E) && true)))))))))))))))).bind fun o2680 =>
    if o2680 then
      some (.inr false)
    else
      some (.inl (w64 (s2331.1 + 1)))
  else
    some (.inl s2331.1)) : Option (Int ⊕ Bool)).bind fun o2659 => match o2659 with
    | .inl t2661 =>
      if o2550 then
        (if decide (s2331.2 ≥ ((r311).length : Int)) then
          some true
        else
          (idx r311 s2331.2).bind fun x2721 =>
          (idx p0 (i2332 : Int)).bind fun x2727 =>
          some (!((x2721.What == x2727.What) && ((x2721.Task == x2727.Task) && ((x2721.From == x2727.From) && ((x2721.Cmd == x2727.Cmd) && ((x2721.Tag == x2727.Tag) && ((x2721.Event == x2727.Event) && ((x2721.Hook == x2727.Hook) && ((x2721.Prog == x2727.Prog) && ((x2721.Version == x2727.Version) && ((x2721.Pc == x2727.Pc) && (((x2721.Item.Map == x2727.Item.Map) && ((x2721.Item.Op == x2727.Item.Op) && ((x2721.Item.Key == x2727.Item.Key) && ((x2721.Item.Val == x2727.Item.Val) && true)))) && (((x2721.Res.E == x2727.Res.E) && ((x2721.Res.Found == x2727.Res.Found) && ((x2721.Res.Val == x2727.Res.Val) && ((x2721.Res.Out == x2727.Res.Out) && ((x2721.Res.OutKey == x2727.Res.OutKey) && ((x2721.Res.OutVal == x2727.Res.OutVal) && true)))))) && ((x2721.Val == x2727.Val) && ((x2721.E == x2727.E) && true)))))))))))))))).bind fun o2716 =>
        if o2716 then
          some (.inr false)
        else
          again (t2661, w64 (s2331.2 + 1))
      else
        again (t2661, s2331.2)
    | .inr r => some (.inr r)
def tappetlaw26_TraceOnly_l5 (again : ((List api_Entry) × Int) → Option Unit) (s2881 : (List api_Entry) × Int) : Option Unit :=
  if decide (s2881.2 < ((s2881.1).length : Int)) then
    (idx s2881.1 s2881.2).bind fun x2894 =>
    again ((s2881.1.set (Int.toNat s2881.2) (api_Entry.mk (-1) 0 0 0 0 0 0 0 0 0 (api_Item.mk 0 0 0 0) (api_Res.mk 0 false 0 false 0 0) 0 0)), w64 (s2881.2 + 1))
  else
    some ()
def tappetlaw26_TraceOnly_l6 (again : ((List api_Entry) × Int) → Option Unit) (s3009 : (List api_Entry) × Int) : Option Unit :=
  if decide (s3009.2 < ((s3009.1).length : Int)) then
    (idx s3009.1 s3009.2).bind fun x3022 =>
    again ((s3009.1.set (Int.toNat s3009.2) (api_Entry.mk (-2) 0 0 0 0 0 0 0 0 0 (api_Item.mk 0 0 0 0) (api_Res.mk 0 false 0 false 0 0) 0 0)), w64 (s3009.2 + 1))
  else
    some ()
def tappetlaw26_TraceOnly (fu : Nat) (p0 : List api_Entry) (p1 : List Int) (p2 : List Int) : Option Bool :=
  (tappetlaw26_awake fu).bind fun r14 =>
  if (!r14) then
    some false
  else
    (room (([] : List api_Entry).length + p0.length) 176).bind fun u30 =>
    (forN (tappetlaw26_TraceOnly_l1 p1) (fun (s226 : (List Int)) => s226) (p1).length 0 ([] : List Int)).bind fun o150 =>
    (trace_Only (([] : List api_Entry) ++ p0) o150).bind fun r277 =>
    (room (([] : List Int).length + p2.length) 8).bind fun u304 =>
    (trace_Of (([] : List api_Entry) ++ p0) (([] : List Int) ++ p2)).bind fun r311 =>
    (forN (tappetlaw26_TraceOnly_l2 p0 p2 o150 r277 r311) (fun (s2331 : Int × Int) => (.inl (s2331.1, s2331.2))) (p0).length 0 (0, 0)).bind fun o1525 => match o1525 with
      | .inl t1527 =>
        (if (t1527.1 != ((r277).length : Int)) then
          some true
        else
          if (t1527.2 != ((r311).length : Int)) then
            some true
          else
            (trace_Only (([] : List api_Entry) ++ p0) ([] : List Int)).bind fun r2757 =>
            if (((r2757).length : Int) != 0) then
              some true
            else
              (trace_Of (([] : List api_Entry) ++ p0) ([] : List Int)).bind fun r2766 =>
              some (((r2766).length : Int) != 0)).bind fun o2753 =>
        if o2753 then
          some false
        else
          (loop tappetlaw26_TraceOnly_l5 fu (r277, 0)).bind fun o2838 =>
          (loop tappetlaw26_TraceOnly_l6 fu (r311, 0)).bind fun o2966 =>
          (tappetlaw26_logs (([] : List api_Entry) ++ p0) p0).bind fun r3035 =>
          some r3035
      | .inr r => some r

end Go.Proofs.YtalllncanpcmfaaDoor
