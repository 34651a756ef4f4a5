/- Written by a program (wip/gen) from the translation: what each Go function computes, as a plain Lean function. -/
import Derived.Test.YtdnogiegiclcfaaGreatDoorCuts
import Derived.Test.YtdnogiegiclcfaaGreatDoorPart
import Derived.Test.YtdnogiegiclcfaaGreatDoorExt
set_option linter.unusedSimpArgs false
namespace Go.Proofs.YtdnogiegiclcfaaGreatDoor
open Go.Sx
set_option linter.unusedVariables false
structure hooks_published where
  version : Int
  prog : Int
def enc_hooks_published (x : hooks_published) : List Value := [.int .i64 x.version, .int .i64 x.prog]
structure hooks_Versions where
  last : Int
structure hooks_Table where
  Versions : hooks_Versions
  hooks : List hooks_published
def R_t67 : Rp (List hooks_published) := rowP 165 (enc_hooks_published) 2 (fun _ => rfl) (by decide)
def R_t69 : Rp hooks_Table := structP (fun (x : hooks_Table) vs => [.int .i64 x.Versions.last, vs.getD 0 undef]) 2 (fun _ _ => rfl) (fun x => x.hooks) (R_t67)
def R_t53 : Rp hooks_Table := ptrP 69 R_t69
def R_t28 : Rp (List Int) := rowP 3 (encInt .i64) 1 (fun _ => rfl) (by decide)
structure refs_Refs where
  maps : Int
  held : List (Int × (List Int))
def R_t110 : Rp (List (Int × (List Int))) := mapNP R_t28
def R_t112 : Rp refs_Refs := structP (fun (x : refs_Refs) vs => [.int .i64 x.maps, vs.getD 0 undef]) 2 (fun _ _ => rfl) (fun x => x.held) (R_t110)
def R_t54 : Rp refs_Refs := ptrP 112 R_t112
structure epoch_Clock where
  now : Int
  in_ : List Int
def R_t106 : Rp epoch_Clock := structP (fun (x : epoch_Clock) vs => [.int .i64 x.now, vs.getD 0 undef]) 2 (fun _ _ => rfl) (fun x => x.in_) (R_t28)
def R_t55 : Rp epoch_Clock := ptrP 106 R_t106
structure api_Inst where
  Op : Int
  D : Int
  A : Int
  B : Int
  Imm : Int
def enc_api_Inst (x : api_Inst) : List Value := [.int .i64 x.Op, .int .i64 x.D, .int .i64 x.A, .int .i64 x.B, .int .i64 x.Imm]
structure api_Module where
  Maps : List Int
  Code : List api_Inst
structure registry_program where
  module : api_Module
  retiring : Int
def R_t29 : Rp (List api_Inst) := rowP 42 (enc_api_Inst) 5 (fun _ => rfl) (by decide)
def R_t97 : Rp registry_program := structP (fun (x : registry_program) vs => [vs.getD 0 undef, vs.getD 1 undef, .int .i64 x.retiring]) 3 (fun _ _ => rfl) (fun x => (x.module.Maps, x.module.Code)) (pairP R_t28 R_t29)
def R_t95 : Rp registry_program := ptrP 97 R_t97
structure registry_Registry where
  Table : hooks_Table
  Refs : refs_Refs
  Clock : epoch_Clock
  hooks : Int
  maps : Int
  given : Int
  progs : List (Int × registry_program)
  waiting : List Int
def R_t56 : Rp (List (Int × registry_program)) := mapNP R_t95
def R_t58 : Rp registry_Registry := structP (fun (x : registry_Registry) vs => [vs.getD 0 undef, vs.getD 1 undef, vs.getD 2 undef, .int .i64 x.hooks, .int .i64 x.maps, .int .i64 x.given, vs.getD 3 undef, vs.getD 4 undef]) 8 (fun _ _ => rfl) (fun x => (x.Table, (x.Refs, (x.Clock, (x.progs, x.waiting))))) (pairP R_t53 (pairP R_t54 (pairP R_t55 (pairP R_t56 R_t28))))
def R_t24 : Rp registry_Registry := ptrP 58 R_t58
structure wire_reader where
  b : List Int
  at_ : Int
  field : Int
  e : Int
def R_t86 (wb : World) (Sb : List Nat) : Rp wire_reader := structP (fun (x : wire_reader) vs => [vs.getD 0 undef, .int .i64 x.at_, .int .i64 x.field, .int .i64 x.e]) 4 (fun _ _ => rfl) (fun x => x.b) ((borP wb Sb (encInt .u8) 1))
def R_t84 (wb : World) (Sb : List Nat) : Rp wire_reader := ptrP 86 (R_t86 wb Sb)
structure ops_form where
  name : ByteArray
  fields : ByteArray
def enc_ops_form (x : ops_form) : List Value := [.string x.name, .string x.fields]
def tab_g0 : List ops_form := [(ops_form.mk (⟨[115, 101, 116].toArray⟩) (⟨[100, 115].toArray⟩)),
  (ops_form.mk (⟨[97, 100, 100].toArray⟩) (⟨[100, 97, 115].toArray⟩)),
  (ops_form.mk (⟨[115, 117, 98].toArray⟩) (⟨[100, 97, 115].toArray⟩)),
  (ops_form.mk (⟨[109, 117, 108].toArray⟩) (⟨[100, 97, 115].toArray⟩)),
  (ops_form.mk (⟨[100, 105, 118].toArray⟩) (⟨[100, 97, 115].toArray⟩)),
  (ops_form.mk (⟨[114, 101, 109].toArray⟩) (⟨[100, 97, 115].toArray⟩)),
  (ops_form.mk (⟨[97, 110, 100].toArray⟩) (⟨[100, 97, 115].toArray⟩)),
  (ops_form.mk (⟨[111, 114].toArray⟩) (⟨[100, 97, 115].toArray⟩)),
  (ops_form.mk (⟨[120, 111, 114].toArray⟩) (⟨[100, 97, 115].toArray⟩)),
  (ops_form.mk (⟨[115, 104, 108].toArray⟩) (⟨[100, 97, 115].toArray⟩)),
  (ops_form.mk (⟨[115, 104, 114].toArray⟩) (⟨[100, 97, 115].toArray⟩)),
  (ops_form.mk (⟨[108, 111, 97, 100].toArray⟩) (⟨[100, 115].toArray⟩)),
  (ops_form.mk (⟨[115, 116, 111, 114, 101].toArray⟩) (⟨[97, 115].toArray⟩)),
  (ops_form.mk (⟨[102, 105, 101, 108, 100].toArray⟩) (⟨[100, 102].toArray⟩)),
  (ops_form.mk (⟨[109, 97, 112].toArray⟩) (⟨[100, 109].toArray⟩)),
  (ops_form.mk (⟨[106, 117, 109, 112].toArray⟩) (⟨[106].toArray⟩)),
  (ops_form.mk (⟨[106, 101, 113].toArray⟩) (⟨[106, 97, 115].toArray⟩)),
  (ops_form.mk (⟨[106, 110, 101].toArray⟩) (⟨[106, 97, 115].toArray⟩)),
  (ops_form.mk (⟨[106, 108, 116].toArray⟩) (⟨[106, 97, 115].toArray⟩)),
  (ops_form.mk (⟨[106, 103, 101].toArray⟩) (⟨[106, 97, 115].toArray⟩)),
  (ops_form.mk (⟨[108, 111, 111, 112].toArray⟩) (⟨[98, 97, 110].toArray⟩)),
  (ops_form.mk (⟨[99, 97, 108, 108].toArray⟩) (⟨[104].toArray⟩)),
  (ops_form.mk (⟨[101, 120, 105, 116].toArray⟩) (⟨[97].toArray⟩))]
structure api_Loop where
  Head : Int
  At : Int
  Bound : Int
def enc_api_Loop (x : api_Loop) : List Value := [.int .i64 x.Head, .int .i64 x.At, .int .i64 x.Bound]
structure api_Span where
  Lo : Int
  Hi : Int
def enc_api_Span (x : api_Span) : List Value := [.int .u64 x.Lo, .int .u64 x.Hi]
structure api_Type where
  Kind : Int
  Span : api_Span
  Map : Int
def enc_api_Type (x : api_Type) : List Value := [.int .i64 x.Kind, .int .u64 x.Span.Lo, .int .u64 x.Span.Hi, .int .i64 x.Map]
structure judge_judge where
  Module : api_Module
  came : List (Nat → api_Type)
  any : List Bool
  loops : List api_Loop
def R_t143 : Rp (List (Nat → api_Type)) := rowP 156 (arrC (enc_api_Type) 8) 32 (fun _ => rfl) (by decide)
def R_t50 : Rp (List Bool) := rowP 4 (encBool) 1 (fun _ => rfl) (by decide)
def R_t144 : Rp (List api_Loop) := rowP 180 (enc_api_Loop) 3 (fun _ => rfl) (by decide)
def R_t146 (wb : World) (Sb : List Nat) : Rp judge_judge := structP (fun (x : judge_judge) vs => [vs.getD 0 undef, vs.getD 1 undef, vs.getD 2 undef, vs.getD 3 undef, vs.getD 4 undef]) 5 (fun _ _ => rfl) (fun x => (x.Module.Maps, (x.Module.Code, (x.came, (x.any, x.loops))))) (pairP (borP wb Sb (encInt .i64) 1) (pairP (borP wb Sb (enc_api_Inst) 5) (pairP R_t143 (pairP R_t50 R_t144))))
def R_t92 (wb : World) (Sb : List Nat) : Rp judge_judge := ptrP 146 (R_t146 wb Sb)
structure sigs_sig where
  name : ByteArray
  wants : ByteArray
  most : Int
  asks : Int
  isAsked : Bool
def enc_sigs_sig (x : sigs_sig) : List Value := [.string x.name, .string x.wants, .int .u64 x.most, .int .i64 x.asks, .bool x.isAsked]
def tab_g1 : List sigs_sig := [(sigs_sig.mk (⟨[103, 101, 116].toArray⟩) (⟨[104, 110].toArray⟩) 18446744073709551615 0 true),
  (sigs_sig.mk (⟨[104, 97, 115].toArray⟩) (⟨[104, 110].toArray⟩) 1 1 true),
  (sigs_sig.mk (⟨[112, 117, 116].toArray⟩) (⟨[104, 110, 110].toArray⟩) 1 2 true),
  (sigs_sig.mk (⟨[100, 101, 108].toArray⟩) (⟨[104, 110].toArray⟩) 1 3 true),
  (sigs_sig.mk (⟨[97, 100, 100].toArray⟩) (⟨[104, 110, 110].toArray⟩) 18446744073709551615 4 true),
  (sigs_sig.mk (⟨[109, 97, 114, 107].toArray⟩) (⟨[115].toArray⟩) 18446744073709551615 0 false),
  (sigs_sig.mk (⟨[110, 111, 116, 101].toArray⟩) (⟨[110].toArray⟩) 0 0 false)]
structure tappetlaw24_Op where
  Kind : Int
  A : Int
  B : Int
  Bytes : List Int
def slices_Index_int_int_l1 (p0 : List Int) (p1 : Int) (i87 : Nat) (again : Unit → Option (Unit ⊕ Int)) (s86 : Unit) : Option (Unit ⊕ Int) :=
  (idx p0 (i87 : Int)).bind fun x96 =>
  if (p1 == x96) then
    some (.inr (i87 : Int))
  else
    again ()
def slices_Index_int_int (p0 : List Int) (p1 : Int) : Option Int :=
  (forN (slices_Index_int_int_l1 p0 p1) (fun (s86 : Unit) => (.inl ())) (p0).length 0 ()).bind fun o52 => match o52 with
    | .inl t54 =>
      some (-1)
    | .inr r => some r
def slices_Contains_int_int (p0 : List Int) (p1 : Int) : Option Bool :=
  (slices_Index_int_int p0 p1).bind fun r8 =>
  some (decide (r8 ≥ 0))
def hooks_New (p0 : Int) : Option ((Option hooks_Table) × Int) :=
  if (decide (p0 < 1) || decide (p0 > 4)) then
    some (none, 2)
  else
    (mkLen p0 16).bind fun m9 =>
    some ((some (hooks_Table.mk (hooks_Versions.mk 0) (List.replicate m9 (hooks_published.mk 0 0)))), 0)
def refs_New (p0 : Int) : Option ((Option refs_Refs) × Int) :=
  if (decide (p0 < 0) || decide (p0 > 4)) then
    some (none, 2)
  else
    some ((some (refs_Refs.mk p0 ([] : List (Int × (List Int))))), 0)
def epoch_New (p0 : Int) : Option ((Option epoch_Clock) × Int) :=
  if (decide (p0 < 1) || decide (p0 > 4)) then
    some (none, 2)
  else
    (mkLen p0 8).bind fun m9 =>
    some ((some (epoch_Clock.mk 1 (List.replicate m9 0))), 0)
def registry_New (p0 : Int) (p1 : Int) (p2 : Int) : Option ((Option registry_Registry) × Int) :=
  (hooks_New p0).bind fun r11 =>
  ocase r11.1
    ((refs_New p1).bind fun r136 =>
    ocase r136.1
      ((epoch_New p2).bind fun r198 =>
      ocase r198.1
        (if (((r11.2 != 0) || (r136.2 != 0)) || (r198.2 != 0)) then
          some (none, 2)
        else
          none)
        (fun k202 =>
        if (((r11.2 != 0) || (r136.2 != 0)) || (r198.2 != 0)) then
          some (none, 2)
        else
          none))
      (fun k140 =>
      (epoch_New p2).bind fun r156 =>
      ocase r156.1
        (if (((r11.2 != 0) || (r136.2 != 0)) || (r156.2 != 0)) then
          some (none, 2)
        else
          none)
        (fun k160 =>
        if (((r11.2 != 0) || (r136.2 != 0)) || (r156.2 != 0)) then
          some (none, 2)
        else
          none)))
    (fun k15 =>
    (refs_New p1).bind fun r31 =>
    ocase r31.1
      ((epoch_New p2).bind fun r94 =>
      ocase r94.1
        (if (((r11.2 != 0) || (r31.2 != 0)) || (r94.2 != 0)) then
          some (none, 2)
        else
          none)
        (fun k98 =>
        if (((r11.2 != 0) || (r31.2 != 0)) || (r94.2 != 0)) then
          some (none, 2)
        else
          none))
      (fun k35 =>
      (epoch_New p2).bind fun r51 =>
      ocase r51.1
        (if (((r11.2 != 0) || (r31.2 != 0)) || (r51.2 != 0)) then
          some (none, 2)
        else
          none)
        (fun k55 =>
        if (((r11.2 != 0) || (r31.2 != 0)) || (r51.2 != 0)) then
          some (none, 2)
        else
          some ((some (registry_Registry.mk k15 k35 k55 p0 p1 0 ([] : List (Int × registry_program)) ([] : List Int))), 0))))
def tappetlaw24_five  : Option (List Int) :=
  some ([84, 80, 1, 1, 2, 2, 0, 0, 0, 8, 10, 22, 0, 0, 0, 0] : List Int)
def wire_reader_fail (p0 : wire_reader) (p1 : Int) : Option wire_reader :=
  if (p0.e == 0) then
    some (wire_reader.mk p0.b p0.at_ p0.field p1)
  else
    some p0
def wire_reader_begin_l1 (again : wire_reader → Option wire_reader) (s662 : wire_reader) : Option wire_reader :=
  if (decide (s662.at_ < 3) && (s662.e == 0)) then
    (if decide (s662.at_ ≥ ((s662.b).length : Int)) then
      (wire_reader_fail (wire_reader.mk s662.b s662.at_ s662.at_ s662.e) 10).bind fun r743 =>
      some r743
    else
      (idx s662.b s662.at_).bind fun x760 =>
      (sidx (⟨[84, 80, 1].toArray⟩) s662.at_).bind fun c766 =>
      if (x760 != c766) then
        (wire_reader_fail (wire_reader.mk s662.b s662.at_ s662.at_ s662.e) 12).bind fun r776 =>
        some r776
      else
        some (wire_reader.mk s662.b s662.at_ s662.at_ s662.e)).bind fun o727 =>
    again (wire_reader.mk o727.b (w64 (o727.at_ + 1)) o727.field o727.e)
  else
    some s662
def wire_reader_begin (fu : Nat) (p0 : wire_reader) : Option wire_reader :=
  (loop wire_reader_begin_l1 fu p0).bind fun o397 =>
  some o397
def leb_Get_l1 (p0 : List Int) (i114 : Nat) (again : Int → Option (Unit ⊕ (Int × Int × Int))) (s113 : Int) : Option (Unit ⊕ (Int × Int × Int)) :=
  (idx p0 (i114 : Int)).bind fun x123 =>
  if ((((i114 : Int) == 9) && decide (x123 > 1)) || (decide ((i114 : Int) > 0) && (x123 == 0))) then
    some (.inr (0, 0, 12))
  else
    (nn (w64 (7 * (i114 : Int)))).bind fun u136 =>
    if decide (x123 < 128) then
      some (.inr (bOr .u64 s113 (bShl .u64 (wu64 (bAnd .u8 x123 127)) (w64 (7 * (i114 : Int)))), w64 ((i114 : Int) + 1), 0))
    else
      again (bOr .u64 s113 (bShl .u64 (wu64 (bAnd .u8 x123 127)) (w64 (7 * (i114 : Int)))))
def leb_Get (p0 : List Int) : Option (Int × Int × Int) :=
  (forN (leb_Get_l1 p0) (fun (s113 : Int) => (.inl ())) (p0).length 0 0).bind fun o70 => match o70 with
    | .inl t72 =>
      some (0, 0, 10)
    | .inr r => some r
def wire_reader_number (p0 : wire_reader) (p1 : Int) (p2 : Int) : Option (Int × wire_reader) :=
  if (p0.e != 0) then
    some (0, p0)
  else
    (cut p0.b p0.at_ (p0.b.length : Int)).bind fun ys24 =>
    (leb_Get ys24).bind fun r27 =>
    if (r27.2.2 != 0) then
      (wire_reader_fail (wire_reader.mk p0.b (w64 (p0.at_ + r27.2.1)) p0.at_ p0.e) r27.2.2).bind fun r41 =>
      some (0, r41)
    else
      if decide (r27.1 > p1) then
        (wire_reader_fail (wire_reader.mk p0.b (w64 (p0.at_ + r27.2.1)) p0.at_ p0.e) p2).bind fun r54 =>
        some (0, r54)
      else
        some (w64 r27.1, (wire_reader.mk p0.b (w64 (p0.at_ + r27.2.1)) p0.at_ p0.e))
def leb_GetInt (p0 : List Int) : Option (Int × Int × Int) :=
  (leb_Get p0).bind fun r8 =>
  some (bXor .i64 (w64 (bShr .u64 r8.1 1)) (w64 (0 - (w64 (bAnd .u64 r8.1 1)))), r8.2.1, r8.2.2)
def ops_of (p0 : Int) : Option (ops_form × Bool) :=
  if (decide (p0 < 0) || decide (p0 ≥ 23)) then
    some ((ops_form.mk ByteArray.empty ByteArray.empty), false)
  else
    (idx tab_g0 p0).bind fun x12 =>
    some (x12, true)
def ops_register (p0 : Int) : Option Bool :=
  some (decide (p0 ≥ 0) && decide (p0 < 8))
def ops_within (p0 : Int) (p1 : Int) (p2 : Int) : Option Bool :=
  some (decide (p0 ≥ p1) && decide (p0 ≤ p2))
def ops_right_l1 (p0 : api_Inst) (r12 : ops_form × Bool) (i610 : Nat) (again : (Bool × api_Inst) → Option (Bool × api_Inst)) (s609 : Bool × api_Inst) : Option (Bool × api_Inst) :=
  (sidx r12.1.fields (i610 : Int)).bind fun c617 =>
  if (c617 == 100) then
    if s609.1 then
      (ops_register p0.D).bind fun r621 =>
      again (r621, (api_Inst.mk s609.2.Op 0 s609.2.A s609.2.B s609.2.Imm))
    else
      again (false, (api_Inst.mk s609.2.Op 0 s609.2.A s609.2.B s609.2.Imm))
  else
    if (c617 == 97) then
      if s609.1 then
        (ops_register p0.A).bind fun r629 =>
        again (r629, (api_Inst.mk s609.2.Op s609.2.D 0 s609.2.B s609.2.Imm))
      else
        again (false, (api_Inst.mk s609.2.Op s609.2.D 0 s609.2.B s609.2.Imm))
    else
      if (c617 == 115) then
        if (p0.B == 8) then
          again (s609.1, (api_Inst.mk s609.2.Op s609.2.D s609.2.A 0 0))
        else
          if s609.1 then
            (ops_register p0.B).bind fun r642 =>
            again (r642, (api_Inst.mk s609.2.Op s609.2.D s609.2.A 0 s609.2.Imm))
          else
            again (false, (api_Inst.mk s609.2.Op s609.2.D s609.2.A 0 s609.2.Imm))
      else
        if (c617 == 102) then
          if s609.1 then
            (ops_within p0.Imm 0 1).bind fun r648 =>
            again (r648, (api_Inst.mk s609.2.Op s609.2.D s609.2.A s609.2.B 0))
          else
            again (false, (api_Inst.mk s609.2.Op s609.2.D s609.2.A s609.2.B 0))
        else
          if (c617 == 109) then
            if s609.1 then
              (ops_within p0.Imm 0 3).bind fun r656 =>
              again (r656, (api_Inst.mk s609.2.Op s609.2.D s609.2.A s609.2.B 0))
            else
              again (false, (api_Inst.mk s609.2.Op s609.2.D s609.2.A s609.2.B 0))
          else
            if (c617 == 104) then
              if s609.1 then
                (ops_within p0.Imm 0 6).bind fun r664 =>
                again (r664, (api_Inst.mk s609.2.Op s609.2.D s609.2.A s609.2.B 0))
              else
                again (false, (api_Inst.mk s609.2.Op s609.2.D s609.2.A s609.2.B 0))
            else
              if (c617 == 110) then
                if s609.1 then
                  (ops_within p0.Imm 1 255).bind fun r672 =>
                  again (r672, (api_Inst.mk s609.2.Op s609.2.D s609.2.A s609.2.B 0))
                else
                  again (false, (api_Inst.mk s609.2.Op s609.2.D s609.2.A s609.2.B 0))
              else
                if (c617 == 106) then
                  if s609.1 then
                    (ops_within p0.D 0 63).bind fun r680 =>
                    again (r680, (api_Inst.mk s609.2.Op 0 s609.2.A s609.2.B s609.2.Imm))
                  else
                    again (false, (api_Inst.mk s609.2.Op 0 s609.2.A s609.2.B s609.2.Imm))
                else
                  if (c617 == 98) then
                    if s609.1 then
                      (ops_within p0.D 1 63).bind fun r688 =>
                      again (r688, (api_Inst.mk s609.2.Op 0 s609.2.A s609.2.B s609.2.Imm))
                    else
                      again (false, (api_Inst.mk s609.2.Op 0 s609.2.A s609.2.B s609.2.Imm))
                  else
                    again (s609.1, s609.2)
def ops_right (p0 : api_Inst) : Option Bool :=
  (ops_of p0.Op).bind fun r12 =>
  if (!r12.2) then
    some false
  else
    ((room r12.1.fields.size 1).bind fun u612 =>
    forN (ops_right_l1 p0 r12) (fun (s609 : Bool × api_Inst) => (s609.1, s609.2)) r12.1.fields.size 0 (r12.2, (api_Inst.mk 0 p0.D p0.A p0.B p0.Imm))).bind fun o364 =>
    (if o364.1 then
      some ((o364.2.Op == 0) && ((o364.2.D == 0) && ((o364.2.A == 0) && ((o364.2.B == 0) && ((o364.2.Imm == 0) && true)))))
    else
      some false).bind fun o695 =>
    some o695
def ops_Right_l1 (p0 : List api_Inst) (i157 : Nat) (again : Unit → Option (Unit ⊕ Bool)) (s156 : Unit) : Option (Unit ⊕ Bool) :=
  (idx p0 (i157 : Int)).bind fun x169 =>
  (ops_right x169).bind fun r182 =>
  if (!r182) then
    some (.inr false)
  else
    again ()
def ops_Right (p0 : List api_Inst) : Option Bool :=
  (forN (ops_Right_l1 p0) (fun (s156 : Unit) => (.inl ())) (p0).length 0 ()).bind fun o94 => match o94 with
    | .inl t96 =>
      some true
    | .inr r => some r
def wire_reader_inst (p0 : wire_reader) : Option (api_Inst × wire_reader) :=
  (wire_reader_number p0 22 12).bind fun r23 =>
  (wire_reader_number r23.2 63 12).bind fun r37 =>
  (wire_reader_number r37.2 63 12).bind fun r49 =>
  (wire_reader_number r49.2 63 12).bind fun r61 =>
  if (r61.2.e != 0) then
    some ((api_Inst.mk r23.1 r37.1 r49.1 r61.1 0), r61.2)
  else
    (cut r61.2.b r61.2.at_ (r61.2.b.length : Int)).bind fun ys91 =>
    (leb_GetInt ys91).bind fun r94 =>
    if (r94.2.2 != 0) then
      (wire_reader_fail (wire_reader.mk r61.2.b (w64 (r61.2.at_ + r94.2.1)) r61.2.at_ r61.2.e) r94.2.2).bind fun r110 =>
      some ((api_Inst.mk r23.1 r37.1 r49.1 r61.1 r94.1), r110)
    else
      (ops_Right ([(api_Inst.mk r23.1 r37.1 r49.1 r61.1 r94.1)])).bind fun r125 =>
      if (!r125) then
        (wire_reader_fail (wire_reader.mk r61.2.b (w64 (r61.2.at_ + r94.2.1)) p0.at_ r61.2.e) 12).bind fun r139 =>
        some ((api_Inst.mk r23.1 r37.1 r49.1 r61.1 r94.1), r139)
      else
        some ((api_Inst.mk r23.1 r37.1 r49.1 r61.1 r94.1), (wire_reader.mk r61.2.b (w64 (r61.2.at_ + r94.2.1)) r61.2.at_ r61.2.e))
def wire_Decode_l1 (r33 : Int × wire_reader) (again : (wire_reader × (List Int) × Int) → Option (wire_reader × (List Int))) (s447 : wire_reader × (List Int) × Int) : Option (wire_reader × (List Int)) :=
  if decide (s447.2.2 < r33.1) then
    (wire_reader_number s447.1 3 12).bind fun r459 =>
    (slices_Contains_int_int s447.2.1 r459.1).bind fun r468 =>
    (if r468 then
      (wire_reader_fail r459.2 12).bind fun r492 =>
      some r492
    else
      some r459.2).bind fun o484 =>
    if (o484.e != 0) then
      some (o484, s447.2.1)
    else
      (room (s447.2.1.length + ([r459.1]).length) 8).bind fun u519 =>
      again (o484, (s447.2.1 ++ [r459.1]), w64 (s447.2.2 + 1))
  else
    some (s447.1, s447.2.1)
def wire_Decode_l2 (r538 : Int × wire_reader) (again : (wire_reader × (List api_Inst) × Int) → Option (wire_reader × (List api_Inst))) (s836 : wire_reader × (List api_Inst) × Int) : Option (wire_reader × (List api_Inst)) :=
  if (decide (s836.2.2 < r538.1) && (s836.1.e == 0)) then
    (wire_reader_inst s836.1).bind fun r872 =>
    (room (s836.2.1.length + ([r872.1]).length) 40).bind fun u879 =>
    again (r872.2, (s836.2.1 ++ [r872.1]), w64 (s836.2.2 + 1))
  else
    some (s836.1, s836.2.1)
def wire_Decode (fu : Nat) (p0 : List Int) : Option (api_Module × Int × Int) :=
  (wire_reader_begin fu (wire_reader.mk p0 0 0 0)).bind fun r23 =>
  (wire_reader_number r23 4 11).bind fun r33 =>
  (loop (wire_Decode_l1 r33) fu (r33.2, ([] : List Int), 0)).bind fun o282 =>
  (wire_reader_number o282.1 64 11).bind fun r538 =>
  (if (r538.1 == 0) then
    (wire_reader_fail r538.2 12).bind fun r563 =>
    some r563
  else
    some r538.2).bind fun o555 =>
  (loop (wire_Decode_l2 r538) fu (o555, ([] : List api_Inst), 0)).bind fun o728 =>
  (if ((o728.1.e == 0) && decide (o728.1.at_ < ((p0).length : Int))) then
    (wire_reader_fail (wire_reader.mk o728.1.b o728.1.at_ o728.1.at_ o728.1.e) 13).bind fun r930 =>
    some r930
  else
    some o728.1).bind fun o918 =>
  if (o918.e != 0) then
    some ((api_Module.mk ([] : List Int) ([] : List api_Inst)), o918.field, o918.e)
  else
    some ((api_Module.mk o282.2 o728.2), 0, 0)
def judge_good_l1 (p0 : List Int) (i187 : Nat) (again : Unit → Option (Unit ⊕ Bool)) (s186 : Unit) : Option (Unit ⊕ Bool) :=
  (idx p0 (i187 : Int)).bind fun x196 =>
  (if decide (x196 < 0) then
    some true
  else
    if decide (x196 ≥ 4) then
      some true
    else
      (cut p0 0 (i187 : Int)).bind fun ys215 =>
      (slices_Contains_int_int ys215 x196).bind fun r218 =>
      some r218).bind fun o211 =>
  if o211 then
    some (.inr false)
  else
    again ()
def judge_good (p0 : List Int) : Option Bool :=
  (forN (judge_good_l1 p0) (fun (s186 : Unit) => (.inl ())) (p0).length 0 ()).bind fun o112 => match o112 with
    | .inl t114 =>
      some (decide (((p0).length : Int) ≤ 4))
    | .inr r => some r
def ops_form_uses_l1 (p0 : ops_form) (p1 : Int) (i50 : Nat) (again : Unit → Option (Unit ⊕ Bool)) (s49 : Unit) : Option (Unit ⊕ Bool) :=
  (sidx p0.fields (i50 : Int)).bind fun c57 =>
  if (c57 == p1) then
    some (.inr true)
  else
    again ()
def ops_form_uses (p0 : ops_form) (p1 : Int) : Option Bool :=
  ((room p0.fields.size 1).bind fun u52 =>
  forN (ops_form_uses_l1 p0 p1) (fun (s49 : Unit) => (.inl ())) p0.fields.size 0 ()).bind fun o31 => match o31 with
    | .inl t33 =>
      some false
    | .inr r => some r
def ops_Goes (p0 : api_Inst) : Option (Int × Bool × Bool) :=
  (ops_right p0).bind fun r9 =>
  if (!r9) then
    some (0, false, false)
  else
    (ops_of p0.Op).bind fun r21 =>
    (ops_form_uses r21.1 106).bind fun r32 =>
    if r32 then
      some (w64 (p0.D + 1), true, (p0.Op != 15))
    else
      (ops_form_uses r21.1 98).bind fun r45 =>
      if r45 then
        some (w64 (0 - p0.D), true, true)
      else
        some (0, false, (p0.Op != 22))
def flow_places_l1 (p0 : List api_Inst) (i242 : Nat) (again : Unit → Option (Unit ⊕ (Int × Int))) (s241 : Unit) : Option (Unit ⊕ (Int × Int)) :=
  (idx p0 (i242 : Int)).bind fun x254 =>
  (ops_Goes x254).bind fun r267 =>
  (ops_Right ([x254])).bind fun r279 =>
  if (!r279) then
    some (.inr ((i242 : Int), 12))
  else
    if (r267.2.1 && (decide ((w64 ((i242 : Int) + r267.1)) < 0) || decide ((w64 ((i242 : Int) + r267.1)) ≥ ((p0).length : Int)))) then
      some (.inr ((i242 : Int), 30))
    else
      if (r267.2.2 && ((i242 : Int) == (w64 (((p0).length : Int) - 1)))) then
        some (.inr ((i242 : Int), 36))
      else
        again ()
def flow_places (p0 : List api_Inst) : Option (Int × Int) :=
  (forN (flow_places_l1 p0) (fun (s241 : Unit) => (.inl ())) (p0).length 0 ()).bind fun o145 => match o145 with
    | .inl t147 =>
      some (0, 0)
    | .inr r => some r
def flow_loops_l1 (p0 : List api_Inst) (i231 : Nat) (again : (List api_Loop) → Option (List api_Loop)) (s229 : (List api_Loop)) : Option (List api_Loop) :=
  (idx p0 (i231 : Int)).bind fun x246 =>
  if (x246.Op == 20) then
    (room (s229.length + ([(api_Loop.mk (w64 ((i231 : Int) - x246.D)) (i231 : Int) x246.Imm)]).length) 24).bind fun u267 =>
    again (s229 ++ [(api_Loop.mk (w64 ((i231 : Int) - x246.D)) (i231 : Int) x246.Imm)])
  else
    again s229
def flow_loops (p0 : List api_Inst) : Option (List api_Loop) :=
  (forN (flow_loops_l1 p0) (fun (s229 : (List api_Loop)) => s229) (p0).length 0 ([] : List api_Loop)).bind fun o139 =>
  some o139
def flow_in (p0 : api_Loop) (p1 : Int) : Option Bool :=
  some (decide (p1 ≥ p0.Head) && decide (p1 ≤ p0.At))
def flow_nested_l2 (x985 : api_Loop) (ys996 : List api_Loop) (i1136 : Nat) (again : Unit → Option (Unit ⊕ (Int × Int))) (s1135 : Unit) : Option (Unit ⊕ (Int × Int)) :=
  (idx ys996 (i1136 : Int)).bind fun x1150 =>
  if (decide (x1150.At ≥ x985.Head) && decide (x1150.Head < x985.Head)) then
    some (.inr (x985.At, 31))
  else
    again ()
def flow_nested_l1 (r12 : (List api_Loop)) (i973 : Nat) (again : Unit → Option (Unit ⊕ (Int × Int))) (s972 : Unit) : Option (Unit ⊕ (Int × Int)) :=
  (idx r12 (i973 : Int)).bind fun x985 =>
  (cut r12 0 (i973 : Int)).bind fun ys996 =>
  (forN (flow_nested_l2 x985 ys996) (fun (s1135 : Unit) => (.inl ())) (ys996).length 0 ()).bind fun o1079 => match o1079 with
    | .inl t1081 =>
      again ()
    | .inr r => some (.inr r)
def flow_nested_l4 (r12 : (List api_Loop)) (i2766 : Nat) (r2791 : Int × Bool × Bool) (i3038 : Nat) (again : Unit → Option (Unit ⊕ (Int × Int))) (s3037 : Unit) : Option (Unit ⊕ (Int × Int)) :=
  (idx r12 (i3038 : Int)).bind fun x3050 =>
  (if r2791.2.1 then
    if decide (r2791.1 > 0) then
      (flow_in x3050 (i2766 : Int)).bind fun r3075 =>
      if (!r3075) then
        (flow_in x3050 (w64 ((i2766 : Int) + r2791.1))).bind fun r3080 =>
        if r3080 then
          some ((w64 ((i2766 : Int) + r2791.1)) != x3050.Head)
        else
          some false
      else
        some false
    else
      some false
  else
    some false).bind fun o3071 =>
  if o3071 then
    some (.inr ((i2766 : Int), 31))
  else
    again ()
def flow_nested_l3 (p0 : List api_Inst) (r12 : (List api_Loop)) (i2766 : Nat) (again : Unit → Option (Unit ⊕ (Int × Int))) (s2765 : Unit) : Option (Unit ⊕ (Int × Int)) :=
  (idx p0 (i2766 : Int)).bind fun x2778 =>
  (ops_Goes x2778).bind fun r2791 =>
  (forN (flow_nested_l4 r12 i2766 r2791) (fun (s3037 : Unit) => (.inl ())) (r12).length 0 ()).bind fun o2939 => match o2939 with
    | .inl t2941 =>
      again ()
    | .inr r => some (.inr r)
def flow_nested (p0 : List api_Inst) : Option (Int × Int) :=
  (flow_loops p0).bind fun r12 =>
  (forN (flow_nested_l1 r12) (fun (s972 : Unit) => (.inl ())) (r12).length 0 ()).bind fun o590 => match o590 with
    | .inl t592 =>
      (forN (flow_nested_l3 p0 r12) (fun (s2765 : Unit) => (.inl ())) (p0).length 0 ()).bind fun o2123 => match o2123 with
        | .inl t2125 =>
          some (0, 0)
        | .inr r => some r
    | .inr r => some r
def flow_cost_l2 (r12 : (List api_Loop)) (i947 : Nat) (i1102 : Nat) (again : Int → Option Int) (s1101 : Int) : Option Int :=
  (idx r12 (i1102 : Int)).bind fun x1114 =>
  (flow_in x1114 (i947 : Int)).bind fun r1127 =>
  if r1127 then
    again (imin (w64 (s1101 * (w64 (x1114.Bound + 1)))) 257)
  else
    again s1101
def flow_cost_l1 (r12 : (List api_Loop)) (i947 : Nat) (again : Int → Option Int) (s946 : Int) : Option Int :=
  (forN (flow_cost_l2 r12 i947) (fun (s1101 : Int) => s1101) (r12).length 0 1).bind fun o1040 =>
  again (imin (w64 (s946 + o1040)) 257)
def flow_cost (p0 : List api_Inst) : Option Int :=
  (flow_loops p0).bind fun r12 =>
  (forN (flow_cost_l1 r12) (fun (s946 : Int) => s946) (p0).length 0 0).bind fun o575 =>
  some o575
def flow_Check (p0 : List api_Inst) : Option (Int × Int) :=
  if (((p0).length : Int) == 0) then
    some (0, 10)
  else
    if decide (((p0).length : Int) > 64) then
      some (0, 11)
    else
      (flow_places p0).bind fun r10 =>
      if (r10.2 != 0) then
        some (r10.1, r10.2)
      else
        (flow_nested p0).bind fun r19 =>
        if (r19.2 != 0) then
          some (r19.1, r19.2)
        else
          (flow_cost p0).bind fun r28 =>
          if decide (r28 > 256) then
            some (0, 32)
          else
            some (0, 0)
def flow_Loops (p0 : List api_Inst) : Option ((List api_Loop) × Int) :=
  (flow_Check p0).bind fun r8 =>
  if (r8.2 != 0) then
    some (([] : List api_Loop), r8.2)
  else
    (flow_loops p0).bind fun r21 =>
    some (r21, 0)
def ops_Writes (p0 : api_Inst) : Option (Int × Bool) :=
  (ops_right p0).bind fun r9 =>
  if (!r9) then
    some (0, false)
  else
    (ops_of p0.Op).bind fun r21 =>
    (ops_form_uses r21.1 100).bind fun r32 =>
    if r32 then
      some (p0.D, true)
    else
      some (0, (p0.Op == 21))
def span_Full  : Option api_Span :=
  some (api_Span.mk 0 18446744073709551615)
def judge_number (p0 : api_Span) : Option api_Type :=
  some (api_Type.mk 1 p0 0)
def judge_judge_widen_l2 (p1 : Int) (ys3071 : List api_Inst) (i3539 : Nat) (again : (List (Nat → api_Type)) → Option (List (Nat → api_Type))) (s3537 : (List (Nat → api_Type))) : Option (List (Nat → api_Type)) :=
  (idx ys3071 (i3539 : Int)).bind fun x3554 =>
  (ops_Writes x3554).bind fun r3567 =>
  if (!r3567.2) then
    again s3537
  else
    (idx s3537 p1).bind fun x3581 =>
    (ain 8 r3567.1).bind fun i3587 =>
    if ((x3581 i3587).Kind == 1) then
      span_Full.bind fun r3611 =>
      (judge_number r3611).bind fun r3615 =>
      again (s3537.set (Int.toNat p1) (aset x3581 i3587 r3615))
    else
      again (s3537.set (Int.toNat p1) (aset x3581 i3587 (api_Type.mk 0 (api_Span.mk 0 0) 0)))
def judge_judge_widen_l1 (p0 : judge_judge) (p1 : Int) (i3038 : Nat) (again : (List (Nat → api_Type)) → Option judge_judge) (s3036 : (List (Nat → api_Type))) : Option judge_judge :=
  (idx p0.loops (i3038 : Int)).bind fun x3053 =>
  if (x3053.Head != p1) then
    again s3036
  else
    (cut p0.Module.Code x3053.Head (w64 (x3053.At + 1))).bind fun ys3071 =>
    (forN (judge_judge_widen_l2 p1 ys3071) (fun (s3537 : (List (Nat → api_Type))) => s3537) (ys3071).length 0 s3036).bind fun o3352 =>
    again o3352
def judge_judge_widen (p0 : judge_judge) (p1 : Int) : Option judge_judge :=
  (forN (judge_judge_widen_l1 p0 p1) (fun (s3036 : (List (Nat → api_Type))) => (judge_judge.mk p0.Module s3036 p0.any p0.loops)) (p0.loops).length 0 p0.came).bind fun o1835 =>
  some o1835
def ops_Source (p0 : api_Inst) : Option Bool :=
  (ops_of p0.Op).bind fun r12 =>
  ((ops_right p0).bind fun r34 =>
  if r34 then
    (ops_form_uses r12.1 115).bind fun r39 =>
    some r39
  else
    some false).bind fun o32 =>
  some o32
def span_Single (p0 : Int) : Option api_Span :=
  some (api_Span.mk p0 p0)
def judge_source (p0 : api_Inst) (p1 : Nat → api_Type) : Option api_Type :=
  if (p0.B == 8) then
    (span_Single (wu64 p0.Imm)).bind fun r23 =>
    (judge_number r23).bind fun r27 =>
    some r27
  else
    (ain 8 p0.B).bind fun i35 =>
    some (p1 i35)
def judge_nums_l1 (p0 : List api_Type) (i117 : Nat) (again : Unit → Option (Unit ⊕ Int)) (s116 : Unit) : Option (Unit ⊕ Int) :=
  (idx p0 (i117 : Int)).bind fun x129 =>
  if (x129.Kind != 1) then
    some (.inr 33)
  else
    again ()
def judge_nums (p0 : List api_Type) : Option Int :=
  (forN (judge_nums_l1 p0) (fun (s116 : Unit) => (.inl ())) (p0).length 0 ()).bind fun o70 => match o70 with
    | .inl t72 =>
      some 0
    | .inr r => some r
def span_Right (p0 : api_Span) : Option Bool :=
  some (decide (p0.Lo ≤ p0.Hi))
def span_Within (p0 : api_Span) (p1 : api_Span) : Option Bool :=
  ((span_Right p0).bind fun r21 =>
  if r21 then
    if decide (p1.Lo ≤ p0.Lo) then
      some (decide (p0.Hi ≤ p1.Hi))
    else
      some false
  else
    some false).bind fun o19 =>
  some o19
def judge_word (p0 : api_Type) : Option Int :=
  (span_Within p0.Span (api_Span.mk 0 15)).bind fun r9 =>
  if (!r9) then
    some 35
  else
    some 0
def judge_first_l1 (p0 : List Int) (i87 : Nat) (again : Unit → Option (Unit ⊕ Int)) (s86 : Unit) : Option (Unit ⊕ Int) :=
  (idx p0 (i87 : Int)).bind fun x96 =>
  if (x96 != 0) then
    some (.inr x96)
  else
    again ()
def judge_first (p0 : List Int) : Option Int :=
  (forN (judge_first_l1 p0) (fun (s86 : Unit) => (.inl ())) (p0).length 0 ()).bind fun o52 => match o52 with
    | .inl t54 =>
      some 0
    | .inr r => some r
def judge_fits (p0 : api_Type) (p1 : api_Type) : Option Bool :=
  if (p1.Kind == 1) then
    (if (p0.Kind == 1) then
      (span_Within p0.Span p1.Span).bind fun r18 =>
      some r18
    else
      some false).bind fun o15 =>
    some o15
  else
    if (p1.Kind == 2) then
      some ((p0.Kind == p1.Kind) && (((p0.Span.Lo == p1.Span.Lo) && ((p0.Span.Hi == p1.Span.Hi) && true)) && ((p0.Map == p1.Map) && true)))
    else
      some true
def sigs_of (p0 : Int) : Option (sigs_sig × Bool) :=
  if (decide (p0 < 0) || decide (p0 ≥ 7)) then
    some ((sigs_sig.mk ByteArray.empty ByteArray.empty 0 0 false), false)
  else
    (idx tab_g1 p0).bind fun x12 =>
    some (x12, true)
def sigs_number (p0 : Int) : Option api_Type :=
  some (api_Type.mk 1 (api_Span.mk 0 p0) 0)
def sigs_Args_l1 (r8 : sigs_sig × Bool) (again : ((List api_Type) × Nat) → Option (List api_Type)) (s427 : (List api_Type) × Nat) : Option (List api_Type) :=
  if decide (s427.2 < r8.1.wants.size) then
    if ((runeAt r8.1.wants s427.2) == 104) then
      (room (s427.1.length + ([(api_Type.mk 2 (api_Span.mk 0 0) 0)]).length) 32).bind fun u448 =>
      again ((s427.1 ++ [(api_Type.mk 2 (api_Span.mk 0 0) 0)]), (runeEnd r8.1.wants s427.2))
    else
      if ((runeAt r8.1.wants s427.2) == 115) then
        (sigs_number 15).bind fun r470 =>
        (room (s427.1.length + ([r470]).length) 32).bind fun u476 =>
        again ((s427.1 ++ [r470]), (runeEnd r8.1.wants s427.2))
      else
        (sigs_number 18446744073709551615).bind fun r497 =>
        (room (s427.1.length + ([r497]).length) 32).bind fun u503 =>
        again ((s427.1 ++ [r497]), (runeEnd r8.1.wants s427.2))
  else
    some s427.1
def sigs_Args (fu : Nat) (p0 : Int) : Option (List api_Type) :=
  (sigs_of p0).bind fun r8 =>
  (loop (sigs_Args_l1 r8) fu (([] : List api_Type), 0)).bind fun o264 =>
  some o264
def sigs_Check_l1 (p1 : List api_Type) (r27 : (List api_Type)) (i364 : Nat) (again : Unit → Option (Unit ⊕ Int)) (s363 : Unit) : Option (Unit ⊕ Int) :=
  (idx r27 (i364 : Int)).bind fun x376 =>
  (idx p1 (i364 : Int)).bind fun x395 =>
  if (x376.Kind != x395.Kind) then
    some (.inr 33)
  else
    (if (x376.Kind == 1) then
      (span_Within x395.Span x376.Span).bind fun r424 =>
      some (!r424)
    else
      some false).bind fun o415 =>
    if o415 then
      some (.inr 35)
    else
      again ()
def sigs_Check (fu : Nat) (p0 : Int) (p1 : List api_Type) : Option Int :=
  (sigs_of p0).bind fun r11 =>
  if (!r11.2) then
    some 34
  else
    (sigs_Args fu p0).bind fun r27 =>
    if (((r27).length : Int) != ((p1).length : Int)) then
      some 2
    else
      (forN (sigs_Check_l1 p1 r27) (fun (s363 : Unit) => (.inl ())) (r27).length 0 ()).bind fun o231 => match o231 with
        | .inl t233 =>
          some 0
        | .inr r => some r
def sigs_Result (p0 : Int) : Option (api_Type × Bool) :=
  (sigs_of p0).bind fun r12 =>
  if (!r12.2) then
    some ((api_Type.mk 0 (api_Span.mk 0 0) 0), false)
  else
    (sigs_number r12.1.most).bind fun r27 =>
    some (r27, true)
def arith_Do (p0 : Int) (p1 : Int) (p2 : Int) : Option (Int × Bool) :=
  if (p0 == 1) then
    some (wu64 (p1 + p2), true)
  else
    if (p0 == 2) then
      some (wu64 (p1 - p2), true)
    else
      if (p0 == 3) then
        some (wu64 (p1 * p2), true)
      else
        if (p0 == 4) then
          if (p2 == 0) then
            some (0, true)
          else
            (nz p2).bind fun u8 =>
            some (wu64 (p1.tdiv p2), true)
        else
          if (p0 == 5) then
            if (p2 == 0) then
              some (p1, true)
            else
              (nz p2).bind fun u14 =>
              some (p1.tmod p2, true)
          else
            if (p0 == 6) then
              some (bAnd .u64 p1 p2, true)
            else
              if (p0 == 7) then
                some (bOr .u64 p1 p2, true)
              else
                if (p0 == 8) then
                  some (bXor .u64 p1 p2, true)
                else
                  if (p0 == 9) then
                    (nn p2).bind fun u22 =>
                    some (bShl .u64 p1 p2, true)
                  else
                    if (p0 == 10) then
                      (nn p2).bind fun u27 =>
                      some (bShr .u64 p1 p2, true)
                    else
                      some (0, false)
def span_single (p0 : api_Span) : Option Bool :=
  some (p0.Lo == p0.Hi)
def span_sum (p0 : api_Span) (p1 : api_Span) : Option api_Span :=
  (add64 p0.Hi p1.Hi 0).bind fun x15 =>
  if decide (x15.2 > 0) then
    span_Full.bind fun r23 =>
    some r23
  else
    some (api_Span.mk (wu64 (p0.Lo + p1.Lo)) x15.1)
def bits_Mul64 (p0 : Int) (p1 : Int) : Option (Int × Int) :=
  some (wu64 ((wu64 ((wu64 ((bShr .u64 p0 32) * (bShr .u64 p1 32))) + (bShr .u64 (wu64 ((wu64 ((bShr .u64 p0 32) * (bAnd .u64 p1 4294967295))) + (bShr .u64 (wu64 ((bAnd .u64 p0 4294967295) * (bAnd .u64 p1 4294967295))) 32))) 32))) + (bShr .u64 (wu64 ((bAnd .u64 (wu64 ((wu64 ((bShr .u64 p0 32) * (bAnd .u64 p1 4294967295))) + (bShr .u64 (wu64 ((bAnd .u64 p0 4294967295) * (bAnd .u64 p1 4294967295))) 32))) 4294967295) + (wu64 ((bAnd .u64 p0 4294967295) * (bShr .u64 p1 32))))) 32)), wu64 (p0 * p1))
def span_product (p0 : api_Span) (p1 : api_Span) : Option api_Span :=
  (bits_Mul64 p0.Hi p1.Hi).bind fun r17 =>
  if decide (r17.1 > 0) then
    span_Full.bind fun r27 =>
    some r27
  else
    some (api_Span.mk (wu64 (p0.Lo * p1.Lo)) r17.2)
def span_divided (p0 : api_Span) (p1 : api_Span) : Option api_Span :=
  if (p1.Lo == 0) then
    some (api_Span.mk 0 p0.Hi)
  else
    (nz p1.Hi).bind fun u25 =>
    (nz p1.Lo).bind fun u27 =>
    some (api_Span.mk (wu64 (p0.Lo.tdiv p1.Hi)) (wu64 (p0.Hi.tdiv p1.Lo)))
def span_rest (p0 : api_Span) (p1 : api_Span) : Option api_Span :=
  if (p1.Lo == 0) then
    some (api_Span.mk 0 p0.Hi)
  else
    if decide (p0.Hi < p1.Lo) then
      some p0
    else
      some (api_Span.mk 0 (imin p0.Hi (wu64 (p1.Hi - 1))))
def bits_Len64 (p0 : Int) : Option Int :=
  (if decide (p0 ≥ 4294967296) then
    some (bShr .u64 p0 32, 32)
  else
    some (p0, 0)).bind fun o2 =>
  (if decide (o2.1 ≥ 65536) then
    some (bShr .u64 o2.1 16, w64 (o2.2 + 16))
  else
    some (o2.1, o2.2)).bind fun o6 =>
  (if decide (o6.1 ≥ 256) then
    some (bShr .u64 o6.1 8, w64 (o6.2 + 8))
  else
    some (o6.1, o6.2)).bind fun o10 =>
  (sidx (⟨[0, 1, 2, 2, 3, 3, 3, 3, 4, 4, 4, 4, 4, 4, 4, 4, 5, 5, 5, 5, 5, 5, 5, 5, 5, 5, 5, 5, 5, 5, 5, 5, 6, 6, 6, 6, 6, 6, 6, 6, 6, 6, 6, 6, 6, 6, 6, 6, 6, 6, 6, 6, 6, 6, 6, 6, 6, 6, 6, 6, 6, 6, 6, 6, 7, 7, 7, 7, 7, 7, 7, 7, 7, 7, 7, 7, 7, 7, 7, 7, 7, 7, 7, 7, 7, 7, 7, 7, 7, 7, 7, 7, 7, 7, 7, 7, 7, 7, 7, 7, 7, 7, 7, 7, 7, 7, 7, 7, 7, 7, 7, 7, 7, 7, 7, 7, 7, 7, 7, 7, 7, 7, 7, 7, 7, 7, 7, 7, 8, 8, 8, 8, 8, 8, 8, 8, 8, 8, 8, 8, 8, 8, 8, 8, 8, 8, 8, 8, 8, 8, 8, 8, 8, 8, 8, 8, 8, 8, 8, 8, 8, 8, 8, 8, 8, 8, 8, 8, 8, 8, 8, 8, 8, 8, 8, 8, 8, 8, 8, 8, 8, 8, 8, 8, 8, 8, 8, 8, 8, 8, 8, 8, 8, 8, 8, 8, 8, 8, 8, 8, 8, 8, 8, 8, 8, 8, 8, 8, 8, 8, 8, 8, 8, 8, 8, 8, 8, 8, 8, 8, 8, 8, 8, 8, 8, 8, 8, 8, 8, 8, 8, 8, 8, 8, 8, 8, 8, 8, 8, 8, 8, 8, 8, 8, 8, 8, 8, 8, 8, 8, 8, 8, 8, 8, 8, 8].toArray⟩) (IntKind.u8.wrap o10.1)).bind fun c15 =>
  some (w64 (o10.2 + (w64 c15)))
def span_ones (p0 : Int) : Option Int :=
  (bits_Len64 p0).bind fun r7 =>
  (nn r7).bind fun u11 =>
  some (wu64 ((bShl .u64 1 r7) - 1))
def span_left (p0 : api_Span) (p1 : api_Span) : Option api_Span :=
  ((span_single p1).bind fun r40 =>
  if (!r40) then
    some true
  else
    (bits_Len64 p0.Hi).bind fun r45 =>
    if decide (r45 > 0) then
      if decide (p1.Lo > 64) then
        some true
      else
        (bits_Len64 p0.Hi).bind fun r51 =>
        some (decide ((wu64 ((wu64 r51) + p1.Lo)) > 64))
    else
      some false).bind fun o36 =>
  if o36 then
    span_Full.bind fun r61 =>
    some r61
  else
    (nn p1.Lo).bind fun u71 =>
    (nn p1.Lo).bind fun u73 =>
    some (api_Span.mk (bShl .u64 p0.Lo p1.Lo) (bShl .u64 p0.Hi p1.Lo))
def span_Do (p0 : Int) (p1 : api_Span) (p2 : api_Span) : Option (api_Span × Bool) :=
  (arith_Do p0 p1.Lo p2.Lo).bind fun r17 =>
  (if (!r17.2) then
    some true
  else
    (span_Right p1).bind fun r34 =>
    if (!r34) then
      some true
    else
      (span_Right p2).bind fun r39 =>
      some (!r39)).bind fun o31 =>
  if o31 then
    some ((api_Span.mk 0 0), false)
  else
    ((span_single p1).bind fun r61 =>
    if r61 then
      (span_single p2).bind fun r66 =>
      some r66
    else
      some false).bind fun o59 =>
    if o59 then
      (span_Single r17.1).bind fun r76 =>
      some (r76, true)
    else
      if (p0 == 1) then
        (span_sum p1 p2).bind fun r87 =>
        some (r87, true)
      else
        if (p0 == 2) then
          if decide (p1.Lo < p2.Hi) then
            span_Full.bind fun r99 =>
            some (r99, true)
          else
            some ((api_Span.mk (wu64 (p1.Lo - p2.Hi)) (wu64 (p1.Hi - p2.Lo))), true)
        else
          if (p0 == 3) then
            (span_product p1 p2).bind fun r112 =>
            some (r112, true)
          else
            if (p0 == 4) then
              (span_divided p1 p2).bind fun r123 =>
              some (r123, true)
            else
              if (p0 == 5) then
                (span_rest p1 p2).bind fun r134 =>
                some (r134, true)
              else
                if (p0 == 6) then
                  some ((api_Span.mk 0 (imin p1.Hi p2.Hi)), true)
                else
                  if (p0 == 7) then
                    (span_ones (bOr .u64 p1.Hi p2.Hi)).bind fun r152 =>
                    some ((api_Span.mk (imax p1.Lo p2.Lo) r152), true)
                  else
                    if (p0 == 8) then
                      (span_ones (bOr .u64 p1.Hi p2.Hi)).bind fun r163 =>
                      some ((api_Span.mk 0 r163), true)
                    else
                      if (p0 == 9) then
                        (span_left p1 p2).bind fun r174 =>
                        some (r174, true)
                      else
                        (nn p2.Hi).bind fun u184 =>
                        (nn p2.Lo).bind fun u186 =>
                        some ((api_Span.mk (bShr .u64 p1.Lo p2.Hi) (bShr .u64 p1.Hi p2.Lo)), true)
def judge_judge_one_l1 (p0 : judge_judge) (p1 : Int) (o80 : api_Inst × (Nat → api_Type)) (i723 : Nat) (again : Unit → Option (Unit ⊕ ((Nat → api_Type) × Int))) (s721 : Unit) : Option (Unit ⊕ ((Nat → api_Type) × Int)) :=
  (ain 8 (i723 : Int)).bind fun i771 =>
  (idx p0.came (w64 (p1 - o80.1.D))).bind fun x773 =>
  (judge_fits (o80.2 i771) (x773 i771)).bind fun r779 =>
  if (!r779) then
    some (.inr (o80.2, 33))
  else
    again ()
def judge_judge_one (fu : Nat) (p0 : judge_judge) (p1 : Int) : Option ((Nat → api_Type) × Int) :=
  ((idx p0.Module.Code p1).bind fun x84 =>
  (idx p0.came p1).bind fun x90 =>
  some (x84, x90)).bind fun o80 =>
  (ops_Source o80.1).bind fun r126 =>
  (if r126 then
    (judge_source o80.1 o80.2).bind fun r149 =>
    some r149
  else
    some (api_Type.mk 0 (api_Span.mk 0 0) 0)).bind fun o141 =>
  (ain 8 o80.1.A).bind fun i157 =>
  if (o80.1.Op == 0) then
    if (o141.Kind == 0) then
      some (o80.2, 33)
    else
      (ain 8 o80.1.D).bind fun i167 =>
      some ((aset o80.2 i167 o141), 0)
  else
    if (o80.1.Op == 11) then
      span_Full.bind fun r188 =>
      (judge_number r188).bind fun r192 =>
      (ain 8 o80.1.D).bind fun i196 =>
      (judge_nums ([o141])).bind fun r222 =>
      (judge_word o141).bind fun r226 =>
      (judge_first ([r222, r226])).bind fun r232 =>
      some ((aset o80.2 i196 r192), r232)
    else
      if (o80.1.Op == 12) then
        (judge_nums ([(o80.2 i157), o141])).bind fun r261 =>
        (judge_word o141).bind fun r265 =>
        (judge_first ([r261, r265])).bind fun r271 =>
        some (o80.2, r271)
      else
        if (o80.1.Op == 13) then
          span_Full.bind fun r292 =>
          (judge_number r292).bind fun r296 =>
          (ain 8 o80.1.D).bind fun i300 =>
          some ((aset o80.2 i300 r296), 0)
        else
          if (o80.1.Op == 14) then
            (ain 8 o80.1.D).bind fun i309 =>
            if decide (o80.1.Imm ≥ ((p0.Module.Maps).length : Int)) then
              some ((aset o80.2 i309 (api_Type.mk 2 (api_Span.mk 0 0) o80.1.Imm)), 35)
            else
              some ((aset o80.2 i309 (api_Type.mk 2 (api_Span.mk 0 0) o80.1.Imm)), 0)
          else
            if (o80.1.Op == 15) then
              some (o80.2, 0)
            else
              (if (o80.1.Op == 16) then
                some (o80.1.Op == 16)
              else
                if (o80.1.Op == 17) then
                  some (o80.1.Op == 17)
                else
                  if (o80.1.Op == 18) then
                    some (o80.1.Op == 18)
                  else
                    some (o80.1.Op == 19)).bind fun o358 =>
              if o358 then
                (judge_nums ([(o80.2 i157), o141])).bind fun r377 =>
                some (o80.2, r377)
              else
                if (o80.1.Op == 20) then
                  (judge_nums ([(o80.2 i157)])).bind fun r391 =>
                  if (r391 != 0) then
                    some (o80.2, r391)
                  else
                    (forN (judge_judge_one_l1 p0 p1 o80) (fun (s721 : Unit) => (.inl ())) 8 0 ()).bind fun o592 => match o592 with
                      | .inl t594 =>
                        some (o80.2, 0)
                      | .inr r => some r
                else
                  if (o80.1.Op == 21) then
                    (sigs_Args fu o80.1.Imm).bind fun r805 =>
                    (cut (arrL 8 o80.2) 1 (w64 (1 + ((r805).length : Int)))).bind fun ys813 =>
                    (sigs_Check fu o80.1.Imm ys813).bind fun r815 =>
                    (sigs_Result o80.1.Imm).bind fun r824 =>
                    some ((aset o80.2 0 r824.1), r815)
                  else
                    if (o80.1.Op == 22) then
                      (judge_nums ([(o80.2 i157)])).bind fun r845 =>
                      some (o80.2, r845)
                    else
                      (span_Do o80.1.Op (o80.2 i157).Span o141.Span).bind fun r857 =>
                      (judge_number r857.1).bind fun r875 =>
                      (ain 8 o80.1.D).bind fun i879 =>
                      (judge_nums ([(o80.2 i157), o141])).bind fun r895 =>
                      some ((aset o80.2 i879 r875), r895)
def span_Join_l1 (p0 : List api_Span) (i187 : Nat) (again : api_Span → Option (api_Span ⊕ (api_Span × Bool))) (s186 : api_Span) : Option (api_Span ⊕ (api_Span × Bool)) :=
  (idx p0 (i187 : Int)).bind fun x199 =>
  (span_Right x199).bind fun r212 =>
  if (!r212) then
    some (.inr ((api_Span.mk 0 0), false))
  else
    again (api_Span.mk (imin s186.Lo x199.Lo) (imax s186.Hi x199.Hi))
def span_Join (p0 : List api_Span) : Option (api_Span × Bool) :=
  (forN (span_Join_l1 p0) (fun (s186 : api_Span) => (.inl s186)) (p0).length 0 (api_Span.mk 18446744073709551615 0)).bind fun o116 => match o116 with
    | .inl t118 =>
      if (((p0).length : Int) == 0) then
        some ((api_Span.mk 0 0), false)
      else
        some (t118, true)
    | .inr r => some r
def judge_joined (p0 : api_Type) (p1 : api_Type) : Option api_Type :=
  if ((p0.Kind != p1.Kind) || (p0.Map != p1.Map)) then
    some (api_Type.mk 0 (api_Span.mk 0 0) 0)
  else
    if (p0.Kind == 1) then
      (span_Join ([p0.Span, p1.Span])).bind fun r29 =>
      (judge_number r29.1).bind fun r41 =>
      some r41
    else
      some p0
def judge_judge_come_l1 (p1 : Int) (p2 : Nat → api_Type) (i433 : Nat) (again : judge_judge → Option judge_judge) (s431 : judge_judge) : Option judge_judge :=
  (idx s431.came p1).bind fun x486 =>
  (ain 8 (i433 : Int)).bind fun i492 =>
  (judge_joined (x486 i492) (p2 i492)).bind fun r498 =>
  again (judge_judge.mk s431.Module (s431.came.set (Int.toNat p1) (aset x486 i492 r498)) s431.any s431.loops)
def judge_judge_come (p0 : judge_judge) (p1 : Int) (p2 : Nat → api_Type) : Option judge_judge :=
  (idx p0.any p1).bind fun x41 =>
  if (!x41) then
    (idx p0.came p1).bind fun x69 =>
    some (judge_judge.mk p0.Module (p0.came.set (Int.toNat p1) p2) (p0.any.set (Int.toNat p1) true) p0.loops)
  else
    (forN (judge_judge_come_l1 p1 p2) (fun (s431 : judge_judge) => s431) 8 0 p0).bind fun o290 =>
    some o290
def arith_Holds (p0 : Int) (p1 : Int) (p2 : Int) : Option (Bool × Bool) :=
  if (p0 == 16) then
    some ((p1 == p2), true)
  else
    if (p0 == 17) then
      some ((p1 != p2), true)
    else
      if (p0 == 18) then
        some (decide (p1 < p2), true)
      else
        if (p0 == 19) then
          some (decide (p1 ≥ p2), true)
        else
          some (false, false)
def span_Meet_l1 (p0 : List api_Span) (i195 : Nat) (again : api_Span → Option (api_Span ⊕ (api_Span × Bool))) (s194 : api_Span) : Option (api_Span ⊕ (api_Span × Bool)) :=
  (idx p0 (i195 : Int)).bind fun x207 =>
  (span_Right x207).bind fun r220 =>
  if (!r220) then
    some (.inr ((api_Span.mk 0 0), false))
  else
    again (api_Span.mk (imax s194.Lo x207.Lo) (imin s194.Hi x207.Hi))
def span_Meet (p0 : List api_Span) : Option (api_Span × Bool) :=
  span_Full.bind fun r15 =>
  (forN (span_Meet_l1 p0) (fun (s194 : api_Span) => (.inl s194)) (p0).length 0 r15).bind fun o124 => match o124 with
    | .inl t126 =>
      (if (((p0).length : Int) == 0) then
        some true
      else
        (span_Right t126).bind fun r237 =>
        some (!r237)).bind fun o234 =>
      if o234 then
        some ((api_Span.mk 0 0), false)
      else
        some (t126, true)
    | .inr r => some r
def span_Refine (p0 : Int) (p1 : api_Span) (p2 : api_Span) (p3 : Bool) : Option (api_Span × Bool) :=
  (arith_Holds p0 0 0).bind fun r17 =>
  (if (!r17.2) then
    some true
  else
    (span_Right p1).bind fun r34 =>
    if (!r34) then
      some true
    else
      (span_Right p2).bind fun r39 =>
      some (!r39)).bind fun o31 =>
  if o31 then
    some ((api_Span.mk 0 0), false)
  else
    (span_single p2).bind fun r50 =>
    if (!r50) then
      some (p1, true)
    else
      (if ((p0 == 18) && p3) then
        some ((p0 == 18) && p3)
      else
        if (p0 == 19) then
          some (!p3)
        else
          some false).bind fun o60 =>
      if o60 then
        if (p2.Lo == 0) then
          some ((api_Span.mk 0 0), false)
        else
          (span_Meet ([p1, (api_Span.mk 0 (wu64 (p2.Lo - 1)))])).bind fun r77 =>
          some (r77.1, r77.2)
      else
        (if (p0 == 18) then
          some (p0 == 18)
        else
          some (p0 == 19)).bind fun o83 =>
        if o83 then
          (span_Meet ([p1, (api_Span.mk p2.Lo 18446744073709551615)])).bind fun r96 =>
          some (r96.1, r96.2)
        else
          (if ((p0 == 16) && p3) then
            some ((p0 == 16) && p3)
          else
            if (p0 == 17) then
              some (!p3)
            else
              some false).bind fun o104 =>
          if o104 then
            (span_Meet ([p1, p2])).bind fun r118 =>
            some (r118.1, r118.2)
          else
            if ((p1.Lo == p2.Lo) && ((p1.Hi == p2.Hi) && true)) then
              some ((api_Span.mk 0 0), false)
            else
              if (p1.Lo == p2.Lo) then
                some ((api_Span.mk (wu64 (p1.Lo + 1)) p1.Hi), true)
              else
                if (p1.Hi == p2.Lo) then
                  some ((api_Span.mk p1.Lo (wu64 (p1.Hi - 1))), true)
                else
                  some (p1, true)
def judge_judge_ways_l1 (p1 : Int) (p2 : Nat → api_Type) (x44 : api_Inst) (r57 : Int × Bool × Bool) (r114 : api_Type) (i639 : Nat) (again : judge_judge → Option judge_judge) (s637 : judge_judge) : Option judge_judge :=
  (idx ([true, false]) (i639 : Int)).bind fun x648 =>
  (if (!x648) then
    some (w64 (p1 + 1))
  else
    some (w64 (p1 + r57.1))).bind fun o665 =>
  ((ain 8 x44.A).bind fun i695 =>
  (span_Refine x44.Op (p2 i695).Span r114.Span x648).bind fun r697 =>
  some (r697.1, r697.2)).bind fun o691 =>
  if o691.2 then
    (judge_number o691.1).bind fun r723 =>
    (ain 8 x44.A).bind fun i727 =>
    (judge_judge_come s637 o665 (aset p2 i727 r723)).bind fun r735 =>
    again r735
  else
    again s637
def judge_judge_ways (p0 : judge_judge) (p1 : Int) (p2 : Nat → api_Type) : Option judge_judge :=
  (idx p0.Module.Code p1).bind fun x44 =>
  (ops_Goes x44).bind fun r57 =>
  if ((!r57.2.1) || decide (r57.1 < 0)) then
    (if r57.2.2 then
      (judge_judge_come p0 (w64 (p1 + 1)) p2).bind fun r88 =>
      some r88
    else
      some p0).bind fun o78 =>
    some o78
  else
    if (!r57.2.2) then
      (judge_judge_come p0 (w64 (p1 + r57.1)) p2).bind fun r102 =>
      some r102
    else
      (judge_source x44 p2).bind fun r114 =>
      (forN (judge_judge_ways_l1 p1 p2 x44 r57 r114) (fun (s637 : judge_judge) => s637) 2 0 p0).bind fun o432 =>
      some o432
def judge_judged_l1 (fu : Nat) (i573 : Nat) (again : judge_judge → Option (judge_judge ⊕ ((Option judge_judge) × Int × Int))) (s571 : judge_judge) : Option (judge_judge ⊕ ((Option judge_judge) × Int × Int)) :=
  (idx s571.any (i573 : Int)).bind fun x611 =>
  if (!x611) then
    again s571
  else
    (judge_judge_widen s571 (i573 : Int)).bind fun r626 =>
    (judge_judge_one fu r626 (i573 : Int)).bind fun r639 =>
    if (r639.2 != 0) then
      some (.inr (none, (i573 : Int), r639.2))
    else
      (judge_judge_ways r626 (i573 : Int) r639.1).bind fun r653 =>
      again r653
def judge_judged (fu : Nat) (p0 : api_Module) : Option ((Option judge_judge) × Int × Int) :=
  (judge_good p0.Maps).bind fun r15 =>
  if (!r15) then
    some (none, 0, 2)
  else
    (flow_Check p0.Code).bind fun r24 =>
    if (r24.2 != 0) then
      some (none, r24.1, r24.2)
    else
      ((mkLen ((p0.Code).length : Int) 256).bind fun m57 =>
      (mkLen ((p0.Code).length : Int) 1).bind fun m61 =>
      some (judge_judge.mk p0 (List.replicate m57 (fun _ => (api_Type.mk 0 (api_Span.mk 0 0) 0))) (List.replicate m61 false) ([] : List api_Loop))).bind fun o53 =>
      (flow_Loops p0.Code).bind fun r113 =>
      (idx o53.any 0).bind fun x129 =>
      (forN (judge_judged_l1 fu) (fun (s571 : judge_judge) => (.inl s571)) (p0.Code).length 0 (judge_judge.mk o53.Module o53.came (o53.any.set (Int.toNat 0) true) r113.1)).bind fun o396 => match o396 with
        | .inl t398 =>
          some ((some t398), 0, 0)
        | .inr r => some r
def judge_Judge (fu : Nat) (p0 : api_Module) : Option (Int × Int) :=
  (judge_judged fu p0).bind fun r21 =>
  ocase r21.1
    (some (r21.2.1, r21.2.2))
    (fun k25 =>
    some (r21.2.1, r21.2.2))
def slices_Clone_int_int (p0 : List Int) : Option (List Int) :=
  (room (([] : List Int).length + p0.length) 8).bind fun u17 =>
  some (([] : List Int) ++ p0)
def refs_Refs_Hold_l1 (p0 : refs_Refs) (p2 : List Int) (i245 : Nat) (again : Unit → Option (Unit ⊕ (Int × refs_Refs))) (s243 : Unit) : Option (Unit ⊕ (Int × refs_Refs)) :=
  (idx p2 (i245 : Int)).bind fun x254 =>
  (if decide (x254 < 0) then
    some true
  else
    if decide (x254 ≥ p0.maps) then
      some true
    else
      (cut p2 0 (i245 : Int)).bind fun ys282 =>
      (slices_Contains_int_int ys282 x254).bind fun r285 =>
      some r285).bind fun o276 =>
  if o276 then
    some (.inr (2, p0))
  else
    again ()
def refs_Refs_Hold (p0 : refs_Refs) (p1 : Int) (p2 : List Int) : Option (Int × refs_Refs) :=
  (forN (refs_Refs_Hold_l1 p0 p2) (fun (s243 : Unit) => (.inl ())) (p2).length 0 ()).bind fun o147 => match o147 with
    | .inl t149 =>
      if (mget p0.held p1).isSome then
        some (42, p0)
      else
        (slices_Clone_int_int p2).bind fun r323 =>
        some (0, (refs_Refs.mk p0.maps (mput p0.held p1 r323)))
    | .inr r => some r
def registry_Registry_Load_l1 (p0 : registry_Registry) (r38 : api_Module × Int × Int) (i266 : Nat) (again : Unit → Option (Unit ⊕ (Int × Int × registry_Registry))) (s264 : Unit) : Option (Unit ⊕ (Int × Int × registry_Registry)) :=
  (idx r38.1.Maps (i266 : Int)).bind fun x275 =>
  if decide (x275 ≥ p0.maps) then
    some (.inr (0, 41, p0))
  else
    again ()
def registry_Registry_Load (fu : Nat) (p0 : registry_Registry) (p1 : List Int) : Option (Int × Int × registry_Registry) :=
  (wire_Decode fu p1).bind fun r38 =>
  if (r38.2.2 != 0) then
    some (0, r38.2.2, p0)
  else
    (judge_Judge fu r38.1).bind fun r76 =>
    if (r76.2 != 0) then
      some (0, r76.2, p0)
    else
      (forN (registry_Registry_Load_l1 p0 r38) (fun (s264 : Unit) => (.inl ())) (r38.1.Maps).length 0 ()).bind fun o190 => match o190 with
        | .inl t192 =>
          if decide ((p0.progs.length : Int) ≥ 16) then
            some (0, 40, p0)
          else
            (refs_Refs_Hold p0.Refs (w64 (p0.given + 1)) r38.1.Maps).bind fun r343 =>
            some (w64 (p0.given + 1), 0, (registry_Registry.mk p0.Table r343.2 p0.Clock p0.hooks p0.maps (w64 (p0.given + 1)) (mput p0.progs (w64 (p0.given + 1)) (registry_program.mk r38.1 0)) p0.waiting))
        | .inr r => some r
def hooks_Table_known (p0 : hooks_Table) (p1 : Int) : Option Bool :=
  some (decide (p1 ≥ 0) && decide (p1 < ((p0.hooks).length : Int)))
def hooks_Table_taken (p0 : hooks_Table) (p1 : Int) : Option Bool :=
  (idx p0.hooks p1).bind fun x13 =>
  some (decide (x13.version > 0))
def hooks_Versions_Fresh (p0 : hooks_Versions) : Option (Int × hooks_Versions) :=
  some (w64 (p0.last + 1), (hooks_Versions.mk (w64 (p0.last + 1))))
def hooks_Versions_Last (p0 : hooks_Versions) : Option Int :=
  some p0.last
def hooks_Table_publish (p0 : hooks_Table) (p1 : Int) (p2 : Int) : Option (Int × Int × hooks_Table) :=
  (hooks_Versions_Fresh p0.Versions).bind fun r22 =>
  (idx p0.hooks p1).bind fun x26 =>
  (hooks_Versions_Last r22.2).bind fun r37 =>
  some (r37, 0, (hooks_Table.mk r22.2 (p0.hooks.set (Int.toNat p1) (hooks_published.mk r22.1 p2))))
def hooks_Table_Attach (p0 : hooks_Table) (p1 : Int) (p2 : Int) : Option (Int × Int × hooks_Table) :=
  (hooks_Table_known p0 p1).bind fun r7 =>
  if (!r7) then
    some (0, 2, p0)
  else
    (hooks_Table_taken p0 p1).bind fun r18 =>
    if r18 then
      some (0, 42, p0)
    else
      (hooks_Table_publish p0 p1 p2).bind fun r29 =>
      some (r29.1, r29.2.1, r29.2.2)
def registry_Registry_Attach (p0 : registry_Registry) (p1 : Int) (p2 : Int) : Option (Int × Int × registry_Registry) :=
  if decide (p1 < 0) then
    some (0, 2, p0)
  else
    if decide (p1 ≥ p0.hooks) then
      some (0, 2, p0)
    else
      if (mget p0.progs p2).isSome then
        (mget p0.progs p2).bind fun y103 =>
        if (!(y103.retiring == 0)) then
          some (0, 41, p0)
        else
          (hooks_Table_Attach p0.Table p1 p2).bind fun r125 =>
          some (r125.1, r125.2.1, (registry_Registry.mk r125.2.2 p0.Refs p0.Clock p0.hooks p0.maps p0.given p0.progs p0.waiting))
      else
        some (0, 41, p0)
def refs_Refs_Holders_b1 (p0 : refs_Refs) (p1 : Int) (e : Int × (List Int)) (s140 : (List Int)) : Option ((List Int) ⊕ (List Int)) :=
  let k158 := e.1
  let x160 := e.2
  (slices_Contains_int_int x160 p1).bind fun r182 =>
  if r182 then
    (room (s140.length + ([k158]).length) 8).bind fun u198 =>
    some (.inl (s140 ++ [k158]))
  else
    some (.inl s140)
def refs_Refs_Holders_f1 (p0 : refs_Refs) (p1 : Int) (s140 : (List Int)) : Option (List Int) :=
  (slices_Sort_int_int s140).bind fun r173 =>
  some r173
def refs_Refs_Holders (p0 : refs_Refs) (p1 : Int) : Option (List Int) :=
  rangeF (refs_Refs_Holders_b1 p0 p1) (refs_Refs_Holders_f1 p0 p1) p0.held ([] : List Int)
def refs_Refs_Count (p0 : refs_Refs) (p1 : Int) : Option (Int × Int) :=
  if (decide (p1 < 0) || decide (p1 ≥ p0.maps)) then
    some (0, 2)
  else
    (refs_Refs_Holders p0 p1).bind fun r19 =>
    some (((r19).length : Int), 0)
def tappetlaw24_awake (fu : Nat)  : Option Bool :=
  (registry_New 2 3 1).bind fun r11 =>
  ocase r11.1
    (some false)
    (fun k15 =>
    if (r11.2 != 0) then
      some false
    else
      tappetlaw24_five.bind fun r32 =>
      (registry_Registry_Load fu k15 r32).bind fun r37 =>
      if ((r37.1 != 1) || (r37.2.1 != 0)) then
        some false
      else
        (registry_Registry_Attach r37.2.2 0 1).bind fun r49 =>
        (refs_Refs_Count r49.2.2.Refs 2).bind fun r76 =>
        some ((((r49.1 == 1) && (r49.2.1 == 0)) && (r76.1 == 1)) && (r76.2 == 0)))
def registry_Registry_Live_b1 (p0 : registry_Registry) (e : Int × registry_program) (s142 : (List Int)) : Option ((List Int) ⊕ (List Int)) :=
  let k161 := e.1
  let x163 := e.2
  if (x163.retiring == 0) then
    (room (s142.length + ([k161]).length) 8).bind fun u194 =>
    some (.inl (s142 ++ [k161]))
  else
    some (.inl s142)
def registry_Registry_Live_f1 (p0 : registry_Registry) (s142 : (List Int)) : Option (List Int) :=
  (slices_Sort_int_int s142).bind fun r177 =>
  some r177
def registry_Registry_Live (p0 : registry_Registry) : Option (List Int) :=
  rangeF (registry_Registry_Live_b1 p0) (registry_Registry_Live_f1 p0) p0.progs ([] : List Int)
def slices_Clone_tappet_api_Inst_tappet_api_Inst (p0 : List api_Inst) : Option (List api_Inst) :=
  (room (([] : List api_Inst).length + p0.length) 40).bind fun u17 =>
  some (([] : List api_Inst) ++ p0)
def registry_Registry_Module (p0 : registry_Registry) (p1 : Int) : Option (api_Module × Bool) :=
  if (!(mget p0.progs p1).isSome) then
    some ((api_Module.mk ([] : List Int) ([] : List api_Inst)), false)
  else
    (mget p0.progs p1).bind fun y68 =>
    (slices_Clone_int_int y68.module.Maps).bind fun r81 =>
    (slices_Clone_tappet_api_Inst_tappet_api_Inst y68.module.Code).bind fun r89 =>
    some ((api_Module.mk r81 r89), true)
def tappetref04_Same_l1 (p0 : api_Module) (p1 : api_Module) (i186 : Nat) (again : Unit → Option (Unit ⊕ Bool)) (s185 : Unit) : Option (Unit ⊕ Bool) :=
  (idx p0.Maps (i186 : Int)).bind fun x205 =>
  (idx p1.Maps (i186 : Int)).bind fun x211 =>
  if (x205 != x211) then
    some (.inr false)
  else
    again ()
def tappetref04_Same_l2 (p0 : api_Module) (p1 : api_Module) (i381 : Nat) (again : Unit → Option (Unit ⊕ Bool)) (s380 : Unit) : Option (Unit ⊕ Bool) :=
  (idx p0.Code (i381 : Int)).bind fun x400 =>
  (idx p1.Code (i381 : Int)).bind fun x406 =>
  if (!((x400.Op == x406.Op) && ((x400.D == x406.D) && ((x400.A == x406.A) && ((x400.B == x406.B) && ((x400.Imm == x406.Imm) && true)))))) then
    some (.inr false)
  else
    again ()
def tappetref04_Same (p0 : api_Module) (p1 : api_Module) : Option Bool :=
  if ((((p0.Maps).length : Int) != ((p1.Maps).length : Int)) || (((p0.Code).length : Int) != ((p1.Code).length : Int))) then
    some false
  else
    (forN (tappetref04_Same_l1 p0 p1) (fun (s185 : Unit) => (.inl ())) (p0.Maps).length 0 ()).bind fun o119 => match o119 with
      | .inl t121 =>
        (forN (tappetref04_Same_l2 p0 p1) (fun (s380 : Unit) => (.inl ())) (p0.Code).length 0 ()).bind fun o314 => match o314 with
          | .inl t316 =>
            some true
          | .inr r => some r
      | .inr r => some r
def tappetlaw24_RegistryLoads_l1 (p0 : Int) (r85 : api_Module × Int × Int) (again : (Int × Int) → Option Int) (s222 : Int × Int) : Option Int :=
  if ((s222.1 == 0) && decide (s222.2 < ((r85.1.Maps).length : Int))) then
    (idx r85.1.Maps s222.2).bind fun x231 =>
    if decide (x231 ≥ p0) then
      again (41, w64 (s222.2 + 1))
    else
      again (s222.1, w64 (s222.2 + 1))
  else
    some s222.1
def tappetlaw24_RegistryLoads_l2 (fu : Nat) (p1 : List Int) (o187 : Int) (again : (registry_Registry × Int) → Option (registry_Registry ⊕ Bool)) (s532 : registry_Registry × Int) : Option (registry_Registry ⊕ Bool) :=
  if decide (s532.2 ≤ 16) then
    (room (([] : List Int).length + p1.length) 1).bind fun u551 =>
    (registry_Registry_Load fu s532.1 (([] : List Int) ++ p1)).bind fun r558 =>
    if (o187 != 0) then
      (if (r558.1 == 0) then
        if (r558.2.1 == o187) then
          (registry_Registry_Live r558.2.2).bind fun r579 =>
          some (((r579).length : Int) == 0)
        else
          some false
      else
        some false).bind fun o575 =>
      some (.inr o575)
    else
      if ((r558.1 != s532.2) || (r558.2.1 != 0)) then
        some (.inr false)
      else
        again (r558.2.2, w64 (s532.2 + 1))
  else
    some (.inl s532.1)
def tappetlaw24_RegistryLoads_l3 (again : ((List api_Inst) × Int) → Option (List api_Inst)) (s821 : (List api_Inst) × Int) : Option (List api_Inst) :=
  if decide (s821.2 < ((s821.1).length : Int)) then
    (idx s821.1 s821.2).bind fun x834 =>
    again ((s821.1.set (Int.toNat s821.2) (api_Inst.mk 90 0 0 0 0)), w64 (s821.2 + 1))
  else
    some s821.1
def tappetlaw24_RegistryLoads_l4 (again : ((List Int) × Int) → Option Unit) (s953 : (List Int) × Int) : Option Unit :=
  if decide (s953.2 < ((s953.1).length : Int)) then
    (idx s953.1 s953.2).bind fun x966 =>
    again ((s953.1.set (Int.toNat s953.2) (-3)), w64 (s953.2 + 1))
  else
    some ()
def tappetlaw24_RegistryLoads (fu : Nat) (p0 : Int) (p1 : List Int) : Option Bool :=
  (tappetlaw24_awake fu).bind fun r8 =>
  if (!r8) then
    some false
  else
    (registry_New 1 p0 1).bind fun r23 =>
    ocase r23.1
      (some (r23.2 == 2))
      (fun k27 =>
      if (r23.2 != 0) then
        some false
      else
        (room (([] : List Int).length + p1.length) 1).bind fun u78 =>
        (wire_Decode fu (([] : List Int) ++ p1)).bind fun r85 =>
        (if (r85.2.2 == 0) then
          (judge_Judge fu r85.1).bind fun r134 =>
          some r134.2
        else
          some r85.2.2).bind fun o127 =>
        (loop (tappetlaw24_RegistryLoads_l1 p0 r85) fu (o127, 0)).bind fun o187 =>
        (loop (tappetlaw24_RegistryLoads_l2 fu p1 o187) fu (k27, 1)).bind fun o413 => match o413 with
          | .inl t415 =>
            (room (([] : List Int).length + p1.length) 1).bind fun u606 =>
            (registry_Registry_Load fu t415 (([] : List Int) ++ p1)).bind fun r613 =>
            (if (r613.1 != 0) then
              some true
            else
              if (r613.2.1 != 40) then
                some true
              else
                (registry_Registry_Live r613.2.2).bind fun r634 =>
                some (((r634).length : Int) != 16)).bind fun o630 =>
            if o630 then
              some false
            else
              (registry_Registry_Module r613.2.2 3).bind fun r678 =>
              (loop tappetlaw24_RegistryLoads_l3 fu (r678.1.Code, 0)).bind fun o776 =>
              (loop tappetlaw24_RegistryLoads_l4 fu (r678.1.Maps, 0)).bind fun o910 =>
              (registry_Registry_Module r613.2.2 3).bind fun r1009 =>
              (if r678.2 then
                if r1009.2 then
                  (tappetref04_Same r1009.1 r85.1).bind fun r1053 =>
                  some r1053
                else
                  some false
              else
                some false).bind fun o1049 =>
              some o1049
          | .inr r => some r)
end Go.Proofs.YtdnogiegiclcfaaGreatDoor
