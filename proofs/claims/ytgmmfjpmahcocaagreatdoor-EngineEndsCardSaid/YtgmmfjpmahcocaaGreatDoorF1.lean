/- Written by a program (wip/gen) from the translation: what each Go function computes, as a plain Lean function. -/
import Derived.Test.YtgmmfjpmahcocaaGreatDoorOpen
import Derived.Test.YtgmmfjpmahcocaaGreatDoorPart
import Derived.Test.YtgmmfjpmahcocaaGreatDoorExt
namespace Go.Proofs.YtgmmfjpmahcocaaGreatDoor
open Go.Sx
set_option linter.unusedVariables false
structure api_Inst where
  Op : Int
  D : Int
  A : Int
  B : Int
  Imm : Int
def enc_api_Inst (x : api_Inst) : List Value := [.int .i64 x.Op, .int .i64 x.D, .int .i64 x.A, .int .i64 x.B, .int .i64 x.Imm]
structure api_Module where
  Maps : List Int
  Code : List api_Inst
structure scratch_Words where
  words : Nat → Int
structure scratch_Counters where
  counts : Nat → Int
structure scratch_Scratch where
  Words : scratch_Words
  Counters : scratch_Counters
def enc_scratch_Scratch (x : scratch_Scratch) : List Value := [.int .u64 (x.Words.words 0), .int .u64 (x.Words.words 1), .int .u64 (x.Words.words 2), .int .u64 (x.Words.words 3), .int .u64 (x.Words.words 4), .int .u64 (x.Words.words 5), .int .u64 (x.Words.words 6), .int .u64 (x.Words.words 7), .int .u64 (x.Words.words 8), .int .u64 (x.Words.words 9), .int .u64 (x.Words.words 10), .int .u64 (x.Words.words 11), .int .u64 (x.Words.words 12), .int .u64 (x.Words.words 13), .int .u64 (x.Words.words 14), .int .u64 (x.Words.words 15), .int .u64 (x.Counters.counts 0), .int .u64 (x.Counters.counts 1), .int .u64 (x.Counters.counts 2), .int .u64 (x.Counters.counts 3), .int .u64 (x.Counters.counts 4), .int .u64 (x.Counters.counts 5), .int .u64 (x.Counters.counts 6), .int .u64 (x.Counters.counts 7), .int .u64 (x.Counters.counts 8), .int .u64 (x.Counters.counts 9), .int .u64 (x.Counters.counts 10), .int .u64 (x.Counters.counts 11), .int .u64 (x.Counters.counts 12), .int .u64 (x.Counters.counts 13), .int .u64 (x.Counters.counts 14), .int .u64 (x.Counters.counts 15)]
def R_t59 : Rp scratch_Scratch := flatP (enc_scratch_Scratch) 32 (fun _ => rfl)
def R_t47 : Rp scratch_Scratch := ptrP 59 R_t59
structure ops_form where
  name : ByteArray
  fields : ByteArray
def enc_ops_form (x : ops_form) : List Value := [.string x.name, .string x.fields]
def tab_g0 : List ops_form := [(ops_form.mk (⟨[115, 101, 116].toArray⟩) (⟨[100, 115].toArray⟩)),
  (ops_form.mk (⟨[97, 100, 100].toArray⟩) (⟨[100, 97, 115].toArray⟩)),
  (ops_form.mk (⟨[115, 117, 98].toArray⟩) (⟨[100, 97, 115].toArray⟩)),
  (ops_form.mk (⟨[109, 117, 108].toArray⟩) (⟨[100, 97, 115].toArray⟩)),
  (ops_form.mk (⟨[100, 105, 118].toArray⟩) (⟨[100, 97, 115].toArray⟩)),
  (ops_form.mk (⟨[114, 101, 109].toArray⟩) (⟨[100, 97, 115].toArray⟩)),
  (ops_form.mk (⟨[97, 110, 100].toArray⟩) (⟨[100, 97, 115].toArray⟩)),
  (ops_form.mk (⟨[111, 114].toArray⟩) (⟨[100, 97, 115].toArray⟩)),
  (ops_form.mk (⟨[120, 111, 114].toArray⟩) (⟨[100, 97, 115].toArray⟩)),
  (ops_form.mk (⟨[115, 104, 108].toArray⟩) (⟨[100, 97, 115].toArray⟩)),
  (ops_form.mk (⟨[115, 104, 114].toArray⟩) (⟨[100, 97, 115].toArray⟩)),
  (ops_form.mk (⟨[108, 111, 97, 100].toArray⟩) (⟨[100, 115].toArray⟩)),
  (ops_form.mk (⟨[115, 116, 111, 114, 101].toArray⟩) (⟨[97, 115].toArray⟩)),
  (ops_form.mk (⟨[102, 105, 101, 108, 100].toArray⟩) (⟨[100, 102].toArray⟩)),
  (ops_form.mk (⟨[109, 97, 112].toArray⟩) (⟨[100, 109].toArray⟩)),
  (ops_form.mk (⟨[106, 117, 109, 112].toArray⟩) (⟨[106].toArray⟩)),
  (ops_form.mk (⟨[106, 101, 113].toArray⟩) (⟨[106, 97, 115].toArray⟩)),
  (ops_form.mk (⟨[106, 110, 101].toArray⟩) (⟨[106, 97, 115].toArray⟩)),
  (ops_form.mk (⟨[106, 108, 116].toArray⟩) (⟨[106, 97, 115].toArray⟩)),
  (ops_form.mk (⟨[106, 103, 101].toArray⟩) (⟨[106, 97, 115].toArray⟩)),
  (ops_form.mk (⟨[108, 111, 111, 112].toArray⟩) (⟨[98, 97, 110].toArray⟩)),
  (ops_form.mk (⟨[99, 97, 108, 108].toArray⟩) (⟨[104].toArray⟩)),
  (ops_form.mk (⟨[101, 120, 105, 116].toArray⟩) (⟨[97].toArray⟩))]
structure api_Loop where
  Head : Int
  At : Int
  Bound : Int
def enc_api_Loop (x : api_Loop) : List Value := [.int .i64 x.Head, .int .i64 x.At, .int .i64 x.Bound]
structure api_Span where
  Lo : Int
  Hi : Int
def enc_api_Span (x : api_Span) : List Value := [.int .u64 x.Lo, .int .u64 x.Hi]
structure api_Type where
  Kind : Int
  Span : api_Span
  Map : Int
def enc_api_Type (x : api_Type) : List Value := [.int .i64 x.Kind, .int .u64 x.Span.Lo, .int .u64 x.Span.Hi, .int .i64 x.Map]
structure judge_judge where
  Module : api_Module
  came : List (Nat → api_Type)
  any : List Bool
  loops : List api_Loop
def R_t144 : Rp (List (Nat → api_Type)) := rowP 158 (arrC (enc_api_Type) 8) 32 (fun _ => rfl) (by decide)
def R_t145 : Rp (List Bool) := rowP 4 (encBool) 1 (fun _ => rfl) (by decide)
def R_t146 : Rp (List api_Loop) := rowP 164 (enc_api_Loop) 3 (fun _ => rfl) (by decide)
def R_t148 (wb : World) (Sb : List Nat) : Rp judge_judge := structP (fun (x : judge_judge) vs => [vs.getD 0 undef, vs.getD 1 undef, vs.getD 2 undef, vs.getD 3 undef, vs.getD 4 undef]) 5 (fun _ _ => rfl) (fun x => (x.Module.Maps, (x.Module.Code, (x.came, (x.any, x.loops))))) (pairP (borP wb Sb (encInt .i64) 1) (pairP (borP wb Sb (enc_api_Inst) 5) (pairP R_t144 (pairP R_t145 R_t146))))
def R_t116 (wb : World) (Sb : List Nat) : Rp judge_judge := ptrP 148 (R_t148 wb Sb)
structure sigs_sig where
  name : ByteArray
  wants : ByteArray
  most : Int
  asks : Int
  isAsked : Bool
def enc_sigs_sig (x : sigs_sig) : List Value := [.string x.name, .string x.wants, .int .u64 x.most, .int .i64 x.asks, .bool x.isAsked]
def tab_g1 : List sigs_sig := [(sigs_sig.mk (⟨[103, 101, 116].toArray⟩) (⟨[104, 110].toArray⟩) 18446744073709551615 0 true),
  (sigs_sig.mk (⟨[104, 97, 115].toArray⟩) (⟨[104, 110].toArray⟩) 1 1 true),
  (sigs_sig.mk (⟨[112, 117, 116].toArray⟩) (⟨[104, 110, 110].toArray⟩) 1 2 true),
  (sigs_sig.mk (⟨[100, 101, 108].toArray⟩) (⟨[104, 110].toArray⟩) 1 3 true),
  (sigs_sig.mk (⟨[97, 100, 100].toArray⟩) (⟨[104, 110, 110].toArray⟩) 18446744073709551615 4 true),
  (sigs_sig.mk (⟨[109, 97, 114, 107].toArray⟩) (⟨[115].toArray⟩) 18446744073709551615 0 false),
  (sigs_sig.mk (⟨[110, 111, 116, 101].toArray⟩) (⟨[110].toArray⟩) 0 0 false)]
structure api_Event where
  A : Int
  B : Int
def enc_api_Event (x : api_Event) : List Value := [.int .u64 x.A, .int .u64 x.B]
structure engine_Machine where
  Event : api_Event
  module : api_Module
  scratch : scratch_Scratch
  regs : Nat → Int
  turns : Nat → Int
  at_ : Int
  steps : Int
  state : Int
def R_t22 : Rp (List Int) := rowP 3 (encInt .i64) 1 (fun _ => rfl) (by decide)
def R_t23 : Rp (List api_Inst) := rowP 43 (enc_api_Inst) 5 (fun _ => rfl) (by decide)
def R_t96 : Rp engine_Machine := structP (fun (x : engine_Machine) vs => [.int .u64 x.Event.A, .int .u64 x.Event.B, vs.getD 0 undef, vs.getD 1 undef, vs.getD 2 undef, .int .u64 (x.regs 0), .int .u64 (x.regs 1), .int .u64 (x.regs 2), .int .u64 (x.regs 3), .int .u64 (x.regs 4), .int .u64 (x.regs 5), .int .u64 (x.regs 6), .int .u64 (x.regs 7), .int .i64 (x.turns 0), .int .i64 (x.turns 1), .int .i64 (x.turns 2), .int .i64 (x.turns 3), .int .i64 (x.turns 4), .int .i64 (x.turns 5), .int .i64 (x.turns 6), .int .i64 (x.turns 7), .int .i64 (x.turns 8), .int .i64 (x.turns 9), .int .i64 (x.turns 10), .int .i64 (x.turns 11), .int .i64 (x.turns 12), .int .i64 (x.turns 13), .int .i64 (x.turns 14), .int .i64 (x.turns 15), .int .i64 (x.turns 16), .int .i64 (x.turns 17), .int .i64 (x.turns 18), .int .i64 (x.turns 19), .int .i64 (x.turns 20), .int .i64 (x.turns 21), .int .i64 (x.turns 22), .int .i64 (x.turns 23), .int .i64 (x.turns 24), .int .i64 (x.turns 25), .int .i64 (x.turns 26), .int .i64 (x.turns 27), .int .i64 (x.turns 28), .int .i64 (x.turns 29), .int .i64 (x.turns 30), .int .i64 (x.turns 31), .int .i64 (x.turns 32), .int .i64 (x.turns 33), .int .i64 (x.turns 34), .int .i64 (x.turns 35), .int .i64 (x.turns 36), .int .i64 (x.turns 37), .int .i64 (x.turns 38), .int .i64 (x.turns 39), .int .i64 (x.turns 40), .int .i64 (x.turns 41), .int .i64 (x.turns 42), .int .i64 (x.turns 43), .int .i64 (x.turns 44), .int .i64 (x.turns 45), .int .i64 (x.turns 46), .int .i64 (x.turns 47), .int .i64 (x.turns 48), .int .i64 (x.turns 49), .int .i64 (x.turns 50), .int .i64 (x.turns 51), .int .i64 (x.turns 52), .int .i64 (x.turns 53), .int .i64 (x.turns 54), .int .i64 (x.turns 55), .int .i64 (x.turns 56), .int .i64 (x.turns 57), .int .i64 (x.turns 58), .int .i64 (x.turns 59), .int .i64 (x.turns 60), .int .i64 (x.turns 61), .int .i64 (x.turns 62), .int .i64 (x.turns 63), .int .i64 x.at_, .int .i64 x.steps, .int .i64 x.state]) 80 (fun _ _ => rfl) (fun x => (x.module.Maps, (x.module.Code, x.scratch))) (pairP R_t22 (pairP R_t23 R_t47))
def R_t49 : Rp engine_Machine := ptrP 96 R_t96
structure api_Item where
  Map : Int
  Op : Int
  Key : Int
  Val : Int
structure api_Act where
  Kind : Int
  Pc : Int
  Item : api_Item
  Val : Int
def enc_api_Act (x : api_Act) : List Value := [.int .i64 x.Kind, .int .i64 x.Pc, .int .i64 x.Item.Map, .int .i64 x.Item.Op, .int .u64 x.Item.Key, .int .u64 x.Item.Val, .int .u64 x.Val]
structure api_Res where
  E : Int
  Found : Bool
  Val : Int
  Out : Bool
  OutKey : Int
  OutVal : Int
def enc_api_Res (x : api_Res) : List Value := [.int .i64 x.E, .bool x.Found, .int .u64 x.Val, .bool x.Out, .int .u64 x.OutKey, .int .u64 x.OutVal]
structure tappetlaw11_Run where
  M : api_Module
  E : api_Event
  Res : List api_Res
  Odd : Int
def tappetlaw11_asks  : Option api_Module :=
  some (api_Module.mk ([2]) ([(api_Inst.mk 13 2 0 0 0), (api_Inst.mk 14 1 0 0 0), (api_Inst.mk 21 0 0 0 0), (api_Inst.mk 22 0 0 0 0)]))
def scratch_New  : Option scratch_Scratch :=
  some (scratch_Scratch.mk (scratch_Words.mk (fun _ => 0)) (scratch_Counters.mk (fun _ => 0)))
def slices_Index_int_int_l1 (p0 : List Int) (p1 : Int) (i87 : Nat) (again : Unit → Option (Unit ⊕ Int)) (s86 : Unit) : Option (Unit ⊕ Int) :=
  (idx p0 (i87 : Int)).bind fun x96 =>
  if (p1 == x96) then
    some (.inr (i87 : Int))
  else
    again ()
def slices_Index_int_int (p0 : List Int) (p1 : Int) : Option Int :=
  (forN (slices_Index_int_int_l1 p0 p1) (fun (s86 : Unit) => (.inl ())) (p0).length 0 ()).bind fun o52 => match o52 with
    | .inl t54 =>
      some (-1)
    | .inr r => some r
def slices_Contains_int_int (p0 : List Int) (p1 : Int) : Option Bool :=
  (slices_Index_int_int p0 p1).bind fun r8 =>
  some (decide (r8 ≥ 0))
def judge_good_l1 (p0 : List Int) (i187 : Nat) (again : Unit → Option (Unit ⊕ Bool)) (s186 : Unit) : Option (Unit ⊕ Bool) :=
  (idx p0 (i187 : Int)).bind fun x196 =>
  (if decide (x196 < 0) then
    some true
  else
    if decide (x196 ≥ 4) then
      some true
    else
      (cut p0 0 (i187 : Int)).bind fun ys215 =>
      (slices_Contains_int_int ys215 x196).bind fun r218 =>
      some r218).bind fun o211 =>
  if o211 then
    some (.inr false)
  else
    again ()
def judge_good (p0 : List Int) : Option Bool :=
  (forN (judge_good_l1 p0) (fun (s186 : Unit) => (.inl ())) (p0).length 0 ()).bind fun o112 => match o112 with
    | .inl t114 =>
      some (decide (((p0).length : Int) ≤ 4))
    | .inr r => some r
def ops_of (p0 : Int) : Option (ops_form × Bool) :=
  if (decide (p0 < 0) || decide (p0 ≥ 23)) then
    some ((ops_form.mk ByteArray.empty ByteArray.empty), false)
  else
    (idx tab_g0 p0).bind fun x12 =>
    some (x12, true)
def ops_register (p0 : Int) : Option Bool :=
  some (decide (p0 ≥ 0) && decide (p0 < 8))
def ops_within (p0 : Int) (p1 : Int) (p2 : Int) : Option Bool :=
  some (decide (p0 ≥ p1) && decide (p0 ≤ p2))
def ops_right_l1 (p0 : api_Inst) (r12 : ops_form × Bool) (i610 : Nat) (again : (Bool × api_Inst) → Option (Bool × api_Inst)) (s609 : Bool × api_Inst) : Option (Bool × api_Inst) :=
  (sidx r12.1.fields (i610 : Int)).bind fun c617 =>
  if (c617 == 100) then
    if s609.1 then
      (ops_register p0.D).bind fun r621 =>
      again (r621, (api_Inst.mk s609.2.Op 0 s609.2.A s609.2.B s609.2.Imm))
    else
      again (false, (api_Inst.mk s609.2.Op 0 s609.2.A s609.2.B s609.2.Imm))
  else
    if (c617 == 97) then
      if s609.1 then
        (ops_register p0.A).bind fun r629 =>
        again (r629, (api_Inst.mk s609.2.Op s609.2.D 0 s609.2.B s609.2.Imm))
      else
        again (false, (api_Inst.mk s609.2.Op s609.2.D 0 s609.2.B s609.2.Imm))
    else
      if (c617 == 115) then
        if (p0.B == 8) then
          again (s609.1, (api_Inst.mk s609.2.Op s609.2.D s609.2.A 0 0))
        else
          if s609.1 then
            (ops_register p0.B).bind fun r642 =>
            again (r642, (api_Inst.mk s609.2.Op s609.2.D s609.2.A 0 s609.2.Imm))
          else
            again (false, (api_Inst.mk s609.2.Op s609.2.D s609.2.A 0 s609.2.Imm))
      else
        if (c617 == 102) then
          if s609.1 then
            (ops_within p0.Imm 0 1).bind fun r648 =>
            again (r648, (api_Inst.mk s609.2.Op s609.2.D s609.2.A s609.2.B 0))
          else
            again (false, (api_Inst.mk s609.2.Op s609.2.D s609.2.A s609.2.B 0))
        else
          if (c617 == 109) then
            if s609.1 then
              (ops_within p0.Imm 0 3).bind fun r656 =>
              again (r656, (api_Inst.mk s609.2.Op s609.2.D s609.2.A s609.2.B 0))
            else
              again (false, (api_Inst.mk s609.2.Op s609.2.D s609.2.A s609.2.B 0))
          else
            if (c617 == 104) then
              if s609.1 then
                (ops_within p0.Imm 0 6).bind fun r664 =>
                again (r664, (api_Inst.mk s609.2.Op s609.2.D s609.2.A s609.2.B 0))
              else
                again (false, (api_Inst.mk s609.2.Op s609.2.D s609.2.A s609.2.B 0))
            else
              if (c617 == 110) then
                if s609.1 then
                  (ops_within p0.Imm 1 255).bind fun r672 =>
                  again (r672, (api_Inst.mk s609.2.Op s609.2.D s609.2.A s609.2.B 0))
                else
                  again (false, (api_Inst.mk s609.2.Op s609.2.D s609.2.A s609.2.B 0))
              else
                if (c617 == 106) then
                  if s609.1 then
                    (ops_within p0.D 0 63).bind fun r680 =>
                    again (r680, (api_Inst.mk s609.2.Op 0 s609.2.A s609.2.B s609.2.Imm))
                  else
                    again (false, (api_Inst.mk s609.2.Op 0 s609.2.A s609.2.B s609.2.Imm))
                else
                  if (c617 == 98) then
                    if s609.1 then
                      (ops_within p0.D 1 63).bind fun r688 =>
                      again (r688, (api_Inst.mk s609.2.Op 0 s609.2.A s609.2.B s609.2.Imm))
                    else
                      again (false, (api_Inst.mk s609.2.Op 0 s609.2.A s609.2.B s609.2.Imm))
                  else
                    again (s609.1, s609.2)
def ops_right (p0 : api_Inst) : Option Bool :=
  (ops_of p0.Op).bind fun r12 =>
  if (!r12.2) then
    some false
  else
    ((room r12.1.fields.size 1).bind fun u612 =>
    forN (ops_right_l1 p0 r12) (fun (s609 : Bool × api_Inst) => (s609.1, s609.2)) r12.1.fields.size 0 (r12.2, (api_Inst.mk 0 p0.D p0.A p0.B p0.Imm))).bind fun o364 =>
    (if o364.1 then
      some ((o364.2.Op == 0) && ((o364.2.D == 0) && ((o364.2.A == 0) && ((o364.2.B == 0) && ((o364.2.Imm == 0) && true)))))
    else
      some false).bind fun o695 =>
    some o695
def ops_form_uses_l1 (p0 : ops_form) (p1 : Int) (i50 : Nat) (again : Unit → Option (Unit ⊕ Bool)) (s49 : Unit) : Option (Unit ⊕ Bool) :=
  (sidx p0.fields (i50 : Int)).bind fun c57 =>
  if (c57 == p1) then
    some (.inr true)
  else
    again ()
def ops_form_uses (p0 : ops_form) (p1 : Int) : Option Bool :=
  ((room p0.fields.size 1).bind fun u52 =>
  forN (ops_form_uses_l1 p0 p1) (fun (s49 : Unit) => (.inl ())) p0.fields.size 0 ()).bind fun o31 => match o31 with
    | .inl t33 =>
      some false
    | .inr r => some r
def ops_Goes (p0 : api_Inst) : Option (Int × Bool × Bool) :=
  (ops_right p0).bind fun r9 =>
  if (!r9) then
    some (0, false, false)
  else
    (ops_of p0.Op).bind fun r21 =>
    (ops_form_uses r21.1 106).bind fun r32 =>
    if r32 then
      some (w64 (p0.D + 1), true, (p0.Op != 15))
    else
      (ops_form_uses r21.1 98).bind fun r45 =>
      if r45 then
        some (w64 (0 - p0.D), true, true)
      else
        some (0, false, (p0.Op != 22))
def ops_Right_l1 (p0 : List api_Inst) (i157 : Nat) (again : Unit → Option (Unit ⊕ Bool)) (s156 : Unit) : Option (Unit ⊕ Bool) :=
  (idx p0 (i157 : Int)).bind fun x169 =>
  (ops_right x169).bind fun r182 =>
  if (!r182) then
    some (.inr false)
  else
    again ()
def ops_Right (p0 : List api_Inst) : Option Bool :=
  (forN (ops_Right_l1 p0) (fun (s156 : Unit) => (.inl ())) (p0).length 0 ()).bind fun o94 => match o94 with
    | .inl t96 =>
      some true
    | .inr r => some r
def flow_places_l1 (p0 : List api_Inst) (i242 : Nat) (again : Unit → Option (Unit ⊕ (Int × Int))) (s241 : Unit) : Option (Unit ⊕ (Int × Int)) :=
  (idx p0 (i242 : Int)).bind fun x254 =>
  (ops_Goes x254).bind fun r267 =>
  (ops_Right ([x254])).bind fun r279 =>
  if (!r279) then
    some (.inr ((i242 : Int), 12))
  else
    if (r267.2.1 && (decide ((w64 ((i242 : Int) + r267.1)) < 0) || decide ((w64 ((i242 : Int) + r267.1)) ≥ ((p0).length : Int)))) then
      some (.inr ((i242 : Int), 30))
    else
      if (r267.2.2 && ((i242 : Int) == (w64 (((p0).length : Int) - 1)))) then
        some (.inr ((i242 : Int), 36))
      else
        again ()
def flow_places (p0 : List api_Inst) : Option (Int × Int) :=
  (forN (flow_places_l1 p0) (fun (s241 : Unit) => (.inl ())) (p0).length 0 ()).bind fun o145 => match o145 with
    | .inl t147 =>
      some (0, 0)
    | .inr r => some r
def flow_loops_l1 (p0 : List api_Inst) (i231 : Nat) (again : (List api_Loop) → Option (List api_Loop)) (s229 : (List api_Loop)) : Option (List api_Loop) :=
  (idx p0 (i231 : Int)).bind fun x246 =>
  if (x246.Op == 20) then
    (room (s229.length + ([(api_Loop.mk (w64 ((i231 : Int) - x246.D)) (i231 : Int) x246.Imm)]).length) 24).bind fun u267 =>
    again (s229 ++ [(api_Loop.mk (w64 ((i231 : Int) - x246.D)) (i231 : Int) x246.Imm)])
  else
    again s229
def flow_loops (p0 : List api_Inst) : Option (List api_Loop) :=
  (forN (flow_loops_l1 p0) (fun (s229 : (List api_Loop)) => s229) (p0).length 0 ([] : List api_Loop)).bind fun o139 =>
  some o139
def flow_in (p0 : api_Loop) (p1 : Int) : Option Bool :=
  some (decide (p1 ≥ p0.Head) && decide (p1 ≤ p0.At))
def flow_nested_l2 (x985 : api_Loop) (ys996 : List api_Loop) (i1136 : Nat) (again : Unit → Option (Unit ⊕ (Int × Int))) (s1135 : Unit) : Option (Unit ⊕ (Int × Int)) :=
  (idx ys996 (i1136 : Int)).bind fun x1150 =>
  if (decide (x1150.At ≥ x985.Head) && decide (x1150.Head < x985.Head)) then
    some (.inr (x985.At, 31))
  else
    again ()
def flow_nested_l1 (r12 : (List api_Loop)) (i973 : Nat) (again : Unit → Option (Unit ⊕ (Int × Int))) (s972 : Unit) : Option (Unit ⊕ (Int × Int)) :=
  (idx r12 (i973 : Int)).bind fun x985 =>
  (cut r12 0 (i973 : Int)).bind fun ys996 =>
  (forN (flow_nested_l2 x985 ys996) (fun (s1135 : Unit) => (.inl ())) (ys996).length 0 ()).bind fun o1079 => match o1079 with
    | .inl t1081 =>
      again ()
    | .inr r => some (.inr r)
def flow_nested_l4 (r12 : (List api_Loop)) (i2766 : Nat) (r2791 : Int × Bool × Bool) (i3038 : Nat) (again : Unit → Option (Unit ⊕ (Int × Int))) (s3037 : Unit) : Option (Unit ⊕ (Int × Int)) :=
  (idx r12 (i3038 : Int)).bind fun x3050 =>
  (if r2791.2.1 then
    if decide (r2791.1 > 0) then
      (flow_in x3050 (i2766 : Int)).bind fun r3075 =>
      if (!r3075) then
        (flow_in x3050 (w64 ((i2766 : Int) + r2791.1))).bind fun r3080 =>
        if r3080 then
          some ((w64 ((i2766 : Int) + r2791.1)) != x3050.Head)
        else
          some false
      else
        some false
    else
      some false
  else
    some false).bind fun o3071 =>
  if o3071 then
    some (.inr ((i2766 : Int), 31))
  else
    again ()
def flow_nested_l3 (p0 : List api_Inst) (r12 : (List api_Loop)) (i2766 : Nat) (again : Unit → Option (Unit ⊕ (Int × Int))) (s2765 : Unit) : Option (Unit ⊕ (Int × Int)) :=
  (idx p0 (i2766 : Int)).bind fun x2778 =>
  (ops_Goes x2778).bind fun r2791 =>
  (forN (flow_nested_l4 r12 i2766 r2791) (fun (s3037 : Unit) => (.inl ())) (r12).length 0 ()).bind fun o2939 => match o2939 with
    | .inl t2941 =>
      again ()
    | .inr r => some (.inr r)
def flow_nested (p0 : List api_Inst) : Option (Int × Int) :=
  (flow_loops p0).bind fun r12 =>
  (forN (flow_nested_l1 r12) (fun (s972 : Unit) => (.inl ())) (r12).length 0 ()).bind fun o590 => match o590 with
    | .inl t592 =>
      (forN (flow_nested_l3 p0 r12) (fun (s2765 : Unit) => (.inl ())) (p0).length 0 ()).bind fun o2123 => match o2123 with
        | .inl t2125 =>
          some (0, 0)
        | .inr r => some r
    | .inr r => some r
def flow_cost_l2 (r12 : (List api_Loop)) (i947 : Nat) (i1102 : Nat) (again : Int → Option Int) (s1101 : Int) : Option Int :=
  (idx r12 (i1102 : Int)).bind fun x1114 =>
  (flow_in x1114 (i947 : Int)).bind fun r1127 =>
  if r1127 then
    again (imin (w64 (s1101 * (w64 (x1114.Bound + 1)))) 257)
  else
    again s1101
def flow_cost_l1 (r12 : (List api_Loop)) (i947 : Nat) (again : Int → Option Int) (s946 : Int) : Option Int :=
  (forN (flow_cost_l2 r12 i947) (fun (s1101 : Int) => s1101) (r12).length 0 1).bind fun o1040 =>
  again (imin (w64 (s946 + o1040)) 257)
def flow_cost (p0 : List api_Inst) : Option Int :=
  (flow_loops p0).bind fun r12 =>
  (forN (flow_cost_l1 r12) (fun (s946 : Int) => s946) (p0).length 0 0).bind fun o575 =>
  some o575
def flow_Check (p0 : List api_Inst) : Option (Int × Int) :=
  if (((p0).length : Int) == 0) then
    some (0, 10)
  else
    if decide (((p0).length : Int) > 64) then
      some (0, 11)
    else
      (flow_places p0).bind fun r10 =>
      if (r10.2 != 0) then
        some (r10.1, r10.2)
      else
        (flow_nested p0).bind fun r19 =>
        if (r19.2 != 0) then
          some (r19.1, r19.2)
        else
          (flow_cost p0).bind fun r28 =>
          if decide (r28 > 256) then
            some (0, 32)
          else
            some (0, 0)
def flow_Loops (p0 : List api_Inst) : Option ((List api_Loop) × Int) :=
  (flow_Check p0).bind fun r8 =>
  if (r8.2 != 0) then
    some (([] : List api_Loop), r8.2)
  else
    (flow_loops p0).bind fun r21 =>
    some (r21, 0)
def ops_Writes (p0 : api_Inst) : Option (Int × Bool) :=
  (ops_right p0).bind fun r9 =>
  if (!r9) then
    some (0, false)
  else
    (ops_of p0.Op).bind fun r21 =>
    (ops_form_uses r21.1 100).bind fun r32 =>
    if r32 then
      some (p0.D, true)
    else
      some (0, (p0.Op == 21))
def span_Full  : Option api_Span :=
  some (api_Span.mk 0 18446744073709551615)
def judge_number (p0 : api_Span) : Option api_Type :=
  some (api_Type.mk 1 p0 0)
def judge_judge_widen_l2 (p1 : Int) (ys3071 : List api_Inst) (i3539 : Nat) (again : (List (Nat → api_Type)) → Option (List (Nat → api_Type))) (s3537 : (List (Nat → api_Type))) : Option (List (Nat → api_Type)) :=
  (idx ys3071 (i3539 : Int)).bind fun x3554 =>
  (ops_Writes x3554).bind fun r3567 =>
  if (!r3567.2) then
    again s3537
  else
    (idx s3537 p1).bind fun x3581 =>
    (ain 8 r3567.1).bind fun i3587 =>
    if ((x3581 i3587).Kind == 1) then
      span_Full.bind fun r3611 =>
      (judge_number r3611).bind fun r3615 =>
      again (s3537.set (Int.toNat p1) (aset x3581 i3587 r3615))
    else
      again (s3537.set (Int.toNat p1) (aset x3581 i3587 (api_Type.mk 0 (api_Span.mk 0 0) 0)))
def judge_judge_widen_l1 (p0 : judge_judge) (p1 : Int) (i3038 : Nat) (again : (List (Nat → api_Type)) → Option judge_judge) (s3036 : (List (Nat → api_Type))) : Option judge_judge :=
  (idx p0.loops (i3038 : Int)).bind fun x3053 =>
  if (x3053.Head != p1) then
    again s3036
  else
    (cut p0.Module.Code x3053.Head (w64 (x3053.At + 1))).bind fun ys3071 =>
    (forN (judge_judge_widen_l2 p1 ys3071) (fun (s3537 : (List (Nat → api_Type))) => s3537) (ys3071).length 0 s3036).bind fun o3352 =>
    again o3352
def judge_judge_widen (p0 : judge_judge) (p1 : Int) : Option judge_judge :=
  (forN (judge_judge_widen_l1 p0 p1) (fun (s3036 : (List (Nat → api_Type))) => (judge_judge.mk p0.Module s3036 p0.any p0.loops)) (p0.loops).length 0 p0.came).bind fun o1835 =>
  some o1835
def ops_Source (p0 : api_Inst) : Option Bool :=
  (ops_of p0.Op).bind fun r12 =>
  ((ops_right p0).bind fun r34 =>
  if r34 then
    (ops_form_uses r12.1 115).bind fun r39 =>
    some r39
  else
    some false).bind fun o32 =>
  some o32
def span_Single (p0 : Int) : Option api_Span :=
  some (api_Span.mk p0 p0)
def judge_source (p0 : api_Inst) (p1 : Nat → api_Type) : Option api_Type :=
  if (p0.B == 8) then
    (span_Single (wu64 p0.Imm)).bind fun r23 =>
    (judge_number r23).bind fun r27 =>
    some r27
  else
    (ain 8 p0.B).bind fun i35 =>
    some (p1 i35)
def judge_nums_l1 (p0 : List api_Type) (i117 : Nat) (again : Unit → Option (Unit ⊕ Int)) (s116 : Unit) : Option (Unit ⊕ Int) :=
  (idx p0 (i117 : Int)).bind fun x129 =>
  if (x129.Kind != 1) then
    some (.inr 33)
  else
    again ()
def judge_nums (p0 : List api_Type) : Option Int :=
  (forN (judge_nums_l1 p0) (fun (s116 : Unit) => (.inl ())) (p0).length 0 ()).bind fun o70 => match o70 with
    | .inl t72 =>
      some 0
    | .inr r => some r
def span_Right (p0 : api_Span) : Option Bool :=
  some (decide (p0.Lo ≤ p0.Hi))
def span_Within (p0 : api_Span) (p1 : api_Span) : Option Bool :=
  ((span_Right p0).bind fun r21 =>
  if r21 then
    if decide (p1.Lo ≤ p0.Lo) then
      some (decide (p0.Hi ≤ p1.Hi))
    else
      some false
  else
    some false).bind fun o19 =>
  some o19
def judge_word (p0 : api_Type) : Option Int :=
  (span_Within p0.Span (api_Span.mk 0 15)).bind fun r9 =>
  if (!r9) then
    some 35
  else
    some 0
def judge_first_l1 (p0 : List Int) (i87 : Nat) (again : Unit → Option (Unit ⊕ Int)) (s86 : Unit) : Option (Unit ⊕ Int) :=
  (idx p0 (i87 : Int)).bind fun x96 =>
  if (x96 != 0) then
    some (.inr x96)
  else
    again ()
def judge_first (p0 : List Int) : Option Int :=
  (forN (judge_first_l1 p0) (fun (s86 : Unit) => (.inl ())) (p0).length 0 ()).bind fun o52 => match o52 with
    | .inl t54 =>
      some 0
    | .inr r => some r
def judge_fits (p0 : api_Type) (p1 : api_Type) : Option Bool :=
  if (p1.Kind == 1) then
    (if (p0.Kind == 1) then
      (span_Within p0.Span p1.Span).bind fun r18 =>
      some r18
    else
      some false).bind fun o15 =>
    some o15
  else
    if (p1.Kind == 2) then
      some ((p0.Kind == p1.Kind) && (((p0.Span.Lo == p1.Span.Lo) && ((p0.Span.Hi == p1.Span.Hi) && true)) && ((p0.Map == p1.Map) && true)))
    else
      some true
def sigs_of (p0 : Int) : Option (sigs_sig × Bool) :=
  if (decide (p0 < 0) || decide (p0 ≥ 7)) then
    some ((sigs_sig.mk ByteArray.empty ByteArray.empty 0 0 false), false)
  else
    (idx tab_g1 p0).bind fun x12 =>
    some (x12, true)
def sigs_number (p0 : Int) : Option api_Type :=
  some (api_Type.mk 1 (api_Span.mk 0 p0) 0)
def sigs_Args_l1 (r8 : sigs_sig × Bool) (again : ((List api_Type) × Nat) → Option (List api_Type)) (s427 : (List api_Type) × Nat) : Option (List api_Type) :=
  if decide (s427.2 < r8.1.wants.size) then
    if ((runeAt r8.1.wants s427.2) == 104) then
      (room (s427.1.length + ([(api_Type.mk 2 (api_Span.mk 0 0) 0)]).length) 32).bind fun u448 =>
      again ((s427.1 ++ [(api_Type.mk 2 (api_Span.mk 0 0) 0)]), (runeEnd r8.1.wants s427.2))
    else
      if ((runeAt r8.1.wants s427.2) == 115) then
        (sigs_number 15).bind fun r470 =>
        (room (s427.1.length + ([r470]).length) 32).bind fun u476 =>
        again ((s427.1 ++ [r470]), (runeEnd r8.1.wants s427.2))
      else
        (sigs_number 18446744073709551615).bind fun r497 =>
        (room (s427.1.length + ([r497]).length) 32).bind fun u503 =>
        again ((s427.1 ++ [r497]), (runeEnd r8.1.wants s427.2))
  else
    some s427.1
def sigs_Args (fu : Nat) (p0 : Int) : Option (List api_Type) :=
  (sigs_of p0).bind fun r8 =>
  (loop (sigs_Args_l1 r8) fu (([] : List api_Type), 0)).bind fun o264 =>
  some o264
def sigs_Check_l1 (p1 : List api_Type) (r27 : (List api_Type)) (i364 : Nat) (again : Unit → Option (Unit ⊕ Int)) (s363 : Unit) : Option (Unit ⊕ Int) :=
  (idx r27 (i364 : Int)).bind fun x376 =>
  (idx p1 (i364 : Int)).bind fun x395 =>
  if (x376.Kind != x395.Kind) then
    some (.inr 33)
  else
    (if (x376.Kind == 1) then
      (span_Within x395.Span x376.Span).bind fun r424 =>
      some (!r424)
    else
      some false).bind fun o415 =>
    if o415 then
      some (.inr 35)
    else
      again ()
def sigs_Check (fu : Nat) (p0 : Int) (p1 : List api_Type) : Option Int :=
  (sigs_of p0).bind fun r11 =>
  if (!r11.2) then
    some 34
  else
    (sigs_Args fu p0).bind fun r27 =>
    if (((r27).length : Int) != ((p1).length : Int)) then
      some 2
    else
      (forN (sigs_Check_l1 p1 r27) (fun (s363 : Unit) => (.inl ())) (r27).length 0 ()).bind fun o231 => match o231 with
        | .inl t233 =>
          some 0
        | .inr r => some r
def sigs_Result (p0 : Int) : Option (api_Type × Bool) :=
  (sigs_of p0).bind fun r12 =>
  if (!r12.2) then
    some ((api_Type.mk 0 (api_Span.mk 0 0) 0), false)
  else
    (sigs_number r12.1.most).bind fun r27 =>
    some (r27, true)
def arith_Do (p0 : Int) (p1 : Int) (p2 : Int) : Option (Int × Bool) :=
  if (p0 == 1) then
    some (wu64 (p1 + p2), true)
  else
    if (p0 == 2) then
      some (wu64 (p1 - p2), true)
    else
      if (p0 == 3) then
        some (wu64 (p1 * p2), true)
      else
        if (p0 == 4) then
          if (p2 == 0) then
            some (0, true)
          else
            (nz p2).bind fun u8 =>
            some (wu64 (p1.tdiv p2), true)
        else
          if (p0 == 5) then
            if (p2 == 0) then
              some (p1, true)
            else
              (nz p2).bind fun u14 =>
              some (p1.tmod p2, true)
          else
            if (p0 == 6) then
              some (bAnd .u64 p1 p2, true)
            else
              if (p0 == 7) then
                some (bOr .u64 p1 p2, true)
              else
                if (p0 == 8) then
                  some (bXor .u64 p1 p2, true)
                else
                  if (p0 == 9) then
                    (nn p2).bind fun u22 =>
                    some (bShl .u64 p1 p2, true)
                  else
                    if (p0 == 10) then
                      (nn p2).bind fun u27 =>
                      some (bShr .u64 p1 p2, true)
                    else
                      some (0, false)
def span_single (p0 : api_Span) : Option Bool :=
  some (p0.Lo == p0.Hi)
def span_sum (p0 : api_Span) (p1 : api_Span) : Option api_Span :=
  (add64 p0.Hi p1.Hi 0).bind fun x15 =>
  if decide (x15.2 > 0) then
    span_Full.bind fun r23 =>
    some r23
  else
    some (api_Span.mk (wu64 (p0.Lo + p1.Lo)) x15.1)
def bits_Mul64 (p0 : Int) (p1 : Int) : Option (Int × Int) :=
  some (wu64 ((wu64 ((wu64 ((bShr .u64 p0 32) * (bShr .u64 p1 32))) + (bShr .u64 (wu64 ((wu64 ((bShr .u64 p0 32) * (bAnd .u64 p1 4294967295))) + (bShr .u64 (wu64 ((bAnd .u64 p0 4294967295) * (bAnd .u64 p1 4294967295))) 32))) 32))) + (bShr .u64 (wu64 ((bAnd .u64 (wu64 ((wu64 ((bShr .u64 p0 32) * (bAnd .u64 p1 4294967295))) + (bShr .u64 (wu64 ((bAnd .u64 p0 4294967295) * (bAnd .u64 p1 4294967295))) 32))) 4294967295) + (wu64 ((bAnd .u64 p0 4294967295) * (bShr .u64 p1 32))))) 32)), wu64 (p0 * p1))
def span_product (p0 : api_Span) (p1 : api_Span) : Option api_Span :=
  (bits_Mul64 p0.Hi p1.Hi).bind fun r17 =>
  if decide (r17.1 > 0) then
    span_Full.bind fun r27 =>
    some r27
  else
    some (api_Span.mk (wu64 (p0.Lo * p1.Lo)) r17.2)
def span_divided (p0 : api_Span) (p1 : api_Span) : Option api_Span :=
  if (p1.Lo == 0) then
    some (api_Span.mk 0 p0.Hi)
  else
    (nz p1.Hi).bind fun u25 =>
    (nz p1.Lo).bind fun u27 =>
    some (api_Span.mk (wu64 (p0.Lo.tdiv p1.Hi)) (wu64 (p0.Hi.tdiv p1.Lo)))
def span_rest (p0 : api_Span) (p1 : api_Span) : Option api_Span :=
  if (p1.Lo == 0) then
    some (api_Span.mk 0 p0.Hi)
  else
    if decide (p0.Hi < p1.Lo) then
      some p0
    else
      some (api_Span.mk 0 (imin p0.Hi (wu64 (p1.Hi - 1))))
def bits_Len64 (p0 : Int) : Option Int :=
  (if decide (p0 ≥ 4294967296) then
    some (bShr .u64 p0 32, 32)
  else
    some (p0, 0)).bind fun o2 =>
  (if decide (o2.1 ≥ 65536) then
    some (bShr .u64 o2.1 16, w64 (o2.2 + 16))
  else
    some (o2.1, o2.2)).bind fun o6 =>
  (if decide (o6.1 ≥ 256) then
    some (bShr .u64 o6.1 8, w64 (o6.2 + 8))
  else
    some (o6.1, o6.2)).bind fun o10 =>
  (sidx (⟨[0, 1, 2, 2, 3, 3, 3, 3, 4, 4, 4, 4, 4, 4, 4, 4, 5, 5, 5, 5, 5, 5, 5, 5, 5, 5, 5, 5, 5, 5, 5, 5, 6, 6, 6, 6, 6, 6, 6, 6, 6, 6, 6, 6, 6, 6, 6, 6, 6, 6, 6, 6, 6, 6, 6, 6, 6, 6, 6, 6, 6, 6, 6, 6, 7, 7, 7, 7, 7, 7, 7, 7, 7, 7, 7, 7, 7, 7, 7, 7, 7, 7, 7, 7, 7, 7, 7, 7, 7, 7, 7, 7, 7, 7, 7, 7, 7, 7, 7, 7, 7, 7, 7, 7, 7, 7, 7, 7, 7, 7, 7, 7, 7, 7, 7, 7, 7, 7, 7, 7, 7, 7, 7, 7, 7, 7, 7, 7, 8, 8, 8, 8, 8, 8, 8, 8, 8, 8, 8, 8, 8, 8, 8, 8, 8, 8, 8, 8, 8, 8, 8, 8, 8, 8, 8, 8, 8, 8, 8, 8, 8, 8, 8, 8, 8, 8, 8, 8, 8, 8, 8, 8, 8, 8, 8, 8, 8, 8, 8, 8, 8, 8, 8, 8, 8, 8, 8, 8, 8, 8, 8, 8, 8, 8, 8, 8, 8, 8, 8, 8, 8, 8, 8, 8, 8, 8, 8, 8, 8, 8, 8, 8, 8, 8, 8, 8, 8, 8, 8, 8, 8, 8, 8, 8, 8, 8, 8, 8, 8, 8, 8, 8, 8, 8, 8, 8, 8, 8, 8, 8, 8, 8, 8, 8, 8, 8, 8, 8, 8, 8, 8, 8, 8, 8, 8, 8].toArray⟩) (IntKind.u8.wrap o10.1)).bind fun c15 =>
  some (w64 (o10.2 + (w64 c15)))
def span_ones (p0 : Int) : Option Int :=
  (bits_Len64 p0).bind fun r7 =>
  (nn r7).bind fun u11 =>
  some (wu64 ((bShl .u64 1 r7) - 1))
def span_left (p0 : api_Span) (p1 : api_Span) : Option api_Span :=
  ((span_single p1).bind fun r40 =>
  if (!r40) then
    some true
  else
    (bits_Len64 p0.Hi).bind fun r45 =>
    if decide (r45 > 0) then
      if decide (p1.Lo > 64) then
        some true
      else
        (bits_Len64 p0.Hi).bind fun r51 =>
        some (decide ((wu64 ((wu64 r51) + p1.Lo)) > 64))
    else
      some false).bind fun o36 =>
  if o36 then
    span_Full.bind fun r61 =>
    some r61
  else
    (nn p1.Lo).bind fun u71 =>
    (nn p1.Lo).bind fun u73 =>
    some (api_Span.mk (bShl .u64 p0.Lo p1.Lo) (bShl .u64 p0.Hi p1.Lo))
def span_Do (p0 : Int) (p1 : api_Span) (p2 : api_Span) : Option (api_Span × Bool) :=
  (arith_Do p0 p1.Lo p2.Lo).bind fun r17 =>
  (if (!r17.2) then
    some true
  else
    (span_Right p1).bind fun r34 =>
    if (!r34) then
      some true
    else
      (span_Right p2).bind fun r39 =>
      some (!r39)).bind fun o31 =>
  if o31 then
    some ((api_Span.mk 0 0), false)
  else
    ((span_single p1).bind fun r61 =>
    if r61 then
      (span_single p2).bind fun r66 =>
      some r66
    else
      some false).bind fun o59 =>
    if o59 then
      (span_Single r17.1).bind fun r76 =>
      some (r76, true)
    else
      if (p0 == 1) then
        (span_sum p1 p2).bind fun r87 =>
        some (r87, true)
      else
        if (p0 == 2) then
          if decide (p1.Lo < p2.Hi) then
            span_Full.bind fun r99 =>
            some (r99, true)
          else
            some ((api_Span.mk (wu64 (p1.Lo - p2.Hi)) (wu64 (p1.Hi - p2.Lo))), true)
        else
          if (p0 == 3) then
            (span_product p1 p2).bind fun r112 =>
            some (r112, true)
          else
            if (p0 == 4) then
              (span_divided p1 p2).bind fun r123 =>
              some (r123, true)
            else
              if (p0 == 5) then
                (span_rest p1 p2).bind fun r134 =>
                some (r134, true)
              else
                if (p0 == 6) then
                  some ((api_Span.mk 0 (imin p1.Hi p2.Hi)), true)
                else
                  if (p0 == 7) then
                    (span_ones (bOr .u64 p1.Hi p2.Hi)).bind fun r152 =>
                    some ((api_Span.mk (imax p1.Lo p2.Lo) r152), true)
                  else
                    if (p0 == 8) then
                      (span_ones (bOr .u64 p1.Hi p2.Hi)).bind fun r163 =>
                      some ((api_Span.mk 0 r163), true)
                    else
                      if (p0 == 9) then
                        (span_left p1 p2).bind fun r174 =>
                        some (r174, true)
                      else
                        (nn p2.Hi).bind fun u184 =>
                        (nn p2.Lo).bind fun u186 =>
                        some ((api_Span.mk (bShr .u64 p1.Lo p2.Hi) (bShr .u64 p1.Hi p2.Lo)), true)
def judge_judge_one_l1 (p0 : judge_judge) (p1 : Int) (o80 : api_Inst × (Nat → api_Type)) (i723 : Nat) (again : Unit → Option (Unit ⊕ ((Nat → api_Type) × Int))) (s721 : Unit) : Option (Unit ⊕ ((Nat → api_Type) × Int)) :=
  (ain 8 (i723 : Int)).bind fun i771 =>
  (idx p0.came (w64 (p1 - o80.1.D))).bind fun x773 =>
  (judge_fits (o80.2 i771) (x773 i771)).bind fun r779 =>
  if (!r779) then
    some (.inr (o80.2, 33))
  else
    again ()
def judge_judge_one (fu : Nat) (p0 : judge_judge) (p1 : Int) : Option ((Nat → api_Type) × Int) :=
  ((idx p0.Module.Code p1).bind fun x84 =>
  (idx p0.came p1).bind fun x90 =>
  some (x84, x90)).bind fun o80 =>
  (ops_Source o80.1).bind fun r126 =>
  (if r126 then
    (judge_source o80.1 o80.2).bind fun r149 =>
    some r149
  else
    some (api_Type.mk 0 (api_Span.mk 0 0) 0)).bind fun o141 =>
  (ain 8 o80.1.A).bind fun i157 =>
  if (o80.1.Op == 0) then
    if (o141.Kind == 0) then
      some (o80.2, 33)
    else
      (ain 8 o80.1.D).bind fun i167 =>
      some ((aset o80.2 i167 o141), 0)
  else
    if (o80.1.Op == 11) then
      span_Full.bind fun r188 =>
      (judge_number r188).bind fun r192 =>
      (ain 8 o80.1.D).bind fun i196 =>
      (judge_nums ([o141])).bind fun r222 =>
      (judge_word o141).bind fun r226 =>
      (judge_first ([r222, r226])).bind fun r232 =>
      some ((aset o80.2 i196 r192), r232)
    else
      if (o80.1.Op == 12) then
        (judge_nums ([(o80.2 i157), o141])).bind fun r261 =>
        (judge_word o141).bind fun r265 =>
        (judge_first ([r261, r265])).bind fun r271 =>
        some (o80.2, r271)
      else
        if (o80.1.Op == 13) then
          span_Full.bind fun r292 =>
          (judge_number r292).bind fun r296 =>
          (ain 8 o80.1.D).bind fun i300 =>
          some ((aset o80.2 i300 r296), 0)
        else
          if (o80.1.Op == 14) then
            (ain 8 o80.1.D).bind fun i309 =>
            if decide (o80.1.Imm ≥ ((p0.Module.Maps).length : Int)) then
              some ((aset o80.2 i309 (api_Type.mk 2 (api_Span.mk 0 0) o80.1.Imm)), 35)
            else
              some ((aset o80.2 i309 (api_Type.mk 2 (api_Span.mk 0 0) o80.1.Imm)), 0)
          else
            if (o80.1.Op == 15) then
              some (o80.2, 0)
            else
              (if (o80.1.Op == 16) then
                some (o80.1.Op == 16)
              else
                if (o80.1.Op == 17) then
                  some (o80.1.Op == 17)
                else
                  if (o80.1.Op == 18) then
                    some (o80.1.Op == 18)
                  else
                    some (o80.1.Op == 19)).bind fun o358 =>
              if o358 then
                (judge_nums ([(o80.2 i157), o141])).bind fun r377 =>
                some (o80.2, r377)
              else
                if (o80.1.Op == 20) then
                  (judge_nums ([(o80.2 i157)])).bind fun r391 =>
                  if (r391 != 0) then
                    some (o80.2, r391)
                  else
                    (forN (judge_judge_one_l1 p0 p1 o80) (fun (s721 : Unit) => (.inl ())) 8 0 ()).bind fun o592 => match o592 with
                      | .inl t594 =>
                        some (o80.2, 0)
                      | .inr r => some r
                else
                  if (o80.1.Op == 21) then
                    (sigs_Args fu o80.1.Imm).bind fun r805 =>
                    (cut (arrL 8 o80.2) 1 (w64 (1 + ((r805).length : Int)))).bind fun ys813 =>
                    (sigs_Check fu o80.1.Imm ys813).bind fun r815 =>
                    (sigs_Result o80.1.Imm).bind fun r824 =>
                    some ((aset o80.2 0 r824.1), r815)
                  else
                    if (o80.1.Op == 22) then
                      (judge_nums ([(o80.2 i157)])).bind fun r845 =>
                      some (o80.2, r845)
                    else
                      (span_Do o80.1.Op (o80.2 i157).Span o141.Span).bind fun r857 =>
                      (judge_number r857.1).bind fun r875 =>
                      (ain 8 o80.1.D).bind fun i879 =>
                      (judge_nums ([(o80.2 i157), o141])).bind fun r895 =>
                      some ((aset o80.2 i879 r875), r895)
def span_Join_l1 (p0 : List api_Span) (i187 : Nat) (again : api_Span → Option (api_Span ⊕ (api_Span × Bool))) (s186 : api_Span) : Option (api_Span ⊕ (api_Span × Bool)) :=
  (idx p0 (i187 : Int)).bind fun x199 =>
  (span_Right x199).bind fun r212 =>
  if (!r212) then
    some (.inr ((api_Span.mk 0 0), false))
  else
    again (api_Span.mk (imin s186.Lo x199.Lo) (imax s186.Hi x199.Hi))
def span_Join (p0 : List api_Span) : Option (api_Span × Bool) :=
  (forN (span_Join_l1 p0) (fun (s186 : api_Span) => (.inl s186)) (p0).length 0 (api_Span.mk 18446744073709551615 0)).bind fun o116 => match o116 with
    | .inl t118 =>
      if (((p0).length : Int) == 0) then
        some ((api_Span.mk 0 0), false)
      else
        some (t118, true)
    | .inr r => some r
def judge_joined (p0 : api_Type) (p1 : api_Type) : Option api_Type :=
  if ((p0.Kind != p1.Kind) || (p0.Map != p1.Map)) then
    some (api_Type.mk 0 (api_Span.mk 0 0) 0)
  else
    if (p0.Kind == 1) then
      (span_Join ([p0.Span, p1.Span])).bind fun r29 =>
      (judge_number r29.1).bind fun r41 =>
      some r41
    else
      some p0
def judge_judge_come_l1 (p1 : Int) (p2 : Nat → api_Type) (i433 : Nat) (again : judge_judge → Option judge_judge) (s431 : judge_judge) : Option judge_judge :=
  (idx s431.came p1).bind fun x486 =>
  (ain 8 (i433 : Int)).bind fun i492 =>
  (judge_joined (x486 i492) (p2 i492)).bind fun r498 =>
  again (judge_judge.mk s431.Module (s431.came.set (Int.toNat p1) (aset x486 i492 r498)) s431.any s431.loops)
def judge_judge_come (p0 : judge_judge) (p1 : Int) (p2 : Nat → api_Type) : Option judge_judge :=
  (idx p0.any p1).bind fun x41 =>
  if (!x41) then
    (idx p0.came p1).bind fun x69 =>
    some (judge_judge.mk p0.Module (p0.came.set (Int.toNat p1) p2) (p0.any.set (Int.toNat p1) true) p0.loops)
  else
    (forN (judge_judge_come_l1 p1 p2) (fun (s431 : judge_judge) => s431) 8 0 p0).bind fun o290 =>
    some o290
def arith_Holds (p0 : Int) (p1 : Int) (p2 : Int) : Option (Bool × Bool) :=
  if (p0 == 16) then
    some ((p1 == p2), true)
  else
    if (p0 == 17) then
      some ((p1 != p2), true)
    else
      if (p0 == 18) then
        some (decide (p1 < p2), true)
      else
        if (p0 == 19) then
          some (decide (p1 ≥ p2), true)
        else
          some (false, false)
def span_Meet_l1 (p0 : List api_Span) (i195 : Nat) (again : api_Span → Option (api_Span ⊕ (api_Span × Bool))) (s194 : api_Span) : Option (api_Span ⊕ (api_Span × Bool)) :=
  (idx p0 (i195 : Int)).bind fun x207 =>
  (span_Right x207).bind fun r220 =>
  if (!r220) then
    some (.inr ((api_Span.mk 0 0), false))
  else
    again (api_Span.mk (imax s194.Lo x207.Lo) (imin s194.Hi x207.Hi))
def span_Meet (p0 : List api_Span) : Option (api_Span × Bool) :=
  span_Full.bind fun r15 =>
  (forN (span_Meet_l1 p0) (fun (s194 : api_Span) => (.inl s194)) (p0).length 0 r15).bind fun o124 => match o124 with
    | .inl t126 =>
      (if (((p0).length : Int) == 0) then
        some true
      else
        (span_Right t126).bind fun r237 =>
        some (!r237)).bind fun o234 =>
      if o234 then
        some ((api_Span.mk 0 0), false)
      else
        some (t126, true)
    | .inr r => some r
def span_Refine (p0 : Int) (p1 : api_Span) (p2 : api_Span) (p3 : Bool) : Option (api_Span × Bool) :=
  (arith_Holds p0 0 0).bind fun r17 =>
  (if (!r17.2) then
    some true
  else
    (span_Right p1).bind fun r34 =>
    if (!r34) then
      some true
    else
      (span_Right p2).bind fun r39 =>
      some (!r39)).bind fun o31 =>
  if o31 then
    some ((api_Span.mk 0 0), false)
  else
    (span_single p2).bind fun r50 =>
    if (!r50) then
      some (p1, true)
    else
      (if ((p0 == 18) && p3) then
        some ((p0 == 18) && p3)
      else
        if (p0 == 19) then
          some (!p3)
        else
          some false).bind fun o60 =>
      if o60 then
        if (p2.Lo == 0) then
          some ((api_Span.mk 0 0), false)
        else
          (span_Meet ([p1, (api_Span.mk 0 (wu64 (p2.Lo - 1)))])).bind fun r77 =>
          some (r77.1, r77.2)
      else
        (if (p0 == 18) then
          some (p0 == 18)
        else
          some (p0 == 19)).bind fun o83 =>
        if o83 then
          (span_Meet ([p1, (api_Span.mk p2.Lo 18446744073709551615)])).bind fun r96 =>
          some (r96.1, r96.2)
        else
          (if ((p0 == 16) && p3) then
            some ((p0 == 16) && p3)
          else
            if (p0 == 17) then
              some (!p3)
            else
              some false).bind fun o104 =>
          if o104 then
            (span_Meet ([p1, p2])).bind fun r118 =>
            some (r118.1, r118.2)
          else
            if ((p1.Lo == p2.Lo) && ((p1.Hi == p2.Hi) && true)) then
              some ((api_Span.mk 0 0), false)
            else
              if (p1.Lo == p2.Lo) then
                some ((api_Span.mk (wu64 (p1.Lo + 1)) p1.Hi), true)
              else
                if (p1.Hi == p2.Lo) then
                  some ((api_Span.mk p1.Lo (wu64 (p1.Hi - 1))), true)
                else
                  some (p1, true)
def judge_judge_ways_l1 (p1 : Int) (p2 : Nat → api_Type) (x44 : api_Inst) (r57 : Int × Bool × Bool) (r114 : api_Type) (i639 : Nat) (again : judge_judge → Option judge_judge) (s637 : judge_judge) : Option judge_judge :=
  (idx ([true, false]) (i639 : Int)).bind fun x648 =>
  (if (!x648) then
    some (w64 (p1 + 1))
  else
    some (w64 (p1 + r57.1))).bind fun o665 =>
  ((ain 8 x44.A).bind fun i695 =>
  (span_Refine x44.Op (p2 i695).Span r114.Span x648).bind fun r697 =>
  some (r697.1, r697.2)).bind fun o691 =>
  if o691.2 then
    (judge_number o691.1).bind fun r723 =>
    (ain 8 x44.A).bind fun i727 =>
    (judge_judge_come s637 o665 (aset p2 i727 r723)).bind fun r735 =>
    again r735
  else
    again s637
def judge_judge_ways (p0 : judge_judge) (p1 : Int) (p2 : Nat → api_Type) : Option judge_judge :=
  (idx p0.Module.Code p1).bind fun x44 =>
  (ops_Goes x44).bind fun r57 =>
  if ((!r57.2.1) || decide (r57.1 < 0)) then
    (if r57.2.2 then
      (judge_judge_come p0 (w64 (p1 + 1)) p2).bind fun r88 =>
      some r88
    else
      some p0).bind fun o78 =>
    some o78
  else
    if (!r57.2.2) then
      (judge_judge_come p0 (w64 (p1 + r57.1)) p2).bind fun r102 =>
      some r102
    else
      (judge_source x44 p2).bind fun r114 =>
      (forN (judge_judge_ways_l1 p1 p2 x44 r57 r114) (fun (s637 : judge_judge) => s637) 2 0 p0).bind fun o432 =>
      some o432
def judge_judged_l1 (fu : Nat) (i573 : Nat) (again : judge_judge → Option (judge_judge ⊕ ((Option judge_judge) × Int × Int))) (s571 : judge_judge) : Option (judge_judge ⊕ ((Option judge_judge) × Int × Int)) :=
  (idx s571.any (i573 : Int)).bind fun x611 =>
  if (!x611) then
    again s571
  else
    (judge_judge_widen s571 (i573 : Int)).bind fun r626 =>
    (judge_judge_one fu r626 (i573 : Int)).bind fun r639 =>
    if (r639.2 != 0) then
      some (.inr (none, (i573 : Int), r639.2))
    else
      (judge_judge_ways r626 (i573 : Int) r639.1).bind fun r653 =>
      again r653
def judge_judged (fu : Nat) (p0 : api_Module) : Option ((Option judge_judge) × Int × Int) :=
  (judge_good p0.Maps).bind fun r15 =>
  if (!r15) then
    some (none, 0, 2)
  else
    (flow_Check p0.Code).bind fun r24 =>
    if (r24.2 != 0) then
      some (none, r24.1, r24.2)
    else
      ((mkLen ((p0.Code).length : Int) 256).bind fun m57 =>
      (mkLen ((p0.Code).length : Int) 1).bind fun m61 =>
      some (judge_judge.mk p0 (List.replicate m57 (fun _ => (api_Type.mk 0 (api_Span.mk 0 0) 0))) (List.replicate m61 false) ([] : List api_Loop))).bind fun o53 =>
      (flow_Loops p0.Code).bind fun r113 =>
      (idx o53.any 0).bind fun x129 =>
      (forN (judge_judged_l1 fu) (fun (s571 : judge_judge) => (.inl s571)) (p0.Code).length 0 (judge_judge.mk o53.Module o53.came (o53.any.set (Int.toNat 0) true) r113.1)).bind fun o396 => match o396 with
        | .inl t398 =>
          some ((some t398), 0, 0)
        | .inr r => some r
def judge_Judge (fu : Nat) (p0 : api_Module) : Option (Int × Int) :=
  (judge_judged fu p0).bind fun r21 =>
  ocase r21.1
    (some (r21.2.1, r21.2.2))
    (fun k25 =>
    some (r21.2.1, r21.2.2))
def scratch_Words_Wipe (p0 : scratch_Words) : Option scratch_Words :=
  some (scratch_Words.mk (fun _ => 0))
def slices_Clone_int_int (p0 : List Int) : Option (List Int) :=
  (room (([] : List Int).length + p0.length) 8).bind fun u17 =>
  some (([] : List Int) ++ p0)
def slices_Clone_tappet_api_Inst_tappet_api_Inst (p0 : List api_Inst) : Option (List api_Inst) :=
  (room (([] : List api_Inst).length + p0.length) 40).bind fun u17 =>
  some (([] : List api_Inst) ++ p0)
def engine_New (fu : Nat) (p0 : api_Module) (p1 : api_Event) (p2 : scratch_Scratch) : Option ((Option engine_Machine) × Int) :=
  (judge_Judge fu p0).bind fun r20 =>
  if (r20.2 != 0) then
    some (none, r20.2)
  else
    (scratch_Words_Wipe p2.Words).bind fun r29 =>
    (slices_Clone_int_int p0.Maps).bind fun r55 =>
    (slices_Clone_tappet_api_Inst_tappet_api_Inst p0.Code).bind fun r63 =>
    some ((some (engine_Machine.mk p1 (api_Module.mk r55 r63) (scratch_Scratch.mk r29 p2.Counters) (fun _ => 0) (fun _ => 0) 0 0 0)), 0)
def sigs_Asks (p0 : Int) : Option (Int × Bool) :=
  (sigs_of p0).bind fun r8 =>
  some (r8.1.asks, r8.1.isAsked)
def scratch_Counters_Mark (p0 : scratch_Counters) (p1 : Int) : Option (Int × Int × scratch_Counters) :=
  if (decide (p1 < 0) || decide (p1 ≥ 16)) then
    some (0, 35, p0)
  else
    (ain 16 p1).bind fun i10 =>
    some (((aset p0.counts i10 (wu64 ((p0.counts i10) + 1))) i10), 0, (scratch_Counters.mk (aset p0.counts i10 (wu64 ((p0.counts i10) + 1)))))
def engine_Machine_call (fu : Nat) (p0 : engine_Machine) (p1 : Int) : Option (api_Act × engine_Machine) :=
  (sigs_Asks p1).bind fun r29 =>
  if r29.2 then
    (idx p0.module.Maps (p0.regs 1)).bind fun x49 =>
    (sigs_Args fu p1).bind fun r64 =>
    (if decide (((r64).length : Int) > 2) then
      some (p0.regs 3)
    else
      some 0).bind fun o78 =>
    some ((api_Act.mk 2 p0.at_ (api_Item.mk x49 r29.1 (p0.regs 2) o78) 0), (engine_Machine.mk p0.Event p0.module p0.scratch p0.regs p0.turns p0.at_ p0.steps 1))
  else
    (if (p1 == 5) then
      (scratch_Counters_Mark p0.scratch.Counters (w64 (p0.regs 1))).bind fun r133 =>
      some ((engine_Machine.mk p0.Event p0.module (scratch_Scratch.mk p0.scratch.Words r133.2.2) (aset p0.regs 0 r133.1) p0.turns p0.at_ p0.steps p0.state), (api_Act.mk 1 p0.at_ (api_Item.mk 0 0 0 0) r133.1))
    else
      some ((engine_Machine.mk p0.Event p0.module p0.scratch (aset p0.regs 0 0) p0.turns p0.at_ p0.steps p0.state), (api_Act.mk 3 p0.at_ (api_Item.mk 0 0 0 0) (p0.regs 1)))).bind fun o121 =>
    some (o121.2, (engine_Machine.mk o121.1.Event o121.1.module o121.1.scratch o121.1.regs o121.1.turns (w64 (o121.1.at_ + 1)) o121.1.steps o121.1.state))
def engine_Machine_source (p0 : engine_Machine) (p1 : api_Inst) : Option Int :=
  if (p1.B == 8) then
    some (wu64 p1.Imm)
  else
    (ain 8 p1.B).bind fun i12 =>
    some (p0.regs i12)
def scratch_Words_Load (p0 : scratch_Words) (p1 : Int) : Option (Int × Int) :=
  if (decide (p1 < 0) || decide (p1 ≥ 16)) then
    some (0, 35)
  else
    (ain 16 p1).bind fun i5 =>
    some ((p0.words i5), 0)
def scratch_Words_Store (p0 : scratch_Words) (p1 : Int) (p2 : Int) : Option (Int × scratch_Words) :=
  if (decide (p1 < 0) || decide (p1 ≥ 16)) then
    some (35, p0)
  else
    (ain 16 p1).bind fun i6 =>
    some (0, (scratch_Words.mk (aset p0.words i6 p2)))
def engine_Machine_run (p0 : engine_Machine) (p1 : api_Inst) : Option (Int × engine_Machine) :=
  if (p1.Op == 0) then
    (engine_Machine_source p0 p1).bind fun r31 =>
    (ain 8 p1.D).bind fun i35 =>
    some (1, (engine_Machine.mk p0.Event p0.module p0.scratch (aset p0.regs i35 r31) p0.turns p0.at_ p0.steps p0.state))
  else
    if (p1.Op == 11) then
      (engine_Machine_source p0 p1).bind fun r68 =>
      (scratch_Words_Load p0.scratch.Words (w64 r68)).bind fun r72 =>
      (ain 8 p1.D).bind fun i76 =>
      some (1, (engine_Machine.mk p0.Event p0.module p0.scratch (aset p0.regs i76 r72.1) p0.turns p0.at_ p0.steps p0.state))
    else
      if (p1.Op == 12) then
        (ain 8 p1.A).bind fun i108 =>
        (engine_Machine_source p0 p1).bind fun r110 =>
        (scratch_Words_Store p0.scratch.Words (w64 r110) (p0.regs i108)).bind fun r114 =>
        some (1, (engine_Machine.mk p0.Event p0.module (scratch_Scratch.mk r114.2 p0.scratch.Counters) p0.regs p0.turns p0.at_ p0.steps p0.state))
      else
        if (p1.Op == 13) then
          (ain 8 p1.D).bind fun i140 =>
          if (p1.Imm == 1) then
            some (1, (engine_Machine.mk p0.Event p0.module p0.scratch (aset (aset p0.regs i140 p0.Event.A) i140 p0.Event.B) p0.turns p0.at_ p0.steps p0.state))
          else
            some (1, (engine_Machine.mk p0.Event p0.module p0.scratch (aset p0.regs i140 p0.Event.A) p0.turns p0.at_ p0.steps p0.state))
        else
          if (p1.Op == 14) then
            (ain 8 p1.D).bind fun i173 =>
            some (1, (engine_Machine.mk p0.Event p0.module p0.scratch (aset p0.regs i173 (wu64 p1.Imm)) p0.turns p0.at_ p0.steps p0.state))
          else
            if (p1.Op == 15) then
              some (w64 (p1.D + 1), p0)
            else
              if (p1.Op == 20) then
                ((ain 8 p1.A).bind fun i210 =>
                if ((p0.regs i210) != 0) then
                  (ain 64 p0.at_).bind fun i213 =>
                  some (decide ((p0.turns i213) < p1.Imm))
                else
                  some false).bind fun o206 =>
                if o206 then
                  (ain 64 p0.at_).bind fun i238 =>
                  some (w64 (0 - p1.D), (engine_Machine.mk p0.Event p0.module p0.scratch p0.regs (aset p0.turns i238 (w64 ((p0.turns i238) + 1))) p0.at_ p0.steps p0.state))
                else
                  (ain 64 p0.at_).bind fun i262 =>
                  some (1, (engine_Machine.mk p0.Event p0.module p0.scratch p0.regs (aset p0.turns i262 0) p0.at_ p0.steps p0.state))
              else
                (ain 8 p1.A).bind fun i293 =>
                (engine_Machine_source p0 p1).bind fun r295 =>
                (arith_Do p1.Op (p0.regs i293) r295).bind fun r299 =>
                if r299.2 then
                  (ain 8 p1.D).bind fun i311 =>
                  some (1, (engine_Machine.mk p0.Event p0.module p0.scratch (aset p0.regs i311 r299.1) p0.turns p0.at_ p0.steps p0.state))
                else
                  (engine_Machine_source p0 p1).bind fun r327 =>
                  (arith_Holds p1.Op (p0.regs i293) r327).bind fun r331 =>
                  if r331.1 then
                    some (w64 (p1.D + 1), p0)
                  else
                    some (1, p0)
def engine_Machine_Step (fu : Nat) (p0 : engine_Machine) : Option (api_Act × engine_Machine) :=
  if (p0.state == 1) then
    some ((api_Act.mk 5 p0.at_ (api_Item.mk 0 0 0 0) 0), p0)
  else
    if (p0.state == 2) then
      (idx p0.module.Code p0.at_).bind fun x37 =>
      (ain 8 x37.A).bind fun i43 =>
      some ((api_Act.mk 6 p0.at_ (api_Item.mk 0 0 0 0) (p0.regs i43)), p0)
    else
      (idx p0.module.Code p0.at_).bind fun x62 =>
      if (x62.Op == 21) then
        (engine_Machine_call fu (engine_Machine.mk p0.Event p0.module p0.scratch p0.regs p0.turns p0.at_ (w64 (p0.steps + 1)) p0.state) x62.Imm).bind fun r80 =>
        some (r80.1, r80.2)
      else
        if (x62.Op == 22) then
          (ain 8 x62.A).bind fun i96 =>
          some ((api_Act.mk 4 p0.at_ (api_Item.mk 0 0 0 0) (p0.regs i96)), (engine_Machine.mk p0.Event p0.module p0.scratch p0.regs p0.turns p0.at_ (w64 (p0.steps + 1)) 2))
        else
          (engine_Machine_run (engine_Machine.mk p0.Event p0.module p0.scratch p0.regs p0.turns p0.at_ (w64 (p0.steps + 1)) p0.state) x62).bind fun r132 =>
          some ((api_Act.mk 1 p0.at_ (api_Item.mk 0 0 0 0) 0), (engine_Machine.mk r132.2.Event r132.2.module r132.2.scratch r132.2.regs r132.2.turns (w64 (p0.at_ + r132.1)) r132.2.steps r132.2.state))
def sigs_Value (p0 : Int) (p1 : api_Res) : Option Int :=
  (if (p0 == 0) then
    some (p0 == 0)
  else
    some (p0 == 4)).bind fun o6 =>
  if o6 then
    some p1.Val
  else
    (if (p0 == 1) then
      some (p0 == 1)
    else
      some (p0 == 3)).bind fun o11 =>
    if o11 then
      if p1.Found then
        some 1
      else
        some 0
    else
      if (p0 == 2) then
        if (p1.E == 0) then
          some 1
        else
          some 0
      else
        some 0
def engine_Machine_Answer (p0 : engine_Machine) (p1 : api_Res) : Option (Int × engine_Machine) :=
  if (p0.state != 1) then
    some (2, p0)
  else
    (idx p0.module.Code p0.at_).bind fun x36 =>
    (sigs_Value x36.Imm p1).bind fun r42 =>
    some (0, (engine_Machine.mk p0.Event p0.module p0.scratch (aset p0.regs 0 r42) p0.turns (w64 (p0.at_ + 1)) p0.steps 0))
def engine_Trace_l1 (fu : Nat) (again : ((List api_Res) × engine_Machine × (List api_Act)) → Option ((List api_Act) × Int)) (s214 : (List api_Res) × engine_Machine × (List api_Act)) : Option ((List api_Act) × Int) :=
  (engine_Machine_Step fu s214.2.1).bind fun r233 =>
  (room (s214.2.2.length + ([r233.1]).length) 56).bind fun u252 =>
  (if (r233.1.Kind == 4) then
    some (r233.1.Kind == 4)
  else
    if (r233.1.Kind == 2) then
      some (((s214.1).length : Int) == 0)
    else
      some false).bind fun o261 =>
  if o261 then
    some ((s214.2.2 ++ [r233.1]), 0)
  else
    if (r233.1.Kind == 2) then
      (idx s214.1 0).bind fun x278 =>
      (engine_Machine_Answer r233.2 x278).bind fun r284 =>
      (cut s214.1 1 (s214.1.length : Int)).bind fun ys292 =>
      again (ys292, r284.2, (s214.2.2 ++ [r233.1]))
    else
      again (s214.1, r233.2, (s214.2.2 ++ [r233.1]))
def engine_Trace_l2 (again : Unit → Option ((List api_Act) × Int)) (s307 : Unit) : Option ((List api_Act) × Int) :=
  none
def engine_Trace (fu : Nat) (p0 : api_Module) (p1 : api_Event) (p2 : List api_Res) : Option ((List api_Act) × Int) :=
  scratch_New.bind fun r39 =>
  (engine_New fu p0 p1 r39).bind fun r46 =>
  ocase r46.1
    (if (r46.2 != 0) then
      some (([] : List api_Act), r46.2)
    else
      loop engine_Trace_l2 fu ())
    (fun k50 =>
    if (r46.2 != 0) then
      some (([] : List api_Act), r46.2)
    else
      loop (engine_Trace_l1 fu) fu (p2, k50, ([] : List api_Act)))
def tappetlaw11_awake (fu : Nat)  : Option Bool :=
  tappetlaw11_asks.bind fun r41 =>
  (engine_Trace fu r41 (api_Event.mk 20 3) ([(api_Res.mk 0 true 9 false 0 0)])).bind fun r73 =>
  (if (r73.2 == 0) then
    if (((r73.1).length : Int) == 4) then
      (idx r73.1 2).bind fun x100 =>
      if ((x100.Kind == 2) && ((x100.Pc == 2) && (((x100.Item.Map == 2) && ((x100.Item.Op == 0) && ((x100.Item.Key == 20) && ((x100.Item.Val == 0) && true)))) && ((x100.Val == 0) && true)))) then
        (idx r73.1 3).bind fun x107 =>
        some ((x107.Kind == 4) && ((x107.Pc == 3) && (((x107.Item.Map == 0) && ((x107.Item.Op == 0) && ((x107.Item.Key == 0) && ((x107.Item.Val == 0) && true)))) && ((x107.Val == 9) && true))))
      else
        some false
    else
      some false
  else
    some false).bind fun o96 =>
  some o96
def tappetlaw11_copied (p0 : api_Module) : Option api_Module :=
  ((room (([] : List Int).length + p0.Maps.length) 8).bind fun u78 =>
  (room (([] : List api_Inst).length + p0.Code.length) 40).bind fun u87 =>
  some ()).bind fun o72 =>
  some (api_Module.mk (([] : List Int) ++ p0.Maps) (([] : List api_Inst) ++ p0.Code))
def flow_Cost (p0 : List api_Inst) : Option (Int × Int) :=
  (flow_Check p0).bind fun r8 =>
  if (r8.2 != 0) then
    some (0, r8.2)
  else
    (flow_cost p0).bind fun r17 =>
    some (r17, 0)
def flow_check (p0 : List api_Inst) (p1 : Int) : Option Int :=
  (flow_Check p0).bind fun r8 =>
  if ((r8.2 == 0) && (decide (p1 < 0) || decide (p1 ≥ ((p0).length : Int)))) then
    some 2
  else
    some r8.2
def flow_Next (p0 : List api_Inst) (p1 : Int) : Option ((List Int) × Int) :=
  (flow_check p0 p1).bind fun r8 =>
  if (r8 != 0) then
    some (([] : List Int), r8)
  else
    (idx p0 p1).bind fun x23 =>
    (ops_Goes x23).bind fun r29 =>
    (if r29.2.1 then
      (room (([] : List Int).length + ([w64 (p1 + r29.1)]).length) 8).bind fun u67 =>
      some (([] : List Int) ++ [w64 (p1 + r29.1)])
    else
      some ([] : List Int)).bind fun o53 =>
    (if r29.2.2 then
      (room (o53.length + ([w64 (p1 + 1)]).length) 8).bind fun u112 =>
      some (o53 ++ [w64 (p1 + 1)])
    else
      some o53).bind fun o98 =>
    (slices_Sort_int_int o98).bind fun r128 =>
    (slices_Compact_int_int r128).bind fun r140 =>
    some (r140, 0)
def tappetlaw11_EngineEnds_l1 (p0 : tappetlaw11_Run) (r155 : Int × Int) (again : ((List api_Res) × Int) → Option (List api_Res)) (s476 : (List api_Res) × Int) : Option (List api_Res) :=
  if decide (s476.2 < r155.1) then
    (if decide (s476.2 < ((p0.Res).length : Int)) then
      (idx p0.Res s476.2).bind fun x513 =>
      some x513
    else
      some (api_Res.mk 0 false (wu64 ((wu64 s476.2) * 977)) false 0 0)).bind fun o503 =>
    (room (s476.1.length + ([o503]).length) 48).bind fun u531 =>
    again ((s476.1 ++ [o503]), w64 (s476.2 + 1))
  else
    some s476.1
def tappetlaw11_EngineEnds_l3 (p0 : tappetlaw11_Run) (r615 : (List api_Act) × Int) (i3543 : Nat) (i3854 : Nat) (again : Bool → Option Bool) (s3853 : Bool) : Option Bool :=
  if s3853 then
    again true
  else
    (idx p0.M.Maps (i3854 : Int)).bind fun x3862 =>
    (idx r615.1 (i3543 : Int)).bind fun x3868 =>
    again (x3862 == x3868.Item.Map)
def tappetlaw11_EngineEnds_l4 (r615 : (List api_Act) × Int) (i3543 : Nat) (r3917 : (List Int) × Int) (again : (Bool × Int) → Option Bool) (s4087 : Bool × Int) : Option Bool :=
  if (decide (s4087.2 < ((r3917.1).length : Int)) && (!s4087.1)) then
    (idx r3917.1 s4087.2).bind fun x4106 =>
    (idx r615.1 (w64 ((i3543 : Int) + 1))).bind fun x4112 =>
    again ((x4106 == x4112.Pc), w64 (s4087.2 + 1))
  else
    some s4087.1
def tappetlaw11_EngineEnds_l2 (fu : Nat) (p0 : tappetlaw11_Run) (r615 : (List api_Act) × Int) (i3543 : Nat) (again : Unit → Option (Unit ⊕ Bool)) (s3542 : Unit) : Option (Unit ⊕ Bool) :=
  (idx r615.1 (i3543 : Int)).bind fun x3552 =>
  ((if (x3552.Kind == 2) then
    (forN (tappetlaw11_EngineEnds_l3 p0 r615 i3543) (fun (s3853 : Bool) => s3853) (p0.M.Maps).length 0 false).bind fun o3801 =>
    (if (!o3801) then
      some true
    else
      if decide (x3552.Item.Op < 0) then
        some true
      else
        some (decide (x3552.Item.Op ≥ 5))).bind fun o3884 =>
    if o3884 then
      some (.inr false)
    else
      some (.inl ())
  else
    some (.inl ())) : Option (Unit ⊕ Bool)).bind fun o3726 => match o3726 with
    | .inl t3728 =>
      (flow_Next p0.M.Code x3552.Pc).bind fun r3917 =>
      if ((r3917.2 != 0) || ((((r3917.1).length : Int) == 0) && ((i3543 : Int) != (w64 (((r615.1).length : Int) - 1))))) then
        some (.inr false)
      else
        (loop (tappetlaw11_EngineEnds_l4 r615 i3543 r3917) fu (((i3543 : Int) == (w64 (((r615.1).length : Int) - 1))), 0)).bind fun o4022 =>
        if (!o4022) then
          some (.inr false)
        else
          again ()
    | .inr r => some (.inr r)
def tappetlaw11_EngineEnds (fu : Nat) (p0 : tappetlaw11_Run) : Option Bool :=
  (tappetlaw11_awake fu).bind fun r18 =>
  if (!r18) then
    some false
  else
    (tappetlaw11_copied p0.M).bind fun r57 =>
    (judge_Judge fu r57).bind fun r87 =>
    (tappetlaw11_copied p0.M).bind fun r125 =>
    (flow_Cost r125.Code).bind fun r155 =>
    (loop (tappetlaw11_EngineEnds_l1 p0 r155) fu (([] : List api_Res), 0)).bind fun o348 =>
    (tappetlaw11_copied p0.M).bind fun r585 =>
    (engine_Trace fu r585 p0.E o348).bind fun r615 =>
    if (r87.2 != 0) then
      some ((r615.2 == r87.2) && (((r615.1).length : Int) == 0))
    else
      (if (r615.2 != 0) then
        some true
      else
        if decide (((r615.1).length : Int) < 1) then
          some true
        else
          if decide (((r615.1).length : Int) > r155.1) then
            some true
          else
            (idx r615.1 (w64 (((r615.1).length : Int) - 1))).bind fun x646 =>
            if (x646.Kind != 4) then
              some true
            else
              (idx r615.1 0).bind fun x653 =>
              some (x653.Pc != 0)).bind fun o641 =>
      if o641 then
        some false
      else
        (forN (tappetlaw11_EngineEnds_l2 fu p0 r615) (fun (s3542 : Unit) => (.inl ())) (r615.1).length 0 ()).bind fun o2388 => match o2388 with
          | .inl t2390 =>
            some true
          | .inr r => some r
end Go.Proofs.YtgmmfjpmahcocaaGreatDoor
