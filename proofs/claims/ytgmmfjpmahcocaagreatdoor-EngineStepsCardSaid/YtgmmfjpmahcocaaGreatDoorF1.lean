/- Texts F1 of this proof. -/
import Derived.Test.YtgmmfjpmahcocaaGreatDoorReg
import Derived.Test.YtgmmfjpmahcocaaGreatDoorMem
set_option linter.unusedSimpArgs false
namespace Go.Proofs.YtgmmfjpmahcocaaGreatDoor
open Go.Sx
set_option linter.unusedVariables false
structure api_Inst where
 Op : Int
 D : Int
 A : Int
 B : Int
 Imm : Int
def enc_api_Inst (x : api_Inst) : List Value := [.int .i64 x.Op, .int .i64 x.D, .int .i64 x.A, .int .i64 x.B, .int .i64 x.Imm]
structure api_Module where
 Maps : List Int
 Code : List api_Inst
structure scratch_Words where
 words : Nat -> Int
structure scratch_Counters where
 counts : Nat -> Int
structure scratch_Scratch where
 Words : scratch_Words
 Counters : scratch_Counters
def enc_scratch_Scratch (x : scratch_Scratch) : List Value := [.int .u64 (x.Words.words 0), .int .u64 (x.Words.words 1), .int .u64 (x.Words.words 2), .int .u64 (x.Words.words 3), .int .u64 (x.Words.words 4), .int .u64 (x.Words.words 5), .int .u64 (x.Words.words 6), .int .u64 (x.Words.words 7), .int .u64 (x.Words.words 8), .int .u64 (x.Words.words 9), .int .u64 (x.Words.words 10), .int .u64 (x.Words.words 11), .int .u64 (x.Words.words 12), .int .u64 (x.Words.words 13), .int .u64 (x.Words.words 14), .int .u64 (x.Words.words 15), .int .u64 (x.Counters.counts 0), .int .u64 (x.Counters.counts 1), .int .u64 (x.Counters.counts 2), .int .u64 (x.Counters.counts 3), .int .u64 (x.Counters.counts 4), .int .u64 (x.Counters.counts 5), .int .u64 (x.Counters.counts 6), .int .u64 (x.Counters.counts 7), .int .u64 (x.Counters.counts 8), .int .u64 (x.Counters.counts 9), .int .u64 (x.Counters.counts 10), .int .u64 (x.Counters.counts 11), .int .u64 (x.Counters.counts 12), .int .u64 (x.Counters.counts 13), .int .u64 (x.Counters.counts 14), .int .u64 (x.Counters.counts 15)]
def R_t59 : Rp scratch_Scratch := flatP (enc_scratch_Scratch) 32 (fun _ => rfl)
def R_t47 : Rp scratch_Scratch := ptrP 59 R_t59
structure ops_form where
 name : ByteArray
 fields : ByteArray
def enc_ops_form (x : ops_form) : List Value := [.string x.name, .string x.fields]
def tab_g0 : List ops_form := [(ops_form.mk (⟨[115, 101, 116].toArray⟩) (⟨[100, 115].toArray⟩)),
 (ops_form.mk (⟨[97, 100, 100].toArray⟩) (⟨[100, 97, 115].toArray⟩)),
 (ops_form.mk (⟨[115, 117, 98].toArray⟩) (⟨[100, 97, 115].toArray⟩)),
 (ops_form.mk (⟨[109, 117, 108].toArray⟩) (⟨[100, 97, 115].toArray⟩)),
 (ops_form.mk (⟨[100, 105, 118].toArray⟩) (⟨[100, 97, 115].toArray⟩)),
 (ops_form.mk (⟨[114, 101, 109].toArray⟩) (⟨[100, 97, 115].toArray⟩)),
 (ops_form.mk (⟨[97, 110, 100].toArray⟩) (⟨[100, 97, 115].toArray⟩)),
 (ops_form.mk (⟨[111, 114].toArray⟩) (⟨[100, 97, 115].toArray⟩)),
 (ops_form.mk (⟨[120, 111, 114].toArray⟩) (⟨[100, 97, 115].toArray⟩)),
 (ops_form.mk (⟨[115, 104, 108].toArray⟩) (⟨[100, 97, 115].toArray⟩)),
 (ops_form.mk (⟨[115, 104, 114].toArray⟩) (⟨[100, 97, 115].toArray⟩)),
 (ops_form.mk (⟨[108, 111, 97, 100].toArray⟩) (⟨[100, 115].toArray⟩)),
 (ops_form.mk (⟨[115, 116, 111, 114, 101].toArray⟩) (⟨[97, 115].toArray⟩)),
 (ops_form.mk (⟨[102, 105, 101, 108, 100].toArray⟩) (⟨[100, 102].toArray⟩)),
 (ops_form.mk (⟨[109, 97, 112].toArray⟩) (⟨[100, 109].toArray⟩)),
 (ops_form.mk (⟨[106, 117, 109, 112].toArray⟩) (⟨[106].toArray⟩)),
 (ops_form.mk (⟨[106, 101, 113].toArray⟩) (⟨[106, 97, 115].toArray⟩)),
 (ops_form.mk (⟨[106, 110, 101].toArray⟩) (⟨[106, 97, 115].toArray⟩)),
 (ops_form.mk (⟨[106, 108, 116].toArray⟩) (⟨[106, 97, 115].toArray⟩)),
 (ops_form.mk (⟨[106, 103, 101].toArray⟩) (⟨[106, 97, 115].toArray⟩)),
 (ops_form.mk (⟨[108, 111, 111, 112].toArray⟩) (⟨[98, 97, 110].toArray⟩)),
 (ops_form.mk (⟨[99, 97, 108, 108].toArray⟩) (⟨[104].toArray⟩)),
 (ops_form.mk (⟨[101, 120, 105, 116].toArray⟩) (⟨[97].toArray⟩))]
structure api_Loop where
 Head : Int
 At : Int
 Bound : Int
def enc_api_Loop (x : api_Loop) : List Value := [.int .i64 x.Head, .int .i64 x.At, .int .i64 x.Bound]
structure api_Span where
 Lo : Int
 Hi : Int
def enc_api_Span (x : api_Span) : List Value := [.int .u64 x.Lo, .int .u64 x.Hi]
structure api_Type where
 Kind : Int
 Span : api_Span
 Map : Int
def enc_api_Type (x : api_Type) : List Value := [.int .i64 x.Kind, .int .u64 x.Span.Lo, .int .u64 x.Span.Hi, .int .i64 x.Map]
structure judge_judge where
 Module : api_Module
 came : List (Nat -> api_Type)
 any : List Bool
 loops : List api_Loop
def R_t144 : Rp (List (Nat -> api_Type)) := rowP 158 (arrC (enc_api_Type) 8) 32 (fun _ => rfl) (by decide)
def R_t145 : Rp (List Bool) := rowP 4 (encBool) 1 (fun _ => rfl) (by decide)
def R_t146 : Rp (List api_Loop) := rowP 164 (enc_api_Loop) 3 (fun _ => rfl) (by decide)
def R_t148 (wb : World) (Sb : List Nat) : Rp judge_judge := structP (fun (x : judge_judge) vs => [vs.getD 0 undef, vs.getD 1 undef, vs.getD 2 undef, vs.getD 3 undef, vs.getD 4 undef]) 5 (fun _ _ => rfl) (fun x => (x.Module.Maps, (x.Module.Code, (x.came, (x.any, x.loops))))) (pairP (borP wb Sb (encInt .i64) 1) (pairP (borP wb Sb (enc_api_Inst) 5) (pairP R_t144 (pairP R_t145 R_t146))))
def R_t116 (wb : World) (Sb : List Nat) : Rp judge_judge := ptrP 148 (R_t148 wb Sb)
structure sigs_sig where
 name : ByteArray
 wants : ByteArray
 most : Int
 asks : Int
 isAsked : Bool
def enc_sigs_sig (x : sigs_sig) : List Value := [.string x.name, .string x.wants, .int .u64 x.most, .int .i64 x.asks, .bool x.isAsked]
def tab_g1 : List sigs_sig := [(sigs_sig.mk (⟨[103, 101, 116].toArray⟩) (⟨[104, 110].toArray⟩) 18446744073709551615 0 true),
 (sigs_sig.mk (⟨[104, 97, 115].toArray⟩) (⟨[104, 110].toArray⟩) 1 1 true),
 (sigs_sig.mk (⟨[112, 117, 116].toArray⟩) (⟨[104, 110, 110].toArray⟩) 1 2 true),
 (sigs_sig.mk (⟨[100, 101, 108].toArray⟩) (⟨[104, 110].toArray⟩) 1 3 true),
 (sigs_sig.mk (⟨[97, 100, 100].toArray⟩) (⟨[104, 110, 110].toArray⟩) 18446744073709551615 4 true),
 (sigs_sig.mk (⟨[109, 97, 114, 107].toArray⟩) (⟨[115].toArray⟩) 18446744073709551615 0 false),
 (sigs_sig.mk (⟨[110, 111, 116, 101].toArray⟩) (⟨[110].toArray⟩) 0 0 false)]
structure api_Event where
 A : Int
 B : Int
def enc_api_Event (x : api_Event) : List Value := [.int .u64 x.A, .int .u64 x.B]
structure engine_Machine where
 Event : api_Event
 module : api_Module
 scratch : scratch_Scratch
 regs : Nat -> Int
 turns : Nat -> Int
 at_ : Int
 steps : Int
 state : Int
def R_t22 : Rp (List Int) := rowP 3 (encInt .i64) 1 (fun _ => rfl) (by decide)
def R_t23 : Rp (List api_Inst) := rowP 43 (enc_api_Inst) 5 (fun _ => rfl) (by decide)
def R_t96 : Rp engine_Machine := structP (fun (x : engine_Machine) vs => [.int .u64 x.Event.A, .int .u64 x.Event.B, vs.getD 0 undef, vs.getD 1 undef, vs.getD 2 undef, .int .u64 (x.regs 0), .int .u64 (x.regs 1), .int .u64 (x.regs 2), .int .u64 (x.regs 3), .int .u64 (x.regs 4), .int .u64 (x.regs 5), .int .u64 (x.regs 6), .int .u64 (x.regs 7), .int .i64 (x.turns 0), .int .i64 (x.turns 1), .int .i64 (x.turns 2), .int .i64 (x.turns 3), .int .i64 (x.turns 4), .int .i64 (x.turns 5), .int .i64 (x.turns 6), .int .i64 (x.turns 7), .int .i64 (x.turns 8), .int .i64 (x.turns 9), .int .i64 (x.turns 10), .int .i64 (x.turns 11), .int .i64 (x.turns 12), .int .i64 (x.turns 13), .int .i64 (x.turns 14), .int .i64 (x.turns 15), .int .i64 (x.turns 16), .int .i64 (x.turns 17), .int .i64 (x.turns 18), .int .i64 (x.turns 19), .int .i64 (x.turns 20), .int .i64 (x.turns 21), .int .i64 (x.turns 22), .int .i64 (x.turns 23), .int .i64 (x.turns 24), .int .i64 (x.turns 25), .int .i64 (x.turns 26), .int .i64 (x.turns 27), .int .i64 (x.turns 28), .int .i64 (x.turns 29), .int .i64 (x.turns 30), .int .i64 (x.turns 31), .int .i64 (x.turns 32), .int .i64 (x.turns 33), .int .i64 (x.turns 34), .int .i64 (x.turns 35), .int .i64 (x.turns 36), .int .i64 (x.turns 37), .int .i64 (x.turns 38), .int .i64 (x.turns 39), .int .i64 (x.turns 40), .int .i64 (x.turns 41), .int .i64 (x.turns 42), .int .i64 (x.turns 43), .int .i64 (x.turns 44), .int .i64 (x.turns 45), .int .i64 (x.turns 46), .int .i64 (x.turns 47), .int .i64 (x.turns 48), .int .i64 (x.turns 49), .int .i64 (x.turns 50), .int .i64 (x.turns 51), .int .i64 (x.turns 52), .int .i64 (x.turns 53), .int .i64 (x.turns 54), .int .i64 (x.turns 55), .int .i64 (x.turns 56), .int .i64 (x.turns 57), .int .i64 (x.turns 58), .int .i64 (x.turns 59), .int .i64 (x.turns 60), .int .i64 (x.turns 61), .int .i64 (x.turns 62), .int .i64 (x.turns 63), .int .i64 x.at_, .int .i64 x.steps, .int .i64 x.state]) 80 (fun _ _ => rfl) (fun x => (x.module.Maps, (x.module.Code, x.scratch))) (pairP R_t22 (pairP R_t23 R_t47))
def R_t49 : Rp engine_Machine := ptrP 96 R_t96
structure api_Item where
 Map : Int
 Op : Int
 Key : Int
 Val : Int
structure api_Act where
 Kind : Int
 Pc : Int
 Item : api_Item
 Val : Int
def enc_api_Act (x : api_Act) : List Value := [.int .i64 x.Kind, .int .i64 x.Pc, .int .i64 x.Item.Map, .int .i64 x.Item.Op, .int .u64 x.Item.Key, .int .u64 x.Item.Val, .int .u64 x.Val]
structure api_Res where
 E : Int
 Found : Bool
 Val : Int
 Out : Bool
 OutKey : Int
 OutVal : Int
def enc_api_Res (x : api_Res) : List Value := [.int .i64 x.E, .bool x.Found, .int .u64 x.Val, .bool x.Out, .int .u64 x.OutKey, .int .u64 x.OutVal]
structure tappetref10_Ask where
 Kind : Int
 At : Int
 N : Int
def enc_tappetref10_Ask (x : tappetref10_Ask) : List Value := [.int .i64 x.Kind, .int .i64 x.At, .int .u64 x.N]
structure tappetref10_Book where
 Asks : List tappetref10_Ask
def R_t62 : Rp (List tappetref10_Ask) := rowP 100 (enc_tappetref10_Ask) 3 (fun _ => rfl) (by decide)
def R_t64 : Rp tappetref10_Book := structP (fun (x : tappetref10_Book) vs => [vs.getD 0 undef]) 1 (fun _ _ => rfl) (fun x => x.Asks) (R_t62)
def R_t61 : Rp tappetref10_Book := ptrP 64 R_t64
def R_t126 : Rp (List api_Type) := rowP 156 (enc_api_Type) 4 (fun _ => rfl) (by decide)
structure tappetref11_State where
 M : api_Module
 E : api_Event
 S : tappetref10_Book
 Regs : List Int
 Turns : List Int
 At : Int
 Steps : Int
 Mode : Int
def R_t67 : Rp (List Int) := rowP 26 (encInt .u64) 1 (fun _ => rfl) (by decide)
def R_t71 : Rp (List Int) := rowP 2 (encInt .i64) 1 (fun _ => rfl) (by decide)
def R_t73 (wb : World) (Sb : List Nat) : Rp tappetref11_State := structP (fun (x : tappetref11_State) vs => [vs.getD 0 undef, vs.getD 1 undef, .int .u64 x.E.A, .int .u64 x.E.B, vs.getD 2 undef, vs.getD 3 undef, vs.getD 4 undef, .int .i64 x.At, .int .i64 x.Steps, .int .i64 x.Mode]) 10 (fun _ _ => rfl) (fun x => (x.M.Maps, (x.M.Code, (x.S, (x.Regs, x.Turns))))) (pairP (borP wb Sb (encInt .i64) 1) (pairP (borP wb Sb (enc_api_Inst) 5) (pairP R_t61 (pairP R_t67 R_t71))))
def R_t68 (wb : World) (Sb : List Nat) : Rp tappetref11_State := ptrP 73 (R_t73 wb Sb)
structure tappetlaw11_Run where
 M : api_Module
 E : api_Event
 Res : List api_Res
 Odd : Int
def tappetlaw11_asks  : Option api_Module :=
 some (api_Module.mk ([2] : List Int) ([(api_Inst.mk 13 2 0 0 0), (api_Inst.mk 14 1 0 0 0), (api_Inst.mk 21 0 0 0 0), (api_Inst.mk 22 0 0 0 0)]))
def scratch_New  : Option scratch_Scratch :=
 some (scratch_Scratch.mk (scratch_Words.mk (fun _ => 0)) (scratch_Counters.mk (fun _ => 0)))
def slices_Index_int_int_l1 (p0 : List Int) (p1 : Int) (i87 : Nat) (again : Unit -> Option (Unit ⊕ Int)) (s86 : Unit) : Option (Unit ⊕ Int) :=
 (idx p0 (i87 : Int)).bind fun x96 =>
 if (p1 == x96) then
  some (.inr (i87 : Int))
 else
  again ()
def slices_Index_int_int (p0 : List Int) (p1 : Int) : Option Int :=
 (forN (slices_Index_int_int_l1 p0 p1) (fun (s86 : Unit) => (.inl ())) (p0).length 0 ()).bind fun o52 => match o52 with
  | .inl t54 =>
   some (-1)
  | .inr r => some r
def slices_Contains_int_int (p0 : List Int) (p1 : Int) : Option Bool :=
 (slices_Index_int_int p0 p1).bind fun r8 =>
 some (decide (r8 >= 0))
def judge_good_l1 (p0 : List Int) (i187 : Nat) (again : Unit -> Option (Unit ⊕ Bool)) (s186 : Unit) : Option (Unit ⊕ Bool) :=
 (idx p0 (i187 : Int)).bind fun x196 =>
 (if decide (x196 < 0) then
  some true
 else
  if decide (x196 >= 4) then
   some true
  else
   (cut p0 0 (i187 : Int)).bind fun ys215 =>
   (slices_Contains_int_int ys215 x196).bind fun r218 =>
   some r218).bind fun o211 =>
 if o211 then
  some (.inr false)
 else
  again ()
def judge_good (p0 : List Int) : Option Bool :=
 (forN (judge_good_l1 p0) (fun (s186 : Unit) => (.inl ())) (p0).length 0 ()).bind fun o112 => match o112 with
  | .inl t114 =>
   some (decide (((p0).length : Int) <= 4))
  | .inr r => some r
def ops_of (p0 : Int) : Option (ops_form × Bool) :=
 if (decide (p0 < 0) || decide (p0 >= 23)) then
  some ((ops_form.mk ByteArray.empty ByteArray.empty), false)
 else
  (idx tab_g0 p0).bind fun x12 =>
  some (x12, true)
def ops_register (p0 : Int) : Option Bool :=
 some (decide (p0 >= 0) && decide (p0 < 8))
def ops_within (p0 : Int) (p1 : Int) (p2 : Int) : Option Bool :=
 some (decide (p0 >= p1) && decide (p0 <= p2))
def ops_right_l1 (p0 : api_Inst) (r12 : ops_form × Bool) (i612 : Nat) (again : (Bool × api_Inst) -> Option (Bool × api_Inst)) (s611 : Bool × api_Inst) : Option (Bool × api_Inst) :=
 (sidx r12.1.fields (i612 : Int)).bind fun c619 =>
 if (c619 == 100) then
  if s611.1 then
   (ops_register p0.D).bind fun r623 =>
   again (r623, (api_Inst.mk s611.2.Op 0 s611.2.A s611.2.B s611.2.Imm))
  else
   again (false, (api_Inst.mk s611.2.Op 0 s611.2.A s611.2.B s611.2.Imm))
 else
  if (c619 == 97) then
   if s611.1 then
    (ops_register p0.A).bind fun r631 =>
    again (r631, (api_Inst.mk s611.2.Op s611.2.D 0 s611.2.B s611.2.Imm))
   else
    again (false, (api_Inst.mk s611.2.Op s611.2.D 0 s611.2.B s611.2.Imm))
  else
   if (c619 == 115) then
    if (p0.B == 8) then
     again (s611.1, (api_Inst.mk s611.2.Op s611.2.D s611.2.A 0 0))
    else
     if s611.1 then
      (ops_register p0.B).bind fun r644 =>
      again (r644, (api_Inst.mk s611.2.Op s611.2.D s611.2.A 0 s611.2.Imm))
     else
      again (false, (api_Inst.mk s611.2.Op s611.2.D s611.2.A 0 s611.2.Imm))
   else
    if (c619 == 102) then
     if s611.1 then
      (ops_within p0.Imm 0 1).bind fun r650 =>
      again (r650, (api_Inst.mk s611.2.Op s611.2.D s611.2.A s611.2.B 0))
     else
      again (false, (api_Inst.mk s611.2.Op s611.2.D s611.2.A s611.2.B 0))
    else
     if (c619 == 109) then
      if s611.1 then
       (ops_within p0.Imm 0 3).bind fun r658 =>
       again (r658, (api_Inst.mk s611.2.Op s611.2.D s611.2.A s611.2.B 0))
      else
       again (false, (api_Inst.mk s611.2.Op s611.2.D s611.2.A s611.2.B 0))
     else
      if (c619 == 104) then
       if s611.1 then
        (ops_within p0.Imm 0 6).bind fun r666 =>
        again (r666, (api_Inst.mk s611.2.Op s611.2.D s611.2.A s611.2.B 0))
       else
        again (false, (api_Inst.mk s611.2.Op s611.2.D s611.2.A s611.2.B 0))
      else
       if (c619 == 110) then
        if s611.1 then
         (ops_within p0.Imm 1 255).bind fun r674 =>
         again (r674, (api_Inst.mk s611.2.Op s611.2.D s611.2.A s611.2.B 0))
        else
         again (false, (api_Inst.mk s611.2.Op s611.2.D s611.2.A s611.2.B 0))
       else
        if (c619 == 106) then
         if s611.1 then
          (ops_within p0.D 0 63).bind fun r682 =>
          again (r682, (api_Inst.mk s611.2.Op 0 s611.2.A s611.2.B s611.2.Imm))
         else
          again (false, (api_Inst.mk s611.2.Op 0 s611.2.A s611.2.B s611.2.Imm))
        else
         if (c619 == 98) then
          if s611.1 then
           (ops_within p0.D 1 63).bind fun r690 =>
           again (r690, (api_Inst.mk s611.2.Op 0 s611.2.A s611.2.B s611.2.Imm))
          else
           again (false, (api_Inst.mk s611.2.Op 0 s611.2.A s611.2.B s611.2.Imm))
         else
          again (s611.1, s611.2)
def ops_right (p0 : api_Inst) : Option Bool :=
 (ops_of p0.Op).bind fun r12 =>
 if (!r12.2) then
  some false
 else
  ((room r12.1.fields.size 1).bind fun u614 =>
  forN (ops_right_l1 p0 r12) (fun (s611 : Bool × api_Inst) => (s611.1, s611.2)) r12.1.fields.size 0 (r12.2, (api_Inst.mk 0 p0.D p0.A p0.B p0.Imm))).bind fun o366 =>
  (if o366.1 then
   some ((o366.2.Op == 0) && ((o366.2.D == 0) && ((o366.2.A == 0) && ((o366.2.B == 0) && ((o366.2.Imm == 0) && true)))))
  else
   some false).bind fun o697 =>
  some o697
def ops_form_uses_l1 (p0 : ops_form) (p1 : Int) (i50 : Nat) (again : Unit -> Option (Unit ⊕ Bool)) (s49 : Unit) : Option (Unit ⊕ Bool) :=
 (sidx p0.fields (i50 : Int)).bind fun c57 =>
 if (c57 == p1) then
  some (.inr true)
 else
  again ()
def ops_form_uses (p0 : ops_form) (p1 : Int) : Option Bool :=
 ((room p0.fields.size 1).bind fun u52 =>
 forN (ops_form_uses_l1 p0 p1) (fun (s49 : Unit) => (.inl ())) p0.fields.size 0 ()).bind fun o31 => match o31 with
  | .inl t33 =>
   some false
  | .inr r => some r
def ops_Goes (p0 : api_Inst) : Option (Int × Bool × Bool) :=
 (ops_right p0).bind fun r9 =>
 if (!r9) then
  some (0, false, false)
 else
  (ops_of p0.Op).bind fun r21 =>
  (ops_form_uses r21.1 106).bind fun r32 =>
  if r32 then
   some (w64 (p0.D + 1), true, (p0.Op != 15))
  else
   (ops_form_uses r21.1 98).bind fun r45 =>
   if r45 then
    some (w64 (0 - p0.D), true, true)
   else
    some (0, false, (p0.Op != 22))
def ops_Right_l1 (p0 : List api_Inst) (i158 : Nat) (again : Unit -> Option (Unit ⊕ Bool)) (s157 : Unit) : Option (Unit ⊕ Bool) :=
 (idx p0 (i158 : Int)).bind fun x170 =>
 (ops_right x170).bind fun r183 =>
 if (!r183) then
  some (.inr false)
 else
  again ()
def ops_Right (p0 : List api_Inst) : Option Bool :=
 (forN (ops_Right_l1 p0) (fun (s157 : Unit) => (.inl ())) (p0).length 0 ()).bind fun o95 => match o95 with
  | .inl t97 =>
   some true
  | .inr r => some r
def flow_places_l1 (p0 : List api_Inst) (i242 : Nat) (again : Unit -> Option (Unit ⊕ (Int × Int))) (s241 : Unit) : Option (Unit ⊕ (Int × Int)) :=
 (idx p0 (i242 : Int)).bind fun x254 =>
 (ops_Goes x254).bind fun r267 =>
 (ops_Right ([x254])).bind fun r279 =>
 if (!r279) then
  some (.inr ((i242 : Int), 12))
 else
  if (r267.2.1 && (decide ((w64 ((i242 : Int) + r267.1)) < 0) || decide ((w64 ((i242 : Int) + r267.1)) >= ((p0).length : Int)))) then
   some (.inr ((i242 : Int), 30))
  else
   if (r267.2.2 && ((i242 : Int) == (w64 (((p0).length : Int) - 1)))) then
    some (.inr ((i242 : Int), 36))
   else
    again ()
def flow_places (p0 : List api_Inst) : Option (Int × Int) :=
 (forN (flow_places_l1 p0) (fun (s241 : Unit) => (.inl ())) (p0).length 0 ()).bind fun o145 => match o145 with
  | .inl t147 =>
   some (0, 0)
  | .inr r => some r
def flow_loops_l1 (p0 : List api_Inst) (i232 : Nat) (again : (List api_Loop) -> Option (List api_Loop)) (s230 : (List api_Loop)) : Option (List api_Loop) :=
 (idx p0 (i232 : Int)).bind fun x247 =>
 if (x247.Op == 20) then
  (room (s230.length + ([(api_Loop.mk (w64 ((i232 : Int) - x247.D)) (i232 : Int) x247.Imm)]).length) 24).bind fun u268 =>
  again (s230 ++ [(api_Loop.mk (w64 ((i232 : Int) - x247.D)) (i232 : Int) x247.Imm)])
 else
  again s230
def flow_loops (p0 : List api_Inst) : Option (List api_Loop) :=
 (forN (flow_loops_l1 p0) (fun (s230 : (List api_Loop)) => s230) (p0).length 0 ([] : List api_Loop)).bind fun o140 =>
 some o140
def flow_in (p0 : api_Loop) (p1 : Int) : Option Bool :=
 some (decide (p1 >= p0.Head) && decide (p1 <= p0.At))
def flow_nested_l2 (x985 : api_Loop) (ys996 : List api_Loop) (i1136 : Nat) (again : Unit -> Option (Unit ⊕ (Int × Int))) (s1135 : Unit) : Option (Unit ⊕ (Int × Int)) :=
 (idx ys996 (i1136 : Int)).bind fun x1150 =>
 if (decide (x1150.At >= x985.Head) && decide (x1150.Head < x985.Head)) then
  some (.inr (x985.At, 31))
 else
  again ()
def flow_nested_l1 (r12 : (List api_Loop)) (i973 : Nat) (again : Unit -> Option (Unit ⊕ (Int × Int))) (s972 : Unit) : Option (Unit ⊕ (Int × Int)) :=
 (idx r12 (i973 : Int)).bind fun x985 =>
 (cut r12 0 (i973 : Int)).bind fun ys996 =>
 (forN (flow_nested_l2 x985 ys996) (fun (s1135 : Unit) => (.inl ())) (ys996).length 0 ()).bind fun o1079 => match o1079 with
  | .inl t1081 =>
   again ()
  | .inr r => some (.inr r)
def flow_nested_l4 (r12 : (List api_Loop)) (i2766 : Nat) (r2791 : Int × Bool × Bool) (i3038 : Nat) (again : Unit -> Option (Unit ⊕ (Int × Int))) (s3037 : Unit) : Option (Unit ⊕ (Int × Int)) :=
 (idx r12 (i3038 : Int)).bind fun x3050 =>
 (if r2791.2.1 then
  if decide (r2791.1 > 0) then
   (flow_in x3050 (i2766 : Int)).bind fun r3075 =>
   if (!r3075) then
    (flow_in x3050 (w64 ((i2766 : Int) + r2791.1))).bind fun r3080 =>
    if r3080 then
     some ((w64 ((i2766 : Int) + r2791.1)) != x3050.Head)
    else
     some false
   else
    some false
  else
   some false
 else
  some false).bind fun o3071 =>
 if o3071 then
  some (.inr ((i2766 : Int), 31))
 else
  again ()
def flow_nested_l3 (p0 : List api_Inst) (r12 : (List api_Loop)) (i2766 : Nat) (again : Unit -> Option (Unit ⊕ (Int × Int))) (s2765 : Unit) : Option (Unit ⊕ (Int × Int)) :=
 (idx p0 (i2766 : Int)).bind fun x2778 =>
 (ops_Goes x2778).bind fun r2791 =>
 (forN (flow_nested_l4 r12 i2766 r2791) (fun (s3037 : Unit) => (.inl ())) (r12).length 0 ()).bind fun o2939 => match o2939 with
  | .inl t2941 =>
   again ()
  | .inr r => some (.inr r)
def flow_nested (p0 : List api_Inst) : Option (Int × Int) :=
 (flow_loops p0).bind fun r12 =>
 (forN (flow_nested_l1 r12) (fun (s972 : Unit) => (.inl ())) (r12).length 0 ()).bind fun o590 => match o590 with
  | .inl t592 =>
   (forN (flow_nested_l3 p0 r12) (fun (s2765 : Unit) => (.inl ())) (p0).length 0 ()).bind fun o2123 => match o2123 with
    | .inl t2125 =>
     some (0, 0)
    | .inr r => some r
  | .inr r => some r
def flow_cost_l2 (r12 : (List api_Loop)) (i948 : Nat) (i1103 : Nat) (again : Int -> Option Int) (s1102 : Int) : Option Int :=
 (idx r12 (i1103 : Int)).bind fun x1115 =>
 (flow_in x1115 (i948 : Int)).bind fun r1128 =>
 if r1128 then
  again (imin (w64 (s1102 * (w64 (x1115.Bound + 1)))) 257)
 else
  again s1102
def flow_cost_l1 (r12 : (List api_Loop)) (i948 : Nat) (again : Int -> Option Int) (s947 : Int) : Option Int :=
 (forN (flow_cost_l2 r12 i948) (fun (s1102 : Int) => s1102) (r12).length 0 1).bind fun o1041 =>
 again (imin (w64 (s947 + o1041)) 257)
def flow_cost (p0 : List api_Inst) : Option Int :=
 (flow_loops p0).bind fun r12 =>
 (forN (flow_cost_l1 r12) (fun (s947 : Int) => s947) (p0).length 0 0).bind fun o576 =>
 some o576
def flow_Check (p0 : List api_Inst) : Option (Int × Int) :=
 if (((p0).length : Int) == 0) then
  some (0, 10)
 else
  if decide (((p0).length : Int) > 64) then
   some (0, 11)
  else
   (flow_places p0).bind fun r10 =>
   if (r10.2 != 0) then
    some (r10.1, r10.2)
   else
    (flow_nested p0).bind fun r19 =>
    if (r19.2 != 0) then
     some (r19.1, r19.2)
    else
     (flow_cost p0).bind fun r28 =>
     if decide (r28 > 256) then
      some (0, 32)
     else
      some (0, 0)
def flow_Loops (p0 : List api_Inst) : Option ((List api_Loop) × Int) :=
 (flow_Check p0).bind fun r8 =>
 if (r8.2 != 0) then
  some (([] : List api_Loop), r8.2)
 else
  (flow_loops p0).bind fun r21 =>
  some (r21, 0)
def ops_Writes (p0 : api_Inst) : Option (Int × Bool) :=
 (ops_right p0).bind fun r9 =>
 if (!r9) then
  some (0, false)
 else
  (ops_of p0.Op).bind fun r21 =>
  (ops_form_uses r21.1 100).bind fun r32 =>
  if r32 then
   some (p0.D, true)
  else
   some (0, (p0.Op == 21))
def span_Full  : Option api_Span :=
 some (api_Span.mk 0 18446744073709551615)
def judge_number (p0 : api_Span) : Option api_Type :=
 some (api_Type.mk 1 p0 0)
def judge_judge_widen_l2 (p1 : Int) (ys3072 : List api_Inst) (i3540 : Nat) (again : (List (Nat -> api_Type)) -> Option (List (Nat -> api_Type))) (s3538 : (List (Nat -> api_Type))) : Option (List (Nat -> api_Type)) :=
 (idx ys3072 (i3540 : Int)).bind fun x3555 =>
 (ops_Writes x3555).bind fun r3568 =>
 if (!r3568.2) then
  again s3538
 else
  (idx s3538 p1).bind fun x3582 =>
  (ain 8 r3568.1).bind fun i3588 =>
  if ((x3582 i3588).Kind == 1) then
   span_Full.bind fun r3612 =>
   (judge_number r3612).bind fun r3616 =>
   again (s3538.set (Int.toNat p1) (aset x3582 i3588 r3616))
  else
   again (s3538.set (Int.toNat p1) (aset x3582 i3588 (api_Type.mk 0 (api_Span.mk 0 0) 0)))
def judge_judge_widen_l1 (p0 : judge_judge) (p1 : Int) (i3039 : Nat) (again : (List (Nat -> api_Type)) -> Option judge_judge) (s3037 : (List (Nat -> api_Type))) : Option judge_judge :=
 (idx p0.loops (i3039 : Int)).bind fun x3054 =>
 if (x3054.Head != p1) then
  again s3037
 else
  (cut p0.Module.Code x3054.Head (w64 (x3054.At + 1))).bind fun ys3072 =>
  (forN (judge_judge_widen_l2 p1 ys3072) (fun (s3538 : (List (Nat -> api_Type))) => s3538) (ys3072).length 0 s3037).bind fun o3353 =>
  again o3353
def judge_judge_widen (p0 : judge_judge) (p1 : Int) : Option judge_judge :=
 (forN (judge_judge_widen_l1 p0 p1) (fun (s3037 : (List (Nat -> api_Type))) => (judge_judge.mk p0.Module s3037 p0.any p0.loops)) (p0.loops).length 0 p0.came).bind fun o1836 =>
 some o1836
def ops_Source (p0 : api_Inst) : Option Bool :=
 (ops_of p0.Op).bind fun r12 =>
 ((ops_right p0).bind fun r34 =>
 if r34 then
  (ops_form_uses r12.1 115).bind fun r39 =>
  some r39
 else
  some false).bind fun o32 =>
 some o32
def span_Single (p0 : Int) : Option api_Span :=
 some (api_Span.mk p0 p0)
def judge_source (p0 : api_Inst) (p1 : Nat -> api_Type) : Option api_Type :=
 if (p0.B == 8) then
  (span_Single (wu64 p0.Imm)).bind fun r23 =>
  (judge_number r23).bind fun r27 =>
  some r27
 else
  (ain 8 p0.B).bind fun i35 =>
  some (p1 i35)
def judge_nums_l1 (p0 : List api_Type) (i117 : Nat) (again : Unit -> Option (Unit ⊕ Int)) (s116 : Unit) : Option (Unit ⊕ Int) :=
 (idx p0 (i117 : Int)).bind fun x129 =>
 if (x129.Kind != 1) then
  some (.inr 33)
 else
  again ()
def judge_nums (p0 : List api_Type) : Option Int :=
 (forN (judge_nums_l1 p0) (fun (s116 : Unit) => (.inl ())) (p0).length 0 ()).bind fun o70 => match o70 with
  | .inl t72 =>
   some 0
  | .inr r => some r
def span_Right (p0 : api_Span) : Option Bool :=
 some (decide (p0.Lo <= p0.Hi))
def span_Within (p0 : api_Span) (p1 : api_Span) : Option Bool :=
 ((span_Right p0).bind fun r21 =>
 if r21 then
  if decide (p1.Lo <= p0.Lo) then
   some (decide (p0.Hi <= p1.Hi))
  else
   some false
 else
  some false).bind fun o19 =>
 some o19
def judge_word (p0 : api_Type) : Option Int :=
 (span_Within p0.Span (api_Span.mk 0 15)).bind fun r9 =>
 if (!r9) then
  some 35
 else
  some 0
def judge_first_l1 (p0 : List Int) (i87 : Nat) (again : Unit -> Option (Unit ⊕ Int)) (s86 : Unit) : Option (Unit ⊕ Int) :=
 (idx p0 (i87 : Int)).bind fun x96 =>
 if (x96 != 0) then
  some (.inr x96)
 else
  again ()
def judge_first (p0 : List Int) : Option Int :=
 (forN (judge_first_l1 p0) (fun (s86 : Unit) => (.inl ())) (p0).length 0 ()).bind fun o52 => match o52 with
  | .inl t54 =>
   some 0
  | .inr r => some r
def judge_fits (p0 : api_Type) (p1 : api_Type) : Option Bool :=
 if (p1.Kind == 1) then
  (if (p0.Kind == 1) then
   (span_Within p0.Span p1.Span).bind fun r18 =>
   some r18
  else
   some false).bind fun o15 =>
  some o15
 else
  if (p1.Kind == 2) then
   some ((p0.Kind == p1.Kind) && (((p0.Span.Lo == p1.Span.Lo) && ((p0.Span.Hi == p1.Span.Hi) && true)) && ((p0.Map == p1.Map) && true)))
  else
   some true
def sigs_of (p0 : Int) : Option (sigs_sig × Bool) :=
 if (decide (p0 < 0) || decide (p0 >= 7)) then
  some ((sigs_sig.mk ByteArray.empty ByteArray.empty 0 0 false), false)
 else
  (idx tab_g1 p0).bind fun x12 =>
  some (x12, true)
def sigs_number (p0 : Int) : Option api_Type :=
 some (api_Type.mk 1 (api_Span.mk 0 p0) 0)
def sigs_Args_l1 (r8 : sigs_sig × Bool) (again : ((List api_Type) × Nat) -> Option (List api_Type)) (s427 : (List api_Type) × Nat) : Option (List api_Type) :=
 if decide (s427.2 < r8.1.wants.size) then
  if ((runeAt r8.1.wants s427.2) == 104) then
   (room (s427.1.length + ([(api_Type.mk 2 (api_Span.mk 0 0) 0)]).length) 32).bind fun u448 =>
   again ((s427.1 ++ [(api_Type.mk 2 (api_Span.mk 0 0) 0)]), (runeEnd r8.1.wants s427.2))
  else
   if ((runeAt r8.1.wants s427.2) == 115) then
    (sigs_number 15).bind fun r470 =>
    (room (s427.1.length + ([r470]).length) 32).bind fun u476 =>
    again ((s427.1 ++ [r470]), (runeEnd r8.1.wants s427.2))
   else
    (sigs_number 18446744073709551615).bind fun r497 =>
    (room (s427.1.length + ([r497]).length) 32).bind fun u503 =>
    again ((s427.1 ++ [r497]), (runeEnd r8.1.wants s427.2))
 else
  some s427.1
def sigs_Args (fu : Nat) (p0 : Int) : Option (List api_Type) :=
 (sigs_of p0).bind fun r8 =>
 (loop (sigs_Args_l1 r8) fu (([] : List api_Type), 0)).bind fun o264 =>
 some o264
def sigs_Check_l1 (p1 : List api_Type) (r27 : (List api_Type)) (i365 : Nat) (again : Unit -> Option (Unit ⊕ Int)) (s364 : Unit) : Option (Unit ⊕ Int) :=
 (idx r27 (i365 : Int)).bind fun x377 =>
 (idx p1 (i365 : Int)).bind fun x396 =>
 if (x377.Kind != x396.Kind) then
  some (.inr 33)
 else
  (if (x377.Kind == 1) then
   (span_Within x396.Span x377.Span).bind fun r425 =>
   some (!r425)
  else
   some false).bind fun o416 =>
  if o416 then
   some (.inr 35)
  else
   again ()
def sigs_Check (fu : Nat) (p0 : Int) (p1 : List api_Type) : Option Int :=
 (sigs_of p0).bind fun r11 =>
 if (!r11.2) then
  some 34
 else
  (sigs_Args fu p0).bind fun r27 =>
  if (((r27).length : Int) != ((p1).length : Int)) then
   some 2
  else
   (forN (sigs_Check_l1 p1 r27) (fun (s364 : Unit) => (.inl ())) (r27).length 0 ()).bind fun o232 => match o232 with
    | .inl t234 =>
     some 0
    | .inr r => some r
def sigs_Result (p0 : Int) : Option (api_Type × Bool) :=
 (sigs_of p0).bind fun r12 =>
 if (!r12.2) then
  some ((api_Type.mk 0 (api_Span.mk 0 0) 0), false)
 else
  (sigs_number r12.1.most).bind fun r27 =>
  some (r27, true)
def arith_Do (p0 : Int) (p1 : Int) (p2 : Int) : Option (Int × Bool) :=
 if (p0 == 1) then
  some (wu64 (p1 + p2), true)
 else
  if (p0 == 2) then
   some (wu64 (p1 - p2), true)
  else
   if (p0 == 3) then
    some (wu64 (p1 * p2), true)
   else
    if (p0 == 4) then
     if (p2 == 0) then
      some (0, true)
     else
      (nz p2).bind fun u8 =>
      some (wu64 (p1.tdiv p2), true)
    else
     if (p0 == 5) then
      if (p2 == 0) then
       some (p1, true)
      else
       (nz p2).bind fun u14 =>
       some (p1.tmod p2, true)
     else
      if (p0 == 6) then
       some (bAnd .u64 p1 p2, true)
      else
       if (p0 == 7) then
        some (bOr .u64 p1 p2, true)
       else
        if (p0 == 8) then
         some (bXor .u64 p1 p2, true)
        else
         if (p0 == 9) then
          (nn p2).bind fun u22 =>
          some (bShl .u64 p1 p2, true)
         else
          if (p0 == 10) then
           (nn p2).bind fun u27 =>
           some (bShr .u64 p1 p2, true)
          else
           some (0, false)
def span_single (p0 : api_Span) : Option Bool :=
 some (p0.Lo == p0.Hi)
def span_sum (p0 : api_Span) (p1 : api_Span) : Option api_Span :=
 (add64 p0.Hi p1.Hi 0).bind fun x15 =>
 if decide (x15.2 > 0) then
  span_Full.bind fun r23 =>
  some r23
 else
  some (api_Span.mk (wu64 (p0.Lo + p1.Lo)) x15.1)
def bits_Mul64 (p0 : Int) (p1 : Int) : Option (Int × Int) :=
 some (wu64 ((wu64 ((wu64 ((bShr .u64 p0 32) * (bShr .u64 p1 32))) + (bShr .u64 (wu64 ((wu64 ((bShr .u64 p0 32) * (bAnd .u64 p1 4294967295))) + (bShr .u64 (wu64 ((bAnd .u64 p0 4294967295) * (bAnd .u64 p1 4294967295))) 32))) 32))) + (bShr .u64 (wu64 ((bAnd .u64 (wu64 ((wu64 ((bShr .u64 p0 32) * (bAnd .u64 p1 4294967295))) + (bShr .u64 (wu64 ((bAnd .u64 p0 4294967295) * (bAnd .u64 p1 4294967295))) 32))) 4294967295) + (wu64 ((bAnd .u64 p0 4294967295) * (bShr .u64 p1 32))))) 32)), wu64 (p0 * p1))
def span_product (p0 : api_Span) (p1 : api_Span) : Option api_Span :=
 (bits_Mul64 p0.Hi p1.Hi).bind fun r17 =>
 if decide (r17.1 > 0) then
  span_Full.bind fun r27 =>
  some r27
 else
  some (api_Span.mk (wu64 (p0.Lo * p1.Lo)) r17.2)
def span_divided (p0 : api_Span) (p1 : api_Span) : Option api_Span :=
 if (p1.Lo == 0) then
  some (api_Span.mk 0 p0.Hi)
 else
  (nz p1.Hi).bind fun u25 =>
  (nz p1.Lo).bind fun u27 =>
  some (api_Span.mk (wu64 (p0.Lo.tdiv p1.Hi)) (wu64 (p0.Hi.tdiv p1.Lo)))
def span_rest (p0 : api_Span) (p1 : api_Span) : Option api_Span :=
 if (p1.Lo == 0) then
  some (api_Span.mk 0 p0.Hi)
 else
  if decide (p0.Hi < p1.Lo) then
   some p0
  else
   some (api_Span.mk 0 (imin p0.Hi (wu64 (p1.Hi - 1))))
def bits_Len64 (p0 : Int) : Option Int :=
 (if decide (p0 >= 4294967296) then
  some (bShr .u64 p0 32, 32)
 else
  some (p0, 0)).bind fun o2 =>
 (if decide (o2.1 >= 65536) then
  some (bShr .u64 o2.1 16, w64 (o2.2 + 16))
 else
  some (o2.1, o2.2)).bind fun o6 =>
 (if decide (o6.1 >= 256) then
  some (bShr .u64 o6.1 8, w64 (o6.2 + 8))
 else
  some (o6.1, o6.2)).bind fun o10 =>
 (sidx (⟨[0, 1, 2, 2, 3, 3, 3, 3, 4, 4, 4, 4, 4, 4, 4, 4, 5, 5, 5, 5, 5, 5, 5, 5, 5, 5, 5, 5, 5, 5, 5, 5, 6, 6, 6, 6, 6, 6, 6, 6, 6, 6, 6, 6, 6, 6, 6, 6, 6, 6, 6, 6, 6, 6, 6, 6, 6, 6, 6, 6, 6, 6, 6, 6, 7, 7, 7, 7, 7, 7, 7, 7, 7, 7, 7, 7, 7, 7, 7, 7, 7, 7, 7, 7, 7, 7, 7, 7, 7, 7, 7, 7, 7, 7, 7, 7, 7, 7, 7, 7, 7, 7, 7, 7, 7, 7, 7, 7, 7, 7, 7, 7, 7, 7, 7, 7, 7, 7, 7, 7, 7, 7, 7, 7, 7, 7, 7, 7, 8, 8, 8, 8, 8, 8, 8, 8, 8, 8, 8, 8, 8, 8, 8, 8, 8, 8, 8, 8, 8, 8, 8, 8, 8, 8, 8, 8, 8, 8, 8, 8, 8, 8, 8, 8, 8, 8, 8, 8, 8, 8, 8, 8, 8, 8, 8, 8, 8, 8, 8, 8, 8, 8, 8, 8, 8, 8, 8, 8, 8, 8, 8, 8, 8, 8, 8, 8, 8, 8, 8, 8, 8, 8, 8, 8, 8, 8, 8, 8, 8, 8, 8, 8, 8, 8, 8, 8, 8, 8, 8, 8, 8, 8, 8, 8, 8, 8, 8, 8, 8, 8, 8, 8, 8, 8, 8, 8, 8, 8, 8, 8, 8, 8, 8, 8, 8, 8, 8, 8, 8, 8, 8, 8, 8, 8, 8, 8].toArray⟩) (IntKind.u8.wrap o10.1)).bind fun c15 =>
 some (w64 (o10.2 + (w64 c15)))
def span_ones (p0 : Int) : Option Int :=
 (bits_Len64 p0).bind fun r7 =>
 (nn r7).bind fun u11 =>
 some (wu64 ((bShl .u64 1 r7) - 1))
def span_left (p0 : api_Span) (p1 : api_Span) : Option api_Span :=
 ((span_single p1).bind fun r40 =>
 if (!r40) then
  some true
 else
  (bits_Len64 p0.Hi).bind fun r45 =>
  if decide (r45 > 0) then
   if decide (p1.Lo > 64) then
    some true
   else
    (bits_Len64 p0.Hi).bind fun r51 =>
    some (decide ((wu64 ((wu64 r51) + p1.Lo)) > 64))
  else
   some false).bind fun o36 =>
 if o36 then
  span_Full.bind fun r61 =>
  some r61
 else
  (nn p1.Lo).bind fun u71 =>
  (nn p1.Lo).bind fun u73 =>
  some (api_Span.mk (bShl .u64 p0.Lo p1.Lo) (bShl .u64 p0.Hi p1.Lo))
def span_Do (p0 : Int) (p1 : api_Span) (p2 : api_Span) : Option (api_Span × Bool) :=
 (arith_Do p0 p1.Lo p2.Lo).bind fun r17 =>
 (if (!r17.2) then
  some true
 else
  (span_Right p1).bind fun r34 =>
  if (!r34) then
   some true
  else
   (span_Right p2).bind fun r39 =>
   some (!r39)).bind fun o31 =>
 if o31 then
  some ((api_Span.mk 0 0), false)
 else
  ((span_single p1).bind fun r61 =>
  if r61 then
   (span_single p2).bind fun r66 =>
   some r66
  else
   some false).bind fun o59 =>
  if o59 then
   (span_Single r17.1).bind fun r76 =>
   some (r76, true)
  else
   if (p0 == 1) then
    (span_sum p1 p2).bind fun r87 =>
    some (r87, true)
   else
    if (p0 == 2) then
     if decide (p1.Lo < p2.Hi) then
      span_Full.bind fun r99 =>
      some (r99, true)
     else
      some ((api_Span.mk (wu64 (p1.Lo - p2.Hi)) (wu64 (p1.Hi - p2.Lo))), true)
    else
     if (p0 == 3) then
      (span_product p1 p2).bind fun r112 =>
      some (r112, true)
     else
      if (p0 == 4) then
       (span_divided p1 p2).bind fun r123 =>
       some (r123, true)
      else
       if (p0 == 5) then
        (span_rest p1 p2).bind fun r134 =>
        some (r134, true)
       else
        if (p0 == 6) then
         some ((api_Span.mk 0 (imin p1.Hi p2.Hi)), true)
        else
         if (p0 == 7) then
          (span_ones (bOr .u64 p1.Hi p2.Hi)).bind fun r152 =>
          some ((api_Span.mk (imax p1.Lo p2.Lo) r152), true)
         else
          if (p0 == 8) then
           (span_ones (bOr .u64 p1.Hi p2.Hi)).bind fun r163 =>
           some ((api_Span.mk 0 r163), true)
          else
           if (p0 == 9) then
            (span_left p1 p2).bind fun r174 =>
            some (r174, true)
           else
            (nn p2.Hi).bind fun u184 =>
            (nn p2.Lo).bind fun u186 =>
            some ((api_Span.mk (bShr .u64 p1.Lo p2.Hi) (bShr .u64 p1.Hi p2.Lo)), true)
def judge_judge_one_l1 (p0 : judge_judge) (p1 : Int) (o81 : api_Inst × (Nat -> api_Type)) (i730 : Nat) (again : Unit -> Option (Unit ⊕ ((Nat -> api_Type) × Int))) (s728 : Unit) : Option (Unit ⊕ ((Nat -> api_Type) × Int)) :=
 (ain 8 (i730 : Int)).bind fun i779 =>
 (idx p0.came (w64 (p1 - o81.1.D))).bind fun x781 =>
 (judge_fits (o81.2 i779) (x781 i779)).bind fun r787 =>
 if (!r787) then
  some (.inr (o81.2, 33))
 else
  again ()
def judge_judge_one (fu : Nat) (p0 : judge_judge) (p1 : Int) : Option ((Nat -> api_Type) × Int) :=
 ((idx p0.Module.Code p1).bind fun x85 =>
 (idx p0.came p1).bind fun x91 =>
 some (x85, x91)).bind fun o81 =>
 (ops_Source o81.1).bind fun r127 =>
 (if r127 then
  (judge_source o81.1 o81.2).bind fun r150 =>
  some r150
 else
  some (api_Type.mk 0 (api_Span.mk 0 0) 0)).bind fun o142 =>
 (ain 8 o81.1.A).bind fun i158 =>
 if (o81.1.Op == 0) then
  if (o142.Kind == 0) then
   some (o81.2, 33)
  else
   (ain 8 o81.1.D).bind fun i168 =>
   some ((aset o81.2 i168 o142), 0)
 else
  if (o81.1.Op == 11) then
   span_Full.bind fun r189 =>
   (judge_number r189).bind fun r193 =>
   (ain 8 o81.1.D).bind fun i197 =>
   (judge_nums ([o142])).bind fun r223 =>
   (judge_word o142).bind fun r227 =>
   (judge_first ([r223, r227])).bind fun r233 =>
   some ((aset o81.2 i197 r193), r233)
  else
   if (o81.1.Op == 12) then
    (judge_nums ([(o81.2 i158), o142])).bind fun r262 =>
    (judge_word o142).bind fun r266 =>
    (judge_first ([r262, r266])).bind fun r272 =>
    some (o81.2, r272)
   else
    if (o81.1.Op == 13) then
     span_Full.bind fun r293 =>
     (judge_number r293).bind fun r297 =>
     (ain 8 o81.1.D).bind fun i301 =>
     some ((aset o81.2 i301 r297), 0)
    else
     if (o81.1.Op == 14) then
      (ain 8 o81.1.D).bind fun i310 =>
      if decide (o81.1.Imm >= ((p0.Module.Maps).length : Int)) then
       some ((aset o81.2 i310 (api_Type.mk 2 (api_Span.mk 0 0) o81.1.Imm)), 35)
      else
       some ((aset o81.2 i310 (api_Type.mk 2 (api_Span.mk 0 0) o81.1.Imm)), 0)
     else
      if (o81.1.Op == 15) then
       some (o81.2, 0)
      else
       (if (o81.1.Op == 16) then
        some (o81.1.Op == 16)
       else
        if (o81.1.Op == 17) then
         some (o81.1.Op == 17)
        else
         if (o81.1.Op == 18) then
          some (o81.1.Op == 18)
         else
          some (o81.1.Op == 19)).bind fun o360 =>
       if o360 then
        (judge_nums ([(o81.2 i158), o142])).bind fun r379 =>
        some (o81.2, r379)
       else
        if (o81.1.Op == 20) then
         (judge_nums ([(o81.2 i158)])).bind fun r393 =>
         if (r393 != 0) then
          some (o81.2, r393)
         else
          (forN (judge_judge_one_l1 p0 p1 o81) (fun (s728 : Unit) => (.inl ())) 8 0 ()).bind fun o597 => match o597 with
           | .inl t599 =>
            some (o81.2, 0)
           | .inr r => some r
        else
         if (o81.1.Op == 21) then
          (sigs_Args fu o81.1.Imm).bind fun r813 =>
          (cut (arrL 8 o81.2) 1 (w64 (1 + ((r813).length : Int)))).bind fun ys821 =>
          (sigs_Check fu o81.1.Imm ys821).bind fun r823 =>
          (sigs_Result o81.1.Imm).bind fun r832 =>
          some ((aset o81.2 0 r832.1), r823)
         else
          if (o81.1.Op == 22) then
           (judge_nums ([(o81.2 i158)])).bind fun r853 =>
           some (o81.2, r853)
          else
           (span_Do o81.1.Op (o81.2 i158).Span o142.Span).bind fun r865 =>
           (judge_number r865.1).bind fun r883 =>
           (ain 8 o81.1.D).bind fun i887 =>
           (judge_nums ([(o81.2 i158), o142])).bind fun r903 =>
           some ((aset o81.2 i887 r883), r903)
def span_Join_l1 (p0 : List api_Span) (i188 : Nat) (again : api_Span -> Option (api_Span ⊕ (api_Span × Bool))) (s187 : api_Span) : Option (api_Span ⊕ (api_Span × Bool)) :=
 (idx p0 (i188 : Int)).bind fun x200 =>
 (span_Right x200).bind fun r213 =>
 if (!r213) then
  some (.inr ((api_Span.mk 0 0), false))
 else
  again (api_Span.mk (imin s187.Lo x200.Lo) (imax s187.Hi x200.Hi))
def span_Join (p0 : List api_Span) : Option (api_Span × Bool) :=
 (forN (span_Join_l1 p0) (fun (s187 : api_Span) => (.inl s187)) (p0).length 0 (api_Span.mk 18446744073709551615 0)).bind fun o117 => match o117 with
  | .inl t119 =>
   if (((p0).length : Int) == 0) then
    some ((api_Span.mk 0 0), false)
   else
    some (t119, true)
  | .inr r => some r
def judge_joined (p0 : api_Type) (p1 : api_Type) : Option api_Type :=
 if ((p0.Kind != p1.Kind) || (p0.Map != p1.Map)) then
  some (api_Type.mk 0 (api_Span.mk 0 0) 0)
 else
  if (p0.Kind == 1) then
   (span_Join ([p0.Span, p1.Span])).bind fun r29 =>
   (judge_number r29.1).bind fun r41 =>
   some r41
  else
   some p0
def judge_judge_come_l1 (p1 : Int) (p2 : Nat -> api_Type) (i439 : Nat) (again : judge_judge -> Option judge_judge) (s437 : judge_judge) : Option judge_judge :=
 (idx s437.came p1).bind fun x493 =>
 (ain 8 (i439 : Int)).bind fun i499 =>
 (judge_joined (x493 i499) (p2 i499)).bind fun r505 =>
 again (judge_judge.mk s437.Module (s437.came.set (Int.toNat p1) (aset x493 i499 r505)) s437.any s437.loops)
def judge_judge_come (p0 : judge_judge) (p1 : Int) (p2 : Nat -> api_Type) : Option judge_judge :=
 (idx p0.any p1).bind fun x42 =>
 if (!x42) then
  (idx p0.came p1).bind fun x70 =>
  some (judge_judge.mk p0.Module (p0.came.set (Int.toNat p1) p2) (p0.any.set (Int.toNat p1) true) p0.loops)
 else
  (forN (judge_judge_come_l1 p1 p2) (fun (s437 : judge_judge) => s437) 8 0 p0).bind fun o294 =>
  some o294
def arith_Holds (p0 : Int) (p1 : Int) (p2 : Int) : Option (Bool × Bool) :=
 if (p0 == 16) then
  some ((p1 == p2), true)
 else
  if (p0 == 17) then
   some ((p1 != p2), true)
  else
   if (p0 == 18) then
    some (decide (p1 < p2), true)
   else
    if (p0 == 19) then
     some (decide (p1 >= p2), true)
    else
     some (false, false)
def span_Meet_l1 (p0 : List api_Span) (i197 : Nat) (again : api_Span -> Option (api_Span ⊕ (api_Span × Bool))) (s196 : api_Span) : Option (api_Span ⊕ (api_Span × Bool)) :=
 (idx p0 (i197 : Int)).bind fun x209 =>
 (span_Right x209).bind fun r222 =>
 if (!r222) then
  some (.inr ((api_Span.mk 0 0), false))
 else
  again (api_Span.mk (imax s196.Lo x209.Lo) (imin s196.Hi x209.Hi))
def span_Meet (p0 : List api_Span) : Option (api_Span × Bool) :=
 span_Full.bind fun r15 =>
 (forN (span_Meet_l1 p0) (fun (s196 : api_Span) => (.inl s196)) (p0).length 0 r15).bind fun o126 => match o126 with
  | .inl t128 =>
   (if (((p0).length : Int) == 0) then
    some true
   else
    (span_Right t128).bind fun r239 =>
    some (!r239)).bind fun o236 =>
   if o236 then
    some ((api_Span.mk 0 0), false)
   else
    some (t128, true)
  | .inr r => some r
def span_Refine (p0 : Int) (p1 : api_Span) (p2 : api_Span) (p3 : Bool) : Option (api_Span × Bool) :=
 (arith_Holds p0 0 0).bind fun r17 =>
 (if (!r17.2) then
  some true
 else
  (span_Right p1).bind fun r34 =>
  if (!r34) then
   some true
  else
   (span_Right p2).bind fun r39 =>
   some (!r39)).bind fun o31 =>
 if o31 then
  some ((api_Span.mk 0 0), false)
 else
  (span_single p2).bind fun r50 =>
  if (!r50) then
   some (p1, true)
  else
   (if ((p0 == 18) && p3) then
    some ((p0 == 18) && p3)
   else
    if (p0 == 19) then
     some (!p3)
    else
     some false).bind fun o60 =>
   if o60 then
    if (p2.Lo == 0) then
     some ((api_Span.mk 0 0), false)
    else
     (span_Meet ([p1, (api_Span.mk 0 (wu64 (p2.Lo - 1)))])).bind fun r77 =>
     some (r77.1, r77.2)
   else
    (if (p0 == 18) then
     some (p0 == 18)
    else
     some (p0 == 19)).bind fun o83 =>
    if o83 then
     (span_Meet ([p1, (api_Span.mk p2.Lo 18446744073709551615)])).bind fun r96 =>
     some (r96.1, r96.2)
    else
     (if ((p0 == 16) && p3) then
      some ((p0 == 16) && p3)
     else
      if (p0 == 17) then
       some (!p3)
      else
       some false).bind fun o104 =>
     if o104 then
      (span_Meet ([p1, p2])).bind fun r118 =>
      some (r118.1, r118.2)
     else
      if ((p1.Lo == p2.Lo) && ((p1.Hi == p2.Hi) && true)) then
       some ((api_Span.mk 0 0), false)
      else
       if (p1.Lo == p2.Lo) then
        some ((api_Span.mk (wu64 (p1.Lo + 1)) p1.Hi), true)
       else
        if (p1.Hi == p2.Lo) then
         some ((api_Span.mk p1.Lo (wu64 (p1.Hi - 1))), true)
        else
         some (p1, true)
def judge_judge_ways_l1 (p1 : Int) (p2 : Nat -> api_Type) (x45 : api_Inst) (r58 : Int × Bool × Bool) (r115 : api_Type) (i640 : Nat) (again : judge_judge -> Option judge_judge) (s638 : judge_judge) : Option judge_judge :=
 (idx ([true, false]) (i640 : Int)).bind fun x649 =>
 (if (!x649) then
  some (w64 (p1 + 1))
 else
  some (w64 (p1 + r58.1))).bind fun o666 =>
 ((ain 8 x45.A).bind fun i696 =>
 (span_Refine x45.Op (p2 i696).Span r115.Span x649).bind fun r698 =>
 some (r698.1, r698.2)).bind fun o692 =>
 if o692.2 then
  (judge_number o692.1).bind fun r724 =>
  (ain 8 x45.A).bind fun i728 =>
  (judge_judge_come s638 o666 (aset p2 i728 r724)).bind fun r736 =>
  again r736
 else
  again s638
def judge_judge_ways (p0 : judge_judge) (p1 : Int) (p2 : Nat -> api_Type) : Option judge_judge :=
 (idx p0.Module.Code p1).bind fun x45 =>
 (ops_Goes x45).bind fun r58 =>
 if ((!r58.2.1) || decide (r58.1 < 0)) then
  (if r58.2.2 then
   (judge_judge_come p0 (w64 (p1 + 1)) p2).bind fun r89 =>
   some r89
  else
   some p0).bind fun o79 =>
  some o79
 else
  if (!r58.2.2) then
   (judge_judge_come p0 (w64 (p1 + r58.1)) p2).bind fun r103 =>
   some r103
  else
   (judge_source x45 p2).bind fun r115 =>
   (forN (judge_judge_ways_l1 p1 p2 x45 r58 r115) (fun (s638 : judge_judge) => s638) 2 0 p0).bind fun o433 =>
   some o433
def judge_judged_l1 (fu : Nat) (i580 : Nat) (again : judge_judge -> Option (judge_judge ⊕ ((Option judge_judge) × Int × Int))) (s578 : judge_judge) : Option (judge_judge ⊕ ((Option judge_judge) × Int × Int)) :=
 (idx s578.any (i580 : Int)).bind fun x619 =>
 if (!x619) then
  again s578
 else
  (judge_judge_widen s578 (i580 : Int)).bind fun r634 =>
  (judge_judge_one fu r634 (i580 : Int)).bind fun r647 =>
  if (r647.2 != 0) then
   some (.inr (none, (i580 : Int), r647.2))
  else
   (judge_judge_ways r634 (i580 : Int) r647.1).bind fun r661 =>
   again r661
def judge_judged (fu : Nat) (p0 : api_Module) : Option ((Option judge_judge) × Int × Int) :=
 (judge_good p0.Maps).bind fun r15 =>
 if (!r15) then
  some (none, 0, 2)
 else
  (flow_Check p0.Code).bind fun r24 =>
  if (r24.2 != 0) then
   some (none, r24.1, r24.2)
  else
   ((mkLen ((p0.Code).length : Int) 256).bind fun m57 =>
   (mkLen ((p0.Code).length : Int) 1).bind fun m61 =>
   some (judge_judge.mk p0 (List.replicate m57 (fun _ => (api_Type.mk 0 (api_Span.mk 0 0) 0))) (List.replicate m61 false) ([] : List api_Loop))).bind fun o53 =>
   (flow_Loops p0.Code).bind fun r115 =>
   (idx o53.any 0).bind fun x131 =>
   (forN (judge_judged_l1 fu) (fun (s578 : judge_judge) => (.inl s578)) (p0.Code).length 0 (judge_judge.mk o53.Module o53.came (o53.any.set (Int.toNat 0) true) r115.1)).bind fun o401 => match o401 with
    | .inl t403 =>
     some ((some t403), 0, 0)
    | .inr r => some r
def judge_Judge (fu : Nat) (p0 : api_Module) : Option (Int × Int) :=
 (judge_judged fu p0).bind fun r21 =>
 ocase r21.1
  (some (r21.2.1, r21.2.2))
  (fun k25 =>
  some (r21.2.1, r21.2.2))
def scratch_Words_Wipe (p0 : scratch_Words) : Option scratch_Words :=
 some (scratch_Words.mk (fun _ => 0))
def slices_Clone_int_int (p0 : List Int) : Option (List Int) :=
 (room (([] : List Int).length + p0.length) 8).bind fun u17 =>
 some (([] : List Int) ++ p0)
def slices_Clone_tappet_api_Inst_tappet_api_Inst (p0 : List api_Inst) : Option (List api_Inst) :=
 (room (([] : List api_Inst).length + p0.length) 40).bind fun u17 =>
 some (([] : List api_Inst) ++ p0)
def sigs_Asks (p0 : Int) : Option (Int × Bool) :=
 (sigs_of p0).bind fun r8 =>
 some (r8.1.asks, r8.1.isAsked)
def scratch_Counters_Mark (p0 : scratch_Counters) (p1 : Int) : Option (Int × Int × scratch_Counters) :=
 if (decide (p1 < 0) || decide (p1 >= 16)) then
  some (0, 35, p0)
 else
  (ain 16 p1).bind fun i10 =>
  some (((aset p0.counts i10 (wu64 ((p0.counts i10) + 1))) i10), 0, (scratch_Counters.mk (aset p0.counts i10 (wu64 ((p0.counts i10) + 1)))))
def engine_Machine_call (fu : Nat) (p0 : engine_Machine) (p1 : Int) : Option (api_Act × engine_Machine) :=
 (sigs_Asks p1).bind fun r29 =>
 if r29.2 then
  (idx p0.module.Maps (p0.regs 1)).bind fun x49 =>
  (sigs_Args fu p1).bind fun r64 =>
  (if decide (((r64).length : Int) > 2) then
   some (p0.regs 3)
  else
   some 0).bind fun o78 =>
  some ((api_Act.mk 2 p0.at_ (api_Item.mk x49 r29.1 (p0.regs 2) o78) 0), (engine_Machine.mk p0.Event p0.module p0.scratch p0.regs p0.turns p0.at_ p0.steps 1))
 else
  (if (p1 == 5) then
   (scratch_Counters_Mark p0.scratch.Counters (w64 (p0.regs 1))).bind fun r133 =>
   some ((engine_Machine.mk p0.Event p0.module (scratch_Scratch.mk p0.scratch.Words r133.2.2) (aset p0.regs 0 r133.1) p0.turns p0.at_ p0.steps p0.state), (api_Act.mk 1 p0.at_ (api_Item.mk 0 0 0 0) r133.1))
  else
   some ((engine_Machine.mk p0.Event p0.module p0.scratch (aset p0.regs 0 0) p0.turns p0.at_ p0.steps p0.state), (api_Act.mk 3 p0.at_ (api_Item.mk 0 0 0 0) (p0.regs 1)))).bind fun o121 =>
  some (o121.2, (engine_Machine.mk o121.1.Event o121.1.module o121.1.scratch o121.1.regs o121.1.turns (w64 (o121.1.at_ + 1)) o121.1.steps o121.1.state))
def engine_Machine_source (p0 : engine_Machine) (p1 : api_Inst) : Option Int :=
 if (p1.B == 8) then
  some (wu64 p1.Imm)
 else
  (ain 8 p1.B).bind fun i12 =>
  some (p0.regs i12)
def scratch_Words_Load (p0 : scratch_Words) (p1 : Int) : Option (Int × Int) :=
 if (decide (p1 < 0) || decide (p1 >= 16)) then
  some (0, 35)
 else
  (ain 16 p1).bind fun i5 =>
  some ((p0.words i5), 0)
def scratch_Words_Store (p0 : scratch_Words) (p1 : Int) (p2 : Int) : Option (Int × scratch_Words) :=
 if (decide (p1 < 0) || decide (p1 >= 16)) then
  some (35, p0)
 else
  (ain 16 p1).bind fun i6 =>
  some (0, (scratch_Words.mk (aset p0.words i6 p2)))
def engine_Machine_run (p0 : engine_Machine) (p1 : api_Inst) : Option (Int × engine_Machine) :=
 if (p1.Op == 0) then
  (engine_Machine_source p0 p1).bind fun r31 =>
  (ain 8 p1.D).bind fun i35 =>
  some (1, (engine_Machine.mk p0.Event p0.module p0.scratch (aset p0.regs i35 r31) p0.turns p0.at_ p0.steps p0.state))
 else
  if (p1.Op == 11) then
   (engine_Machine_source p0 p1).bind fun r68 =>
   (scratch_Words_Load p0.scratch.Words (w64 r68)).bind fun r72 =>
   (ain 8 p1.D).bind fun i76 =>
   some (1, (engine_Machine.mk p0.Event p0.module p0.scratch (aset p0.regs i76 r72.1) p0.turns p0.at_ p0.steps p0.state))
  else
   if (p1.Op == 12) then
    (ain 8 p1.A).bind fun i108 =>
    (engine_Machine_source p0 p1).bind fun r110 =>
    (scratch_Words_Store p0.scratch.Words (w64 r110) (p0.regs i108)).bind fun r114 =>
    some (1, (engine_Machine.mk p0.Event p0.module (scratch_Scratch.mk r114.2 p0.scratch.Counters) p0.regs p0.turns p0.at_ p0.steps p0.state))
   else
    if (p1.Op == 13) then
     (ain 8 p1.D).bind fun i140 =>
     if (p1.Imm == 1) then
      some (1, (engine_Machine.mk p0.Event p0.module p0.scratch (aset (aset p0.regs i140 p0.Event.A) i140 p0.Event.B) p0.turns p0.at_ p0.steps p0.state))
     else
      some (1, (engine_Machine.mk p0.Event p0.module p0.scratch (aset p0.regs i140 p0.Event.A) p0.turns p0.at_ p0.steps p0.state))
    else
     if (p1.Op == 14) then
      (ain 8 p1.D).bind fun i173 =>
      some (1, (engine_Machine.mk p0.Event p0.module p0.scratch (aset p0.regs i173 (wu64 p1.Imm)) p0.turns p0.at_ p0.steps p0.state))
     else
      if (p1.Op == 15) then
       some (w64 (p1.D + 1), p0)
      else
       if (p1.Op == 20) then
        ((ain 8 p1.A).bind fun i210 =>
        if ((p0.regs i210) != 0) then
         (ain 64 p0.at_).bind fun i213 =>
         some (decide ((p0.turns i213) < p1.Imm))
        else
         some false).bind fun o206 =>
        if o206 then
         (ain 64 p0.at_).bind fun i238 =>
         some (w64 (0 - p1.D), (engine_Machine.mk p0.Event p0.module p0.scratch p0.regs (aset p0.turns i238 (w64 ((p0.turns i238) + 1))) p0.at_ p0.steps p0.state))
        else
         (ain 64 p0.at_).bind fun i262 =>
         some (1, (engine_Machine.mk p0.Event p0.module p0.scratch p0.regs (aset p0.turns i262 0) p0.at_ p0.steps p0.state))
       else
        (ain 8 p1.A).bind fun i293 =>
        (engine_Machine_source p0 p1).bind fun r295 =>
        (arith_Do p1.Op (p0.regs i293) r295).bind fun r299 =>
        if r299.2 then
         (ain 8 p1.D).bind fun i311 =>
         some (1, (engine_Machine.mk p0.Event p0.module p0.scratch (aset p0.regs i311 r299.1) p0.turns p0.at_ p0.steps p0.state))
        else
         (engine_Machine_source p0 p1).bind fun r327 =>
         (arith_Holds p1.Op (p0.regs i293) r327).bind fun r331 =>
         if r331.1 then
          some (w64 (p1.D + 1), p0)
         else
          some (1, p0)
def engine_Machine_Step (fu : Nat) (p0 : engine_Machine) : Option (api_Act × engine_Machine) :=
 if (p0.state == 1) then
  some ((api_Act.mk 5 p0.at_ (api_Item.mk 0 0 0 0) 0), p0)
 else
  if (p0.state == 2) then
   (idx p0.module.Code p0.at_).bind fun x37 =>
   (ain 8 x37.A).bind fun i43 =>
   some ((api_Act.mk 6 p0.at_ (api_Item.mk 0 0 0 0) (p0.regs i43)), p0)
  else
   (idx p0.module.Code p0.at_).bind fun x62 =>
   if (x62.Op == 21) then
    (engine_Machine_call fu (engine_Machine.mk p0.Event p0.module p0.scratch p0.regs p0.turns p0.at_ (w64 (p0.steps + 1)) p0.state) x62.Imm).bind fun r80 =>
    some (r80.1, r80.2)
   else
    if (x62.Op == 22) then
     (ain 8 x62.A).bind fun i96 =>
     some ((api_Act.mk 4 p0.at_ (api_Item.mk 0 0 0 0) (p0.regs i96)), (engine_Machine.mk p0.Event p0.module p0.scratch p0.regs p0.turns p0.at_ (w64 (p0.steps + 1)) 2))
    else
     (engine_Machine_run (engine_Machine.mk p0.Event p0.module p0.scratch p0.regs p0.turns p0.at_ (w64 (p0.steps + 1)) p0.state) x62).bind fun r132 =>
     some ((api_Act.mk 1 p0.at_ (api_Item.mk 0 0 0 0) 0), (engine_Machine.mk r132.2.Event r132.2.module r132.2.scratch r132.2.regs r132.2.turns (w64 (p0.at_ + r132.1)) r132.2.steps r132.2.state))
def sigs_Value (p0 : Int) (p1 : api_Res) : Option Int :=
 (if (p0 == 0) then
  some (p0 == 0)
 else
  some (p0 == 4)).bind fun o6 =>
 if o6 then
  some p1.Val
 else
  (if (p0 == 1) then
   some (p0 == 1)
  else
   some (p0 == 3)).bind fun o11 =>
  if o11 then
   if p1.Found then
    some 1
   else
    some 0
  else
   if (p0 == 2) then
    if (p1.E == 0) then
     some 1
    else
     some 0
   else
    some 0
def engine_Machine_Answer (p0 : engine_Machine) (p1 : api_Res) : Option (Int × engine_Machine) :=
 if (p0.state != 1) then
  some (2, p0)
 else
  (idx p0.module.Code p0.at_).bind fun x36 =>
  (sigs_Value x36.Imm p1).bind fun r42 =>
  some (0, (engine_Machine.mk p0.Event p0.module p0.scratch (aset p0.regs 0 r42) p0.turns (w64 (p0.at_ + 1)) p0.steps 0))
def engine_Trace_l1 (again : Unit -> Option ((List api_Act) × Int)) (s123 : Unit) : Option ((List api_Act) × Int) :=
 none
def engine_Trace_l2 (fu : Nat) (again : ((List api_Res) × engine_Machine × (List api_Act)) -> Option ((List api_Act) × Int)) (s330 : (List api_Res) × engine_Machine × (List api_Act)) : Option ((List api_Act) × Int) :=
 (engine_Machine_Step fu s330.2.1).bind fun r349 =>
 (room (s330.2.2.length + ([r349.1]).length) 56).bind fun u368 =>
 (if (r349.1.Kind == 4) then
  some (r349.1.Kind == 4)
 else
  if (r349.1.Kind == 2) then
   some (((s330.1).length : Int) == 0)
  else
   some false).bind fun o377 =>
 if o377 then
  some ((s330.2.2 ++ [r349.1]), 0)
 else
  if (r349.1.Kind == 2) then
   (idx s330.1 0).bind fun x394 =>
   (engine_Machine_Answer r349.2 x394).bind fun r400 =>
   (cut s330.1 1 (s330.1.length : Int)).bind fun ys408 =>
   again (ys408, r400.2, (s330.2.2 ++ [r349.1]))
  else
   again (s330.1, r349.2, (s330.2.2 ++ [r349.1]))
def engine_Trace (fu : Nat) (p0 : api_Module) (p1 : api_Event) (p2 : List api_Res) : Option ((List api_Act) × Int) :=
 scratch_New.bind fun r95 =>
 (judge_Judge fu p0).bind fun r114 =>
 if (r114.2 != 0) then
  if (r114.2 != 0) then
   some (([] : List api_Act), r114.2)
  else
   loop engine_Trace_l1 fu ()
 else
  (scratch_Words_Wipe r95.Words).bind fun r128 =>
  (slices_Clone_int_int p0.Maps).bind fun r154 =>
  (slices_Clone_tappet_api_Inst_tappet_api_Inst p0.Code).bind fun r162 =>
  loop (engine_Trace_l2 fu) fu (p2, (engine_Machine.mk p1 (api_Module.mk r154 r162) (scratch_Scratch.mk r128 r95.Counters) (fun _ => 0) (fun _ => 0) 0 0 0), ([] : List api_Act))
def tappetlaw11_awake (fu : Nat)  : Option Bool :=
 tappetlaw11_asks.bind fun r42 =>
 (engine_Trace fu r42 (api_Event.mk 20 3) ([(api_Res.mk 0 true 9 false 0 0)])).bind fun r74 =>
 (if (r74.2 == 0) then
  if (((r74.1).length : Int) == 4) then
   (idx r74.1 2).bind fun x101 =>
   if ((x101.Kind == 2) && ((x101.Pc == 2) && (((x101.Item.Map == 2) && ((x101.Item.Op == 0) && ((x101.Item.Key == 20) && ((x101.Item.Val == 0) && true)))) && ((x101.Val == 0) && true)))) then
    (idx r74.1 3).bind fun x108 =>
    some ((x108.Kind == 4) && ((x108.Pc == 3) && (((x108.Item.Map == 0) && ((x108.Item.Op == 0) && ((x108.Item.Key == 0) && ((x108.Item.Val == 0) && true)))) && ((x108.Val == 9) && true))))
   else
    some false
  else
   some false
 else
  some false).bind fun o97 =>
 some o97
def tappetlaw11_copied (p0 : api_Module) : Option api_Module :=
 ((room (([] : List Int).length + p0.Maps.length) 8).bind fun u78 =>
 (room (([] : List api_Inst).length + p0.Code.length) 40).bind fun u87 =>
 some ()).bind fun o72 =>
 some (api_Module.mk (([] : List Int) ++ p0.Maps) (([] : List api_Inst) ++ p0.Code))
def scratch_Counters_Raise_l1 (p1 : List Int) (again : (scratch_Counters × Int) -> Option scratch_Counters) (s166 : scratch_Counters × Int) : Option scratch_Counters :=
 if decide (s166.2 < (imin ((p1).length : Int) 16)) then
  (ain 16 s166.2).bind fun i181 =>
  (idx p1 s166.2).bind fun x183 =>
  again ((scratch_Counters.mk (aset s166.1.counts i181 (wu64 ((s166.1.counts i181) + x183)))), w64 (s166.2 + 1))
 else
  some s166.1
def scratch_Counters_Raise (fu : Nat) (p0 : scratch_Counters) (p1 : List Int) : Option scratch_Counters :=
 (loop (scratch_Counters_Raise_l1 p1) fu (p0, 0)).bind fun o96 =>
 some o96
def tappetref10_Book_Store (p0 : tappetref10_Book) (p1 : Int) (p2 : Int) : Option (Int × tappetref10_Book) :=
 if (decide (p1 < 0) || decide (p1 > 15)) then
  some (35, p0)
 else
  (room (p0.Asks.length + ([(tappetref10_Ask.mk 1 p1 p2)]).length) 24).bind fun u21 =>
  some (0, (tappetref10_Book.mk (p0.Asks ++ [(tappetref10_Ask.mk 1 p1 p2)])))
def tappetref10_Book_Raise_l1 (p1 : List Int) (again : (tappetref10_Book × Int) -> Option tappetref10_Book) (s240 : tappetref10_Book × Int) : Option tappetref10_Book :=
 if (decide (s240.2 < ((p1).length : Int)) && decide (s240.2 < 16)) then
  (idx p1 s240.2).bind fun x269 =>
  (room (s240.1.Asks.length + ([(tappetref10_Ask.mk 3 s240.2 x269)]).length) 24).bind fun u277 =>
  again ((tappetref10_Book.mk (s240.1.Asks ++ [(tappetref10_Ask.mk 3 s240.2 x269)])), w64 (s240.2 + 1))
 else
  some s240.1
def tappetref10_Book_Raise (fu : Nat) (p0 : tappetref10_Book) (p1 : List Int) : Option tappetref10_Book :=
 (loop (tappetref10_Book_Raise_l1 p1) fu (p0, 0)).bind fun o145 =>
 some o145
def tappetref09_Maps_l2 (p0 : List Int) (i781 : Nat) (i980 : Nat) (again : Unit -> Option (Unit ⊕ Bool)) (s979 : Unit) : Option (Unit ⊕ Bool) :=
 (idx p0 (i980 : Int)).bind fun x1001 =>
 (idx p0 (i781 : Int)).bind fun x1007 =>
 if (x1001 == x1007) then
  some (.inr false)
 else
  again ()
def tappetref09_Maps_l1 (p0 : List Int) (i781 : Nat) (again : Unit -> Option (Unit ⊕ Bool)) (s780 : Unit) : Option (Unit ⊕ Bool) :=
 ((idx p0 (i781 : Int)).bind fun x803 =>
 if decide (x803 < 0) then
  some true
 else
  some (decide (x803 > 3))).bind fun o801 =>
 if o801 then
  some (.inr false)
 else
  ((room i781 1).bind fun u982 =>
  forN (tappetref09_Maps_l2 p0 i781) (fun (s979 : Unit) => (.inl ())) i781 0 ()).bind fun o913 => match o913 with
   | .inl t915 =>
    again ()
   | .inr r => some (.inr r)
def tappetref09_Maps (fu : Nat) (p0 : List Int) : Option Bool :=
 if decide (((p0).length : Int) > 4) then
  some false
 else
  (forN (tappetref09_Maps_l1 p0) (fun (s780 : Unit) => (.inl ())) (p0).length 0 ()).bind fun o508 => match o508 with
   | .inl t510 =>
    some true
   | .inr r => some r
def tappetref02_reg (p0 : Int) : Option Bool :=
 some (decide (p0 >= 0) && decide (p0 <= 7))
def tappetref02_sourced (p0 : api_Inst) : Option Bool :=
 ((tappetref02_reg p0.B).bind fun r17 =>
 if r17 then
  if (p0.Imm == 0) then
   some true
  else
   some (p0.B == 8)
 else
  some (p0.B == 8)).bind fun o15 =>
 some o15
def tappetref02_Three (p0 : Int) : Option Bool :=
 some (decide (p0 >= 1) && decide (p0 <= 10))
def tappetref02_Jump (p0 : Int) : Option Bool :=
 some (decide (p0 >= 16) && decide (p0 <= 19))
def tappetref02_Right (p0 : api_Inst) : Option Bool :=
 if ((p0.Op == 0) || (p0.Op == 11)) then
  ((tappetref02_reg p0.D).bind fun r23 =>
  if r23 then
   if (p0.A == 0) then
    (tappetref02_sourced p0).bind fun r29 =>
    some r29
   else
    some false
  else
   some false).bind fun o21 =>
  some o21
 else
  (tappetref02_Three p0.Op).bind fun r37 =>
  if r37 then
   ((tappetref02_reg p0.D).bind fun r62 =>
   if r62 then
    (tappetref02_reg p0.A).bind fun r68 =>
    if r68 then
     (tappetref02_sourced p0).bind fun r73 =>
     some r73
    else
     some false
   else
    some false).bind fun o60 =>
   some o60
  else
   if (p0.Op == 12) then
    (if (p0.D == 0) then
     (tappetref02_reg p0.A).bind fun r91 =>
     if r91 then
      (tappetref02_sourced p0).bind fun r96 =>
      some r96
     else
      some false
    else
     some false).bind fun o88 =>
    some o88
   else
    if (p0.Op == 13) then
     ((tappetref02_reg p0.D).bind fun r115 =>
     if r115 then
      if (p0.A == 0) then
       if (p0.B == 0) then
        if (p0.Imm == 0) then
         some true
        else
         some (p0.Imm == 1)
       else
        some false
      else
       some false
     else
      some false).bind fun o113 =>
     some o113
    else
     if (p0.Op == 14) then
      ((tappetref02_reg p0.D).bind fun r138 =>
      if r138 then
       if (p0.A == 0) then
        if (p0.B == 0) then
         if decide (p0.Imm >= 0) then
          some (decide (p0.Imm <= 3))
         else
          some false
        else
         some false
       else
        some false
      else
       some false).bind fun o136 =>
      some o136
     else
      if (p0.Op == 15) then
       some ((((decide (p0.D >= 0) && decide (p0.D <= 63)) && (p0.A == 0)) && (p0.B == 0)) && (p0.Imm == 0))
      else
       (tappetref02_Jump p0.Op).bind fun r155 =>
       if r155 then
        (if decide (p0.D >= 0) then
         if decide (p0.D <= 63) then
          (tappetref02_reg p0.A).bind fun r175 =>
          if r175 then
           (tappetref02_sourced p0).bind fun r180 =>
           some r180
          else
           some false
         else
          some false
        else
         some false).bind fun o171 =>
        some o171
       else
        if (p0.Op == 20) then
         (if decide (p0.D >= 1) then
          if decide (p0.D <= 63) then
           (tappetref02_reg p0.A).bind fun r198 =>
           if r198 then
            if (p0.B == 0) then
             if decide (p0.Imm >= 1) then
              some (decide (p0.Imm <= 255))
             else
              some false
            else
             some false
           else
            some false
          else
           some false
         else
          some false).bind fun o194 =>
         some o194
        else
         if (p0.Op == 21) then
          some (((((p0.D == 0) && (p0.A == 0)) && (p0.B == 0)) && decide (p0.Imm >= 0)) && decide (p0.Imm <= 6))
         else
          if (p0.Op == 22) then
           (if (p0.D == 0) then
            (tappetref02_reg p0.A).bind fun r221 =>
            if r221 then
             if (p0.B == 0) then
              some (p0.Imm == 0)
             else
              some false
            else
             some false
           else
            some false).bind fun o218 =>
           some o218
          else
           some false
def tappetref02_Goes (p0 : api_Inst) : Option (Int × Bool × Bool) :=
 (tappetref02_Right p0).bind fun r9 =>
 if (!r9) then
  some (0, false, false)
 else
  if (p0.Op == 15) then
   some (w64 (p0.D + 1), true, false)
  else
   (tappetref02_Jump p0.Op).bind fun r19 =>
   if r19 then
    some (w64 (p0.D + 1), true, true)
   else
    if (p0.Op == 20) then
     some (w64 (0 - p0.D), true, true)
    else
     some (0, false, (p0.Op != 22))
def tappetref07_bodies_l2 (i1997 : Nat) (again : ((List (List Int)) × Int) -> Option (List (List Int))) (s2331 : (List (List Int)) × Int) : Option (List (List Int)) :=
 if decide (s2331.2 <= (i1997 : Int)) then
  (idx s2331.1 s2331.2).bind fun x2363 =>
  (room (x2363.length + ([(i1997 : Int)]).length) 8).bind fun u2378 =>
  again ((s2331.1.set (Int.toNat s2331.2) (x2363 ++ [(i1997 : Int)])), w64 (s2331.2 + 1))
 else
  some s2331.1
def tappetref07_bodies_l1 (fu : Nat) (p0 : List api_Inst) (i1997 : Nat) (again : (List (List Int)) -> Option (List (List Int))) (s1995 : (List (List Int))) : Option (List (List Int)) :=
 (idx p0 (i1997 : Int)).bind fun x2006 =>
 if (x2006.Op != 20) then
  again s1995
 else
  (loop (tappetref07_bodies_l2 i1997) fu (s1995, w64 ((i1997 : Int) - x2006.D))).bind fun o2206 =>
  again o2206
def tappetref07_bodies (fu : Nat) (p0 : List api_Inst) : Option (List (List Int)) :=
 (mkLen ((p0).length : Int) 24).bind fun m8 =>
 (forN (tappetref07_bodies_l1 fu p0) (fun (s1995 : (List (List Int))) => s1995) (p0).length 0 (List.replicate m8 [])).bind fun o1202 =>
 some o1202
def tappetref07_has_l1 (p0 : List Int) (p1 : Int) (i87 : Nat) (again : Unit -> Option (Unit ⊕ Bool)) (s86 : Unit) : Option (Unit ⊕ Bool) :=
 (idx p0 (i87 : Int)).bind fun x96 =>
 if (x96 == p1) then
  some (.inr true)
 else
  again ()
def tappetref07_has (p0 : List Int) (p1 : Int) : Option Bool :=
 (forN (tappetref07_has_l1 p0 p1) (fun (s86 : Unit) => (.inl ())) (p0).length 0 ()).bind fun o52 => match o52 with
  | .inl t54 =>
   some false
  | .inr r => some r
def tappetref07_crossing_l3 (p1 : List (List Int)) (i5985 : Nat) (i7636 : Nat) (i7911 : Nat) (again : (Int × Bool) -> Option (Int × Bool)) (s7910 : Int × Bool) : Option (Int × Bool) :=
 (idx p1 (i7911 : Int)).bind fun x7932 =>
 (tappetref07_has x7932 (i7636 : Int)).bind fun r7946 =>
 if r7946 then
  (tappetref07_has x7932 (i5985 : Int)).bind fun r7957 =>
  if r7957 then
   again (w64 (s7910.1 + 1), s7910.2)
  else
   again (s7910.1, false)
 else
  again (s7910.1, s7910.2)
def tappetref07_crossing_l2 (p0 : List api_Inst) (p1 : List (List Int)) (i5985 : Nat) (i7636 : Nat) (again : Unit -> Option (Unit ⊕ (Int × Bool))) (s7635 : Unit) : Option (Unit ⊕ (Int × Bool)) :=
 (idx p0 (i7636 : Int)).bind fun x7647 =>
 if (x7647.Op != 20) then
  again ()
 else
  (forN (tappetref07_crossing_l3 p1 i5985 i7636) (fun (s7910 : Int × Bool) => (s7910.1, s7910.2)) (p0).length 0 (0, true)).bind fun o7807 =>
  if (decide (o7807.1 > 0) && (!o7807.2)) then
   some (.inr ((i5985 : Int), true))
  else
   again ()
def tappetref07_crossing_l1 (p0 : List api_Inst) (p1 : List (List Int)) (i5985 : Nat) (again : Unit -> Option (Unit ⊕ (Int × Bool))) (s5984 : Unit) : Option (Unit ⊕ (Int × Bool)) :=
 (idx p0 (i5985 : Int)).bind fun x5994 =>
 if (x5994.Op != 20) then
  again ()
 else
  ((room i5985 1).bind fun u7638 =>
  forN (tappetref07_crossing_l2 p0 p1 i5985) (fun (s7635 : Unit) => (.inl ())) i5985 0 ()).bind fun o6981 => match o6981 with
   | .inl t6983 =>
    again ()
   | .inr r => some (.inr r)
def tappetref07_crossing (fu : Nat) (p0 : List api_Inst) (p1 : List (List Int)) : Option (Int × Bool) :=
 (forN (tappetref07_crossing_l1 p0 p1) (fun (s5984 : Unit) => (.inl ())) (p0).length 0 ()).bind fun o3984 => match o3984 with
  | .inl t3986 =>
   some (0, false)
  | .inr r => some r
def tappetref07_entering_l2 (p0 : List api_Inst) (p1 : List (List Int)) (i3610 : Nat) (r3629 : Int × Bool × Bool) (again : Int -> Option (Unit ⊕ (Int × Bool))) (s4215 : Int) : Option (Unit ⊕ (Int × Bool)) :=
 (idx p1 (w64 ((i3610 : Int) + r3629.1))).bind fun x4230 =>
 if decide (s4215 < ((x4230).length : Int)) then
  (idx x4230 s4215).bind fun x4253 =>
  ((idx p1 (i3610 : Int)).bind fun x4304 =>
  (tappetref07_has x4304 x4253).bind fun r4318 =>
  if (!r4318) then
   (idx p0 x4253).bind fun x4323 =>
   some ((w64 ((i3610 : Int) + r3629.1)) != (w64 (x4253 - x4323.D)))
  else
   some false).bind fun o4302 =>
  if o4302 then
   some (.inr ((i3610 : Int), true))
  else
   again (w64 (s4215 + 1))
 else
  some (.inl ())
def tappetref07_entering_l1 (fu : Nat) (p0 : List api_Inst) (p1 : List (List Int)) (i3610 : Nat) (again : Unit -> Option (Unit ⊕ (Int × Bool))) (s3609 : Unit) : Option (Unit ⊕ (Int × Bool)) :=
 (idx p0 (i3610 : Int)).bind fun x3623 =>
 (tappetref02_Goes x3623).bind fun r3629 =>
 if ((!r3629.2.1) || decide (r3629.1 < 0)) then
  again ()
 else
  (loop (tappetref07_entering_l2 p0 p1 i3610 r3629) fu 0).bind fun o3981 => match o3981 with
   | .inl t3983 =>
    again ()
   | .inr r => some (.inr r)
def tappetref07_entering (fu : Nat) (p0 : List api_Inst) (p1 : List (List Int)) : Option (Int × Bool) :=
 (forN (tappetref07_entering_l1 fu p0 p1) (fun (s3609 : Unit) => (.inl ())) (p0).length 0 ()).bind fun o2167 => match o2167 with
  | .inl t2169 =>
   some (0, false)
  | .inr r => some r
def tappetref07_cost_l2 (p0 : List api_Inst) (p1 : List (List Int)) (i3044 : Nat) (again : (Int × Int) -> Option Int) (s3551 : Int × Int) : Option Int :=
 ((idx p1 (i3044 : Int)).bind fun x3583 =>
 if decide (s3551.2 < ((x3583).length : Int)) then
  some (decide (s3551.1 <= 256))
 else
  some false).bind fun o3581 =>
 if o3581 then
  (idx p1 (i3044 : Int)).bind fun x3625 =>
  (idx x3625 s3551.2).bind fun x3639 =>
  (idx p0 x3639).bind fun x3645 =>
  again (w64 (s3551.1 * (w64 (x3645.Imm + 1))), w64 (s3551.2 + 1))
 else
  some s3551.1
def tappetref07_cost_l1 (fu : Nat) (p0 : List api_Inst) (p1 : List (List Int)) (i3044 : Nat) (again : Int -> Option Int) (s3043 : Int) : Option Int :=
 (loop (tappetref07_cost_l2 p0 p1 i3044) fu (1, 0)).bind fun o3348 =>
 again (w64 (s3043 + o3348))
def tappetref07_cost (fu : Nat) (p0 : List api_Inst) (p1 : List (List Int)) : Option Int :=
 (forN (tappetref07_cost_l1 fu p0 p1) (fun (s3043 : Int) => s3043) (p0).length 0 0).bind fun o1828 =>
 some o1828
def tappetref07_Check_l1 (p0 : List api_Inst) (i234 : Nat) (again : Unit -> Option (Unit ⊕ (Int × Int))) (s233 : Unit) : Option (Unit ⊕ (Int × Int)) :=
 (idx p0 (i234 : Int)).bind fun x247 =>
 (tappetref02_Right x247).bind fun r253 =>
 if (!r253) then
  some (.inr ((i234 : Int), 12))
 else
  (tappetref02_Goes x247).bind fun r270 =>
  if (r270.2.1 && (decide ((w64 ((i234 : Int) + r270.1)) < 0) || decide ((w64 ((i234 : Int) + r270.1)) > (w64 (((p0).length : Int) - 1))))) then
   some (.inr ((i234 : Int), 30))
  else
   if (r270.2.2 && ((w64 ((i234 : Int) + 1)) == ((p0).length : Int))) then
    some (.inr ((i234 : Int), 36))
   else
    again ()
def tappetref07_Check (fu : Nat) (p0 : List api_Inst) : Option (Int × Int) :=
 if (((p0).length : Int) == 0) then
  some (0, 10)
 else
  if decide (((p0).length : Int) > 64) then
   some (0, 11)
  else
   (forN (tappetref07_Check_l1 p0) (fun (s233 : Unit) => (.inl ())) (p0).length 0 ()).bind fun o141 => match o141 with
    | .inl t143 =>
     (tappetref07_bodies fu p0).bind fun r287 =>
     (tappetref07_crossing fu p0 r287).bind fun r299 =>
     if r299.2 then
      some (r299.1, 31)
     else
      (tappetref07_entering fu p0 r287).bind fun r308 =>
      if r308.2 then
       some (r308.1, 31)
      else
       (tappetref07_cost fu p0 r287).bind fun r317 =>
       if decide (r317 > 256) then
        some (0, 32)
       else
        some (0, 0)
    | .inr r => some r
def tappetref09_num (p0 : Int) (p1 : Int) : Option api_Type :=
 some (api_Type.mk 1 (api_Span.mk p0 p1) 0)
def tappetref09_source (p0 : api_Inst) (p1 : List api_Type) : Option api_Type :=
 if (p0.B == 8) then
  (tappetref09_num (wu64 p0.Imm) (wu64 p0.Imm)).bind fun r18 =>
  some r18
 else
  (idx p1 p0.B).bind fun x30 =>
  some x30
def tappetref06_Right (p0 : api_Span) : Option Bool :=
 some (!decide (p0.Hi < p0.Lo))
def tappetref05_plus_l1 (p0 : Int) (p1 : Int) (i40 : Nat) (again : (Int × Int) -> Option Int) (s39 : Int × Int) : Option Int :=
 again (bOr .u64 s39.1 (bShl .u64 (bAnd .u64 (wu64 ((wu64 ((bAnd .u64 (bShr .u64 p0 (wu64 (i40 : Int))) 1) + (bAnd .u64 (bShr .u64 p1 (wu64 (i40 : Int))) 1))) + s39.2)) 1) (wu64 (i40 : Int))), bShr .u64 (wu64 ((wu64 ((bAnd .u64 (bShr .u64 p0 (wu64 (i40 : Int))) 1) + (bAnd .u64 (bShr .u64 p1 (wu64 (i40 : Int))) 1))) + s39.2)) 1)
def tappetref05_plus (p0 : Int) (p1 : Int) : Option Int :=
 (forN (tappetref05_plus_l1 p0 p1) (fun (s39 : Int × Int) => s39.1) 64 0 (0, 0)).bind fun o21 =>
 some o21
def tappetref05_minus (p0 : Int) (p1 : Int) : Option Int :=
 (tappetref05_plus (bXor .u64 18446744073709551615 p1) 1).bind fun r9 =>
 (tappetref05_plus p0 r9).bind fun r13 =>
 some r13
def tappetref05_times_l1 (p1 : Int) (i164 : Nat) (again : (Int × Int) -> Option Int) (s163 : Int × Int) : Option Int :=
 (if ((bAnd .u64 (bShr .u64 p1 (wu64 (i164 : Int))) 1) == 1) then
  (tappetref05_plus s163.2 s163.1).bind fun r183 =>
  some r183
 else
  some s163.2).bind fun o176 =>
 (tappetref05_plus s163.1 s163.1).bind fun r191 =>
 again (r191, o176)
def tappetref05_times (p0 : Int) (p1 : Int) : Option Int :=
 (forN (tappetref05_times_l1 p1) (fun (s163 : Int × Int) => s163.2) 64 0 (p0, 0)).bind fun o97 =>
 some o97
def tappetref05_split_l1 (p0 : Int) (p1 : Int) (again : (Int × Int × Int) -> Option (Int × Int)) (s88 : Int × Int × Int) : Option (Int × Int) :=
 if decide (s88.2.2 >= 0) then
  (nn (wu64 s88.2.2)).bind fun u92 =>
  if (((bShr .u64 s88.2.1 63) == 1) || decide ((bOr .u64 (bShl .u64 s88.2.1 1) (bAnd .u64 (bShr .u64 p0 (wu64 s88.2.2)) 1)) >= p1)) then
   (tappetref05_minus (bOr .u64 (bShl .u64 s88.2.1 1) (bAnd .u64 (bShr .u64 p0 (wu64 s88.2.2)) 1)) p1).bind fun r100 =>
   (nn (wu64 s88.2.2)).bind fun u106 =>
   again (bOr .u64 s88.1 (bShl .u64 1 (wu64 s88.2.2)), r100, w64 (s88.2.2 - 1))
  else
   again (s88.1, bOr .u64 (bShl .u64 s88.2.1 1) (bAnd .u64 (bShr .u64 p0 (wu64 s88.2.2)) 1), w64 (s88.2.2 - 1))
 else
  some (s88.1, s88.2.1)
def tappetref05_split (fu : Nat) (p0 : Int) (p1 : Int) : Option (Int × Int) :=
 (loop (tappetref05_split_l1 p0 p1) fu (0, 0, 63)).bind fun o53 =>
 some (o53.1, o53.2)
def tappetref05_Do_l1 (p0 : Int) (p2 : Int) (again : (Int × Int) -> Option Int) (s126 : Int × Int) : Option Int :=
 if (decide (s126.2 < p2) && decide (s126.1 > 0)) then
  if (p0 == 9) then
   (tappetref05_plus s126.1 s126.1).bind fun r134 =>
   again (r134, wu64 (s126.2 + 1))
  else
   again (wu64 (s126.1.tdiv 2), wu64 (s126.2 + 1))
 else
  some s126.1
def tappetref05_Do (fu : Nat) (p0 : Int) (p1 : Int) (p2 : Int) : Option (Int × Bool) :=
 if (p0 == 1) then
  (tappetref05_plus p1 p2).bind fun r6 =>
  some (r6, true)
 else
  if (p0 == 2) then
   (tappetref05_minus p1 p2).bind fun r15 =>
   some (r15, true)
  else
   if (p0 == 3) then
    (tappetref05_times p1 p2).bind fun r24 =>
    some (r24, true)
   else
    (if (p0 == 4) then
     some (p0 == 4)
    else
     some (p0 == 5)).bind fun o29 =>
    if o29 then
     (if decide (p2 > 0) then
      (tappetref05_split fu p1 p2).bind fun r49 =>
      some (r49.1, r49.2)
     else
      some (0, p1)).bind fun o42 =>
     if (p0 == 4) then
      some (o42.1, true)
     else
      some (o42.2, true)
    else
     if (p0 == 6) then
      some (bXor .u64 18446744073709551615 (bOr .u64 (bXor .u64 18446744073709551615 p1) (bXor .u64 18446744073709551615 p2)), true)
     else
      if (p0 == 7) then
       some (bXor .u64 18446744073709551615 (bAnd .u64 (bXor .u64 18446744073709551615 p1) (bXor .u64 18446744073709551615 p2)), true)
      else
       if (p0 == 8) then
        some (bOr .u64 (bAndNot .u64 p1 p2) (bAndNot .u64 p2 p1), true)
       else
        (if (p0 == 9) then
         some (p0 == 9)
        else
         some (p0 == 10)).bind fun o58 =>
        if o58 then
         (loop (tappetref05_Do_l1 p0 p2) fu (p1, 0)).bind fun o99 =>
         some (o99, true)
        else
         some (0, false)
def tappetref06_great (p0 : Int) (p1 : Int) : Option Bool :=
 (if decide (p0 > 0) then
  (nz p0).bind fun u7 =>
  some (decide (p1 > (wu64 (Int.tdiv 18446744073709551615 p0))))
 else
  some false).bind fun o4 =>
 some o4
def tappetref06_form_l1 (p0 : Int) (again : Int -> Option Int) (s15 : Int) : Option Int :=
 if decide (s15 < p0) then
  again (wu64 ((wu64 (2 * s15)) + 1))
 else
  some s15
def tappetref06_form (fu : Nat) (p0 : Int) : Option Int :=
 (loop (tappetref06_form_l1 p0) fu 0).bind fun o8 =>
 some o8
def tappetref06_shifted_l1 (p1 : Int) (again : (api_Span × Int) -> Option (api_Span ⊕ (api_Span × Bool))) (s64 : api_Span × Int) : Option (api_Span ⊕ (api_Span × Bool)) :=
 if (decide (s64.2 < p1) && decide (s64.1.Hi > 0)) then
  if decide (s64.1.Hi > 9223372036854775807) then
   some (.inr ((api_Span.mk 0 0), false))
  else
   again ((api_Span.mk (wu64 (2 * s64.1.Lo)) (wu64 (2 * s64.1.Hi))), wu64 (s64.2 + 1))
 else
  some (.inl s64.1)
def tappetref06_shifted (fu : Nat) (p0 : api_Span) (p1 : Int) : Option (api_Span × Bool) :=
 (loop (tappetref06_shifted_l1 p1) fu (p0, 0)).bind fun o40 => match o40 with
  | .inl t42 =>
   some (t42, true)
  | .inr r => some r
def tappetref06_half_l1 (p1 : Int) (again : (Int × Int) -> Option Int) (s20 : Int × Int) : Option Int :=
 if (decide (s20.2 < p1) && decide (s20.1 > 0)) then
  again (wu64 (s20.1.tdiv 2), wu64 (s20.2 + 1))
 else
  some s20.1
def tappetref06_half (fu : Nat) (p0 : Int) (p1 : Int) : Option Int :=
 (loop (tappetref06_half_l1 p1) fu (p0, 0)).bind fun o11 =>
 some o11
def tappetref06_Do (fu : Nat) (p0 : Int) (p1 : api_Span) (p2 : api_Span) : Option (api_Span × Bool) :=
 (if decide (p0 < 1) then
  some true
 else
  if decide (p0 > 10) then
   some true
  else
   (tappetref06_Right p1).bind fun r28 =>
   if (!r28) then
    some true
   else
    (tappetref06_Right p2).bind fun r33 =>
    some (!r33)).bind fun o24 =>
 if o24 then
  some ((api_Span.mk 0 0), false)
 else
  if ((p1.Lo == p1.Hi) && (p2.Lo == p2.Hi)) then
   (tappetref05_Do fu p0 p1.Lo p2.Lo).bind fun r52 =>
   some ((api_Span.mk r52.1 r52.1), true)
  else
   if (p0 == 1) then
    if decide (p1.Hi > (wu64 (18446744073709551615 - p2.Hi))) then
     some ((api_Span.mk 0 18446744073709551615), true)
    else
     some ((api_Span.mk (wu64 (p1.Lo + p2.Lo)) (wu64 (p1.Hi + p2.Hi))), true)
   else
    if (p0 == 2) then
     if decide (p1.Lo < p2.Hi) then
      some ((api_Span.mk 0 18446744073709551615), true)
     else
      some ((api_Span.mk (wu64 (p1.Lo - p2.Hi)) (wu64 (p1.Hi - p2.Lo))), true)
    else
     if (p0 == 3) then
      (tappetref06_great p1.Hi p2.Hi).bind fun r75 =>
      if r75 then
       some ((api_Span.mk 0 18446744073709551615), true)
      else
       some ((api_Span.mk (wu64 (p1.Lo * p2.Lo)) (wu64 (p1.Hi * p2.Hi))), true)
     else
      if (p0 == 4) then
       if (p2.Lo == 0) then
        some ((api_Span.mk 0 p1.Hi), true)
       else
        (nz p2.Hi).bind fun u97 =>
        (nz p2.Lo).bind fun u99 =>
        some ((api_Span.mk (wu64 (p1.Lo.tdiv p2.Hi)) (wu64 (p1.Hi.tdiv p2.Lo))), true)
      else
       if (p0 == 5) then
        if (p2.Lo == 0) then
         some ((api_Span.mk 0 p1.Hi), true)
        else
         if decide (p1.Hi < p2.Lo) then
          some (p1, true)
         else
          some ((api_Span.mk 0 (imin p1.Hi (wu64 (p2.Hi - 1)))), true)
       else
        if (p0 == 6) then
         some ((api_Span.mk 0 (imin p1.Hi p2.Hi)), true)
        else
         if (p0 == 7) then
          (tappetref06_form fu (imax p1.Hi p2.Hi)).bind fun r124 =>
          some ((api_Span.mk (imax p1.Lo p2.Lo) r124), true)
         else
          if (p0 == 8) then
           (tappetref06_form fu (imax p1.Hi p2.Hi)).bind fun r135 =>
           some ((api_Span.mk 0 r135), true)
          else
           if (p0 == 9) then
            if (p2.Lo != p2.Hi) then
             some ((api_Span.mk 0 18446744073709551615), true)
            else
             (tappetref06_shifted fu p1 p2.Lo).bind fun r151 =>
             if (!r151.2) then
              some ((api_Span.mk 0 18446744073709551615), true)
             else
              some (r151.1, true)
           else
            (tappetref06_half fu p1.Lo p2.Hi).bind fun r176 =>
            (tappetref06_half fu p1.Hi p2.Lo).bind fun r180 =>
            some ((api_Span.mk r176 r180), true)
def tappetref09_full  : Option api_Type :=
 (tappetref09_num 0 18446744073709551615).bind fun r10 =>
 some r10
def tappetref08_num (p0 : Int) : Option api_Type :=
 some (api_Type.mk 1 (api_Span.mk 0 p0) 0)
def tappetref08_Result (p0 : Int) : Option (api_Type × Bool) :=
 (if (p0 == 0) then
  some (p0 == 0)
 else
  if (p0 == 4) then
   some (p0 == 4)
  else
   some (p0 == 5)).bind fun o7 =>
 if o7 then
  (tappetref08_num 18446744073709551615).bind fun r17 =>
  some (r17, true)
 else
  (if (p0 == 1) then
   some (p0 == 1)
  else
   if (p0 == 2) then
    some (p0 == 2)
   else
    some (p0 == 3)).bind fun o24 =>
  if o24 then
   (tappetref08_num 1).bind fun r34 =>
   some (r34, true)
  else
   if (p0 == 6) then
    (tappetref08_num 0).bind fun r45 =>
    some (r45, true)
   else
    some ((api_Type.mk 0 (api_Span.mk 0 0) 0), false)
def tappetref06_Has (p0 : api_Span) (p1 : Int) : Option Bool :=
 ((tappetref06_Right p0).bind fun r17 =>
 if r17 then
  if decide (p1 >= p0.Lo) then
   some (decide (p1 <= p0.Hi))
  else
   some false
 else
  some false).bind fun o15 =>
 some o15
def tappetref06_Refine (p0 : Int) (p1 : api_Span) (p2 : api_Span) (p3 : Bool) : Option (api_Span × Bool) :=
 (if decide (p0 < 16) then
  some true
 else
  if decide (p0 > 19) then
   some true
  else
   (tappetref06_Right p1).bind fun r28 =>
   if (!r28) then
    some true
   else
    (tappetref06_Right p2).bind fun r33 =>
    some (!r33)).bind fun o24 =>
 if o24 then
  some ((api_Span.mk 0 0), false)
 else
  if (p2.Lo != p2.Hi) then
   some (p1, true)
  else
   if (((p0 == 18) && p3) || ((p0 == 19) && (!p3))) then
    if decide (p1.Lo >= p2.Lo) then
     some ((api_Span.mk 0 0), false)
    else
     some ((api_Span.mk p1.Lo (imin p1.Hi (wu64 (p2.Lo - 1)))), true)
   else
    if decide (p0 >= 18) then
     if decide (p1.Hi < p2.Lo) then
      some ((api_Span.mk 0 0), false)
     else
      some ((api_Span.mk (imax p1.Lo p2.Lo) p1.Hi), true)
    else
     if (((p0 == 16) && p3) || ((p0 == 17) && (!p3))) then
      (tappetref06_Has p1 p2.Lo).bind fun r68 =>
      if (!r68) then
       some ((api_Span.mk 0 0), false)
      else
       some (p2, true)
     else
      if ((p1.Lo == p2.Lo) && (p1.Hi == p2.Lo)) then
       some ((api_Span.mk 0 0), false)
      else
       if (p1.Lo == p2.Lo) then
        some ((api_Span.mk (wu64 (p2.Lo + 1)) p1.Hi), true)
       else
        if (p1.Hi == p2.Lo) then
         some ((api_Span.mk p1.Lo (wu64 (p2.Lo - 1))), true)
        else
         some (p1, true)
def tappetref09_Leaves (fu : Nat) (p0 : api_Module) (p1 : Int) (p2 : List api_Type) (p3 : Bool) : Option ((List api_Type) × Bool) :=
 (idx p0.Code p1).bind fun x23 =>
 (room (([] : List api_Type).length + p2.length) 32).bind fun u43 =>
 if (x23.Op == 0) then
  (tappetref09_source x23 p2).bind fun r67 =>
  (idx (([] : List api_Type) ++ p2) x23.D).bind fun x71 =>
  some (((([] : List api_Type) ++ p2).set (Int.toNat x23.D) r67), true)
 else
  (tappetref02_Three x23.Op).bind fun r82 =>
  if r82 then
   ((idx p2 x23.A).bind fun x137 =>
   (tappetref09_source x23 p2).bind fun r143 =>
   (tappetref06_Do fu x23.Op x137.Span r143.Span).bind fun r147 =>
   some r147.1).bind fun o133 =>
   (tappetref09_num o133.Lo o133.Hi).bind fun r187 =>
   (idx (([] : List api_Type) ++ p2) x23.D).bind fun x191 =>
   some (((([] : List api_Type) ++ p2).set (Int.toNat x23.D) r187), true)
  else
   if ((x23.Op == 11) || (x23.Op == 13)) then
    tappetref09_full.bind fun r215 =>
    (idx (([] : List api_Type) ++ p2) x23.D).bind fun x219 =>
    some (((([] : List api_Type) ++ p2).set (Int.toNat x23.D) r215), true)
   else
    if (x23.Op == 14) then
     (idx (([] : List api_Type) ++ p2) x23.D).bind fun x234 =>
     some (((([] : List api_Type) ++ p2).set (Int.toNat x23.D) (api_Type.mk 2 (api_Span.mk 0 0) x23.Imm)), true)
    else
     if (x23.Op == 21) then
      (tappetref08_Result x23.Imm).bind fun r249 =>
      (idx (([] : List api_Type) ++ p2) 0).bind fun x263 =>
      some (((([] : List api_Type) ++ p2).set (Int.toNat 0) r249.1), true)
     else
      (tappetref02_Jump x23.Op).bind fun r274 =>
      if r274 then
       ((idx p2 x23.A).bind fun x329 =>
       (tappetref09_source x23 p2).bind fun r335 =>
       (tappetref06_Refine x23.Op x329.Span r335.Span p3).bind fun r339 =>
       some (r339.1, r339.2)).bind fun o325 =>
       if (!o325.2) then
        some (([] : List api_Type), false)
       else
        (tappetref09_num o325.1.Lo o325.1.Hi).bind fun r380 =>
        (idx (([] : List api_Type) ++ p2) x23.A).bind fun x384 =>
        some (((([] : List api_Type) ++ p2).set (Int.toNat x23.A) r380), true)
      else
       some ((([] : List api_Type) ++ p2), true)
def tappetref09_comes_l1 (fu : Nat) (p0 : api_Module) (p1 : Int) (p2 : List (List api_Type)) (again : ((List (List api_Type)) × Int) -> Option (List (List api_Type))) (s1127 : (List (List api_Type)) × Int) : Option (List (List api_Type)) :=
 if decide (s1127.2 < p1) then
  (idx p2 s1127.2).bind fun x1148 =>
  if (((x1148).length : Int) == 0) then
   again (s1127.1, w64 (s1127.2 + 1))
  else
   (idx p0.Code s1127.2).bind fun x1174 =>
   (tappetref02_Goes x1174).bind fun r1180 =>
   (if (r1180.2.1 && ((w64 (s1127.2 + r1180.1)) == p1)) then
    (tappetref09_Leaves fu p0 s1127.2 x1148 true).bind fun r1250 =>
    if r1250.2 then
     (room (s1127.1.length + ([r1250.1]).length) 24).bind fun u1273 =>
     some (s1127.1 ++ [r1250.1])
    else
     some s1127.1
   else
    some s1127.1).bind fun o1233 =>
   if (r1180.2.2 && ((w64 (s1127.2 + 1)) == p1)) then
    (tappetref09_Leaves fu p0 s1127.2 x1148 false).bind fun r1303 =>
    if r1303.2 then
     (room (o1233.length + ([r1303.1]).length) 24).bind fun u1326 =>
     again ((o1233 ++ [r1303.1]), w64 (s1127.2 + 1))
    else
     again (o1233, w64 (s1127.2 + 1))
   else
    again (o1233, w64 (s1127.2 + 1))
 else
  some s1127.1
def tappetref09_comes (fu : Nat) (p0 : api_Module) (p1 : Int) (p2 : List (List api_Type)) : Option (List (List api_Type)) :=
 (if (p1 == 0) then
  (mkLen 8 32).bind fun m65 =>
  (room (([] : List (List api_Type)).length + ([(List.replicate m65 (api_Type.mk 0 (api_Span.mk 0 0) 0))]).length) 24).bind fun u72 =>
  some (([] : List (List api_Type)) ++ [(List.replicate m65 (api_Type.mk 0 (api_Span.mk 0 0) 0))])
 else
  some ([] : List (List api_Type))).bind fun o47 =>
 (loop (tappetref09_comes_l1 fu p0 p1 p2) fu (o47, 0)).bind fun o710 =>
 some o710
def tappetref06_Join_l1 (p0 : List api_Span) (i415 : Nat) (again : api_Span -> Option (api_Span ⊕ (api_Span × Bool))) (s414 : api_Span) : Option (api_Span ⊕ (api_Span × Bool)) :=
 (idx p0 (i415 : Int)).bind fun x428 =>
 (tappetref06_Right x428).bind fun r434 =>
 if (!r434) then
  some (.inr ((api_Span.mk 0 0), false))
 else
  (if ((i415 : Int) == 0) then
   some true
  else
   some (decide (x428.Lo < s414.Lo))).bind fun o450 =>
  (if o450 then
   some x428.Lo
  else
   some s414.Lo).bind fun o470 =>
  (if ((i415 : Int) == 0) then
   some true
  else
   some (decide (x428.Hi > s414.Hi))).bind fun o492 =>
  if o492 then
   again (api_Span.mk o470 x428.Hi)
  else
   again (api_Span.mk o470 s414.Hi)
def tappetref06_Join (p0 : List api_Span) : Option (api_Span × Bool) :=
 (forN (tappetref06_Join_l1 p0) (fun (s414 : api_Span) => (.inl s414)) (p0).length 0 (api_Span.mk 0 0)).bind fun o261 => match o261 with
  | .inl t263 =>
   some (t263, decide (((p0).length : Int) > 0))
  | .inr r => some r
def tappetref09_joined_l1 (p0 : List api_Type) (i563 : Nat) (again : (List api_Span) -> Option ((List api_Span) ⊕ api_Type)) (s561 : (List api_Span)) : Option ((List api_Span) ⊕ api_Type) :=
 ((idx p0 (i563 : Int)).bind fun x615 =>
 (idx p0 0).bind fun x621 =>
 if (x615.Kind != x621.Kind) then
  some true
 else
  if (x615.Kind == 2) then
   some (x615.Map != x621.Map)
  else
   some false).bind fun o611 =>
 if o611 then
  some (.inr (api_Type.mk 0 (api_Span.mk 0 0) 0))
 else
  (idx p0 (i563 : Int)).bind fun x659 =>
  (room (s561.length + ([x659.Span]).length) 16).bind fun u667 =>
  again (s561 ++ [x659.Span])
def tappetref09_joined (p0 : List api_Type) : Option api_Type :=
 (forN (tappetref09_joined_l1 p0) (fun (s561 : (List api_Span)) => (.inl s561)) (p0).length 0 ([] : List api_Span)).bind fun o340 => match o340 with
  | .inl t342 =>
   (idx p0 0).bind fun x685 =>
   if (x685.Kind == 1) then
    (tappetref06_Join t342).bind fun r699 =>
    (tappetref09_num r699.1.Lo r699.1.Hi).bind fun r711 =>
    some r711
   else
    some x685
  | .inr r => some r
def tappetref02_Writes (p0 : api_Inst) : Option (Int × Bool) :=
 (tappetref02_Right p0).bind fun r9 =>
 if (!r9) then
  some (0, false)
 else
  if ((decide (p0.Op <= 11) || (p0.Op == 13)) || (p0.Op == 14)) then
   some (p0.D, true)
  else
   some (0, (p0.Op == 21))
def tappetref09_at_l2 (r22 : (List (List api_Type))) (i2175 : Nat) (i2511 : Nat) (again : (List api_Type) -> Option (List api_Type)) (s2508 : (List api_Type)) : Option (List api_Type) :=
 (idx r22 (i2511 : Int)).bind fun x2545 =>
 (idx x2545 (i2175 : Int)).bind fun x2558 =>
 (room (s2508.length + ([x2558]).length) 32).bind fun u2566 =>
 again (s2508 ++ [x2558])
def tappetref09_at_l1 (r22 : (List (List api_Type))) (i2175 : Nat) (again : (List api_Type) -> Option (List api_Type)) (s2173 : (List api_Type)) : Option (List api_Type) :=
 (forN (tappetref09_at_l2 r22 i2175) (fun (s2508 : (List api_Type)) => s2508) (r22).length 0 ([] : List api_Type)).bind fun o2376 =>
 (tappetref09_joined o2376).bind fun r2590 =>
 (idx s2173 (i2175 : Int)).bind fun x2594 =>
 again (s2173.set (Int.toNat (i2175 : Int)) r2590)
def tappetref09_at_l4 (p0 : api_Module) (i6303 : Nat) (again : ((List api_Type) × Int) -> Option (List api_Type)) (s6926 : (List api_Type) × Int) : Option (List api_Type) :=
 if decide (s6926.2 <= (i6303 : Int)) then
  (idx p0.Code s6926.2).bind fun x6938 =>
  (tappetref02_Writes x6938).bind fun r6944 =>
  (if r6944.2 then
   (idx s6926.1 r6944.1).bind fun x6958 =>
   some (x6958.Kind == 1)
  else
   some false).bind fun o6955 =>
  (if o6955 then
   tappetref09_full.bind fun r7001 =>
   (idx s6926.1 r6944.1).bind fun x7005 =>
   some (s6926.1.set (Int.toNat r6944.1) r7001)
  else
   some s6926.1).bind fun o6987 =>
  (if r6944.2 then
   (idx o6987 r6944.1).bind fun x7022 =>
   some (x7022.Kind == 2)
  else
   some false).bind fun o7019 =>
  if o7019 then
   (idx o6987 r6944.1).bind fun x7036 =>
   again ((o6987.set (Int.toNat r6944.1) (api_Type.mk 0 (api_Span.mk 0 0) 0)), w64 (s6926.2 + 1))
  else
   again (o6987, w64 (s6926.2 + 1))
 else
  some s6926.1
def tappetref09_at_l3 (fu : Nat) (p0 : api_Module) (p1 : Int) (i6303 : Nat) (again : (List api_Type) -> Option (List api_Type)) (s6302 : (List api_Type)) : Option (List api_Type) :=
 ((idx p0.Code (i6303 : Int)).bind fun x6325 =>
 if (x6325.Op != 20) then
  some true
 else
  some ((w64 ((i6303 : Int) - x6325.D)) != p1)).bind fun o6323 =>
 if o6323 then
  again s6302
 else
  (loop (tappetref09_at_l4 p0 i6303) fu (s6302, p1)).bind fun o6689 =>
  again o6689
def tappetref09_at (fu : Nat) (p0 : api_Module) (p1 : Int) (p2 : List (List api_Type)) : Option (List api_Type) :=
 (tappetref09_comes fu p0 p1 p2).bind fun r22 =>
 if (((r22).length : Int) == 0) then
  some ([] : List api_Type)
 else
  (mkLen 8 32).bind fun m35 =>
  (forN (tappetref09_at_l1 r22) (fun (s2173 : (List api_Type)) => s2173) 8 0 (List.replicate m35 (api_Type.mk 0 (api_Span.mk 0 0) 0))).bind fun o1319 =>
  (forN (tappetref09_at_l3 fu p0 p1) (fun (s6302 : (List api_Type)) => s6302) (p0.Code).length 0 o1319).bind fun o4821 =>
  some o4821
def tappetref02_Source (p0 : api_Inst) : Option Bool :=
 ((tappetref02_Right p0).bind fun r21 =>
 if r21 then
  if decide (p0.Op <= 12) then
   some true
  else
   (tappetref02_Jump p0.Op).bind fun r27 =>
   some r27
 else
  some false).bind fun o19 =>
 some o19
def tappetref08_Args (p0 : Int) : Option (List api_Type) :=
 (if (p0 == 0) then
  some (p0 == 0)
 else
  if (p0 == 1) then
   some (p0 == 1)
  else
   some (p0 == 3)).bind fun o3 =>
 if o3 then
  (tappetref08_num 18446744073709551615).bind fun r14 =>
  some ([(api_Type.mk 2 (api_Span.mk 0 0) 0), r14])
 else
  (if (p0 == 2) then
   some (p0 == 2)
  else
   some (p0 == 4)).bind fun o21 =>
  if o21 then
   (tappetref08_num 18446744073709551615).bind fun r35 =>
   (tappetref08_num 18446744073709551615).bind fun r39 =>
   some ([(api_Type.mk 2 (api_Span.mk 0 0) 0), r35, r39])
  else
   if (p0 == 5) then
    (tappetref08_num 15).bind fun r52 =>
    some ([r52])
   else
    if (p0 == 6) then
     (tappetref08_num 18446744073709551615).bind fun r66 =>
     some ([r66])
    else
     some ([] : List api_Type)
def tappetref06_Within (p0 : api_Span) (p1 : api_Span) : Option Bool :=
 ((tappetref06_Right p0).bind fun r34 =>
 if r34 then
  (tappetref06_Right p1).bind fun r39 =>
  if r39 then
   (tappetref06_Has p1 p0.Lo).bind fun r44 =>
   if r44 then
    (tappetref06_Has p1 p0.Hi).bind fun r49 =>
    some r49
   else
    some false
  else
   some false
 else
  some false).bind fun o32 =>
 some o32
def tappetref08_Check_l1 (p1 : List api_Type) (r14 : (List api_Type)) (i421 : Nat) (again : Unit -> Option (Unit ⊕ Int)) (s420 : Unit) : Option (Unit ⊕ Int) :=
 (idx p1 (i421 : Int)).bind fun x440 =>
 (idx r14 (i421 : Int)).bind fun x446 =>
 if (x440.Kind != x446.Kind) then
  some (.inr 33)
 else
  (if (x446.Kind == 1) then
   (tappetref06_Within x440.Span x446.Span).bind fun r495 =>
   some (!r495)
  else
   some false).bind fun o478 =>
  if o478 then
   some (.inr 35)
  else
   again ()
def tappetref08_Check (p0 : Int) (p1 : List api_Type) : Option Int :=
 if (decide (p0 < 0) || decide (p0 > 6)) then
  some 34
 else
  (tappetref08_Args p0).bind fun r14 =>
  if (((r14).length : Int) != ((p1).length : Int)) then
   some 2
  else
   (forN (tappetref08_Check_l1 p1 r14) (fun (s420 : Unit) => (.inl ())) (r14).length 0 ()).bind fun o260 => match o260 with
    | .inl t262 =>
     some 0
    | .inr r => some r
def tappetref09_Fits (p0 : api_Type) (p1 : api_Type) : Option Bool :=
 if (p1.Kind == 0) then
  some true
 else
  if (p0.Kind != p1.Kind) then
   some false
  else
   if (p1.Kind == 1) then
    (tappetref06_Within p0.Span p1.Span).bind fun r16 =>
    some r16
   else
    some (p0.Map == p1.Map)
def tappetref09_Asks_l1 (p2 : List api_Type) (p3 : List api_Type) (i443 : Nat) (again : Unit -> Option (Unit ⊕ Int)) (s442 : Unit) : Option (Unit ⊕ Int) :=
 (idx p2 (i443 : Int)).bind fun x466 =>
 (idx p3 (i443 : Int)).bind fun x472 =>
 (tappetref09_Fits x466 x472).bind fun r478 =>
 if (!r478) then
  some (.inr 33)
 else
  again ()
def tappetref09_Asks (p0 : api_Module) (p1 : Int) (p2 : List api_Type) (p3 : List api_Type) : Option Int :=
 (idx p0.Code p1).bind fun x26 =>
 (tappetref02_Source x26).bind fun r45 =>
 (if r45 then
  (tappetref09_source x26 p2).bind fun r68 =>
  some r68
 else
  some (api_Type.mk 0 (api_Span.mk 0 0) 0)).bind fun o60 =>
 ((if (x26.Op == 0) then
  if (o60.Kind == 0) then
   some (.inr 33)
  else
   some (.inl ())
 else
  if ((x26.Op == 13) || (x26.Op == 15)) then
   some (.inl ())
  else
   if (x26.Op == 14) then
    if decide (x26.Imm >= ((p0.Maps).length : Int)) then
     some (.inr 35)
    else
     some (.inl ())
   else
    if (x26.Op == 21) then
     (tappetref08_Args x26.Imm).bind fun r172 =>
     (cut p2 1 (w64 (1 + ((r172).length : Int)))).bind fun ys191 =>
     (tappetref08_Check x26.Imm ys191).bind fun r194 =>
     some (.inr r194)
    else
     if (x26.Op == 11) then
      if (o60.Kind != 1) then
       some (.inr 33)
      else
       some (.inl ())
     else
      if ((x26.Op == 20) || (x26.Op == 22)) then
       (idx p2 x26.A).bind fun x208 =>
       if (x208.Kind != 1) then
        some (.inr 33)
       else
        some (.inl ())
      else
       ((idx p2 x26.A).bind fun x230 =>
       if (x230.Kind != 1) then
        some true
       else
        some (o60.Kind != 1)).bind fun o228 =>
       if o228 then
        some (.inr 33)
       else
        some (.inl ())) : Option (Unit ⊕ Int)).bind fun o154 => match o154 with
  | .inl t156 =>
   if (((x26.Op == 11) || (x26.Op == 12)) && decide (o60.Span.Hi > 15)) then
    some 35
   else
    if (x26.Op == 20) then
     (forN (tappetref09_Asks_l1 p2 p3) (fun (s442 : Unit) => (.inl ())) 8 0 ()).bind fun o361 => match o361 with
      | .inl t363 =>
       some 0
      | .inr r => some r
    else
     some 0
  | .inr r => some r
def tappetref09_All_l1 (fu : Nat) (p0 : api_Module) (i625 : Nat) (again : (List (List api_Type)) -> Option ((List (List api_Type)) ⊕ ((List (List api_Type)) × Int × Int))) (s622 : (List (List api_Type))) : Option ((List (List api_Type)) ⊕ ((List (List api_Type)) × Int × Int)) :=
 (tappetref09_at fu p0 (i625 : Int) s622).bind fun r639 =>
 (room (s622.length + ([r639]).length) 24).bind fun u659 =>
 if (((r639).length : Int) == 0) then
  again (s622 ++ [r639])
 else
  (idx p0.Code (i625 : Int)).bind fun x676 =>
  if (x676.Op == 20) then
   (idx (s622 ++ [r639]) (w64 ((i625 : Int) - x676.D))).bind fun x705 =>
   (apart (w64 ((i625 : Int) - x676.D)) (s622.length : Int)).bind fun u711 =>
   (tappetref09_Asks p0 (i625 : Int) r639 x705).bind fun r723 =>
   if (r723 != 0) then
    some (.inr (([] : List (List api_Type)), (i625 : Int), r723))
   else
    again (s622 ++ [r639])
  else
   (tappetref09_Asks p0 (i625 : Int) r639 r639).bind fun r735 =>
   if (r735 != 0) then
    some (.inr (([] : List (List api_Type)), (i625 : Int), r735))
   else
    again (s622 ++ [r639])
def tappetref09_All (fu : Nat) (p0 : api_Module) : Option ((List (List api_Type)) × Int × Int) :=
 (tappetref09_Maps fu p0.Maps).bind fun r15 =>
 if (!r15) then
  some (([] : List (List api_Type)), 0, 2)
 else
  (tappetref07_Check fu p0.Code).bind fun r24 =>
  if (r24.2 != 0) then
   some (([] : List (List api_Type)), r24.1, r24.2)
  else
   (forN (tappetref09_All_l1 fu p0) (fun (s622 : (List (List api_Type))) => (.inl s622)) (p0.Code).length 0 ([] : List (List api_Type))).bind fun o385 => match o385 with
    | .inl t387 =>
     some (t387, 0, 0)
    | .inr r => some r
def tappetref10_Book_Wipe (p0 : tappetref10_Book) : Option tappetref10_Book :=
 (room (p0.Asks.length + ([(tappetref10_Ask.mk 2 0 0)]).length) 24).bind fun u19 =>
 some (tappetref10_Book.mk (p0.Asks ++ [(tappetref10_Ask.mk 2 0 0)]))
def tappetref11_New (fu : Nat) (p0 : api_Module) (p1 : api_Event) (p2 : tappetref10_Book) : Option ((Option tappetref11_State) × Int) :=
 (tappetref09_All fu p0).bind fun r24 =>
 if (r24.2.2 != 0) then
  some (none, r24.2.2)
 else
  (tappetref10_Book_Wipe p2).bind fun r38 =>
  ((mkLen 8 8).bind fun m71 =>
  (mkLen 64 8).bind fun m75 =>
  some (tappetref11_State.mk p0 p1 r38 (List.replicate m71 0) (List.replicate m75 0) 0 0 0)).bind fun o67 =>
  some ((some o67), 0)
def tappetref10_Book_Count_l1 (p0 : tappetref10_Book) (p1 : Int) (again : (Int × Int) -> Option Int) (s324 : Int × Int) : Option Int :=
 if decide (s324.2 < ((p0.Asks).length : Int)) then
  ((idx p0.Asks s324.2).bind fun x354 =>
  if (x354.Kind == 3) then
   some (x354.At == p1)
  else
   some false).bind fun o352 =>
  if o352 then
   (idx p0.Asks s324.2).bind fun x379 =>
   again (wu64 (s324.1 + x379.N), w64 (s324.2 + 1))
  else
   again (s324.1, w64 (s324.2 + 1))
 else
  some s324.1
def tappetref10_Book_Count (fu : Nat) (p0 : tappetref10_Book) (p1 : Int) : Option (Int × Int) :=
 if (decide (p1 < 0) || decide (p1 > 15)) then
  some (0, 35)
 else
  (loop (tappetref10_Book_Count_l1 p0 p1) fu (0, 0)).bind fun o195 =>
  some (o195, 0)
def tappetref10_Book_Mark (fu : Nat) (p0 : tappetref10_Book) (p1 : Int) : Option (Int × Int × tappetref10_Book) :=
 if (decide (p1 < 0) || decide (p1 > 15)) then
  some (0, 35, p0)
 else
  (room (p0.Asks.length + ([(tappetref10_Ask.mk 3 p1 1)]).length) 24).bind fun u21 =>
  (tappetref10_Book_Count fu (tappetref10_Book.mk (p0.Asks ++ [(tappetref10_Ask.mk 3 p1 1)])) p1).bind fun r37 =>
  some (r37.1, r37.2, (tappetref10_Book.mk (p0.Asks ++ [(tappetref10_Ask.mk 3 p1 1)])))
def tappetref11_State_on (p0 : tappetref11_State) : Option tappetref11_State :=
 some (tappetref11_State.mk p0.M p0.E p0.S p0.Regs p0.Turns (w64 (p0.At + 1)) p0.Steps p0.Mode)
def tappetref11_State_call (fu : Nat) (p0 : tappetref11_State) (p1 : api_Inst) (p2 : api_Act) : Option (api_Act × tappetref11_State) :=
 if decide (p1.Imm <= 4) then
  (idx p0.Regs 1).bind fun x70 =>
  (idx p0.M.Maps x70).bind fun x76 =>
  (idx p0.Regs 2).bind fun x82 =>
  (if ((p1.Imm == 2) || (p1.Imm == 4)) then
   (idx p0.Regs 3).bind fun x118 =>
   some x118
  else
   some 0).bind fun o108 =>
  some ((api_Act.mk 2 p2.Pc (api_Item.mk x76 p1.Imm x82 o108) p2.Val), (tappetref11_State.mk p0.M p0.E p0.S p0.Regs p0.Turns p0.At p0.Steps 1))
 else
  if (p1.Imm == 5) then
   (idx p0.Regs 1).bind fun x173 =>
   (tappetref10_Book_Mark fu p0.S (w64 x173)).bind fun r179 =>
   (idx p0.Regs 0).bind fun x193 =>
   (tappetref11_State_on (tappetref11_State.mk p0.M p0.E r179.2.2 (p0.Regs.set (Int.toNat 0) r179.1) p0.Turns p0.At p0.Steps p0.Mode)).bind fun r207 =>
   some ((api_Act.mk p2.Kind p2.Pc p2.Item r179.1), r207)
  else
   (idx p0.Regs 1).bind fun x251 =>
   (idx p0.Regs 0).bind fun x265 =>
   (tappetref11_State_on (tappetref11_State.mk p0.M p0.E p0.S (p0.Regs.set (Int.toNat 0) 0) p0.Turns p0.At p0.Steps p0.Mode)).bind fun r279 =>
   some ((api_Act.mk 3 p2.Pc p2.Item x251), r279)
def tappetref11_State_source (p0 : tappetref11_State) (p1 : api_Inst) : Option Int :=
 if (p1.B == 8) then
  some (wu64 p1.Imm)
 else
  (idx p0.Regs p1.B).bind fun x19 =>
  some x19
def tappetref05_Holds (p0 : Int) (p1 : Int) (p2 : Int) : Option (Bool × Bool) :=
 if (p0 == 16) then
  some ((p1 == p2), true)
 else
  if (p0 == 17) then
   some ((!(p1 == p2)), true)
  else
   if (p0 == 18) then
    some (decide (p1 < p2), true)
   else
    if (p0 == 19) then
     some ((!decide (p1 < p2)), true)
    else
     some (false, false)
def tappetref11_State_goes (p0 : tappetref11_State) (p1 : api_Inst) : Option (Bool × tappetref11_State) :=
 if (p1.Op == 15) then
  some (true, p0)
 else
  if (p1.Op == 20) then
   ((idx p0.Regs p1.A).bind fun x67 =>
   if decide (x67 > 0) then
    (idx p0.Turns p0.At).bind fun x74 =>
    some (decide (x74 < p1.Imm))
   else
    some false).bind fun o62 =>
   if o62 then
    (idx p0.Turns p0.At).bind fun x126 =>
    some (true, (tappetref11_State.mk p0.M p0.E p0.S p0.Regs (p0.Turns.set (Int.toNat p0.At) (w64 (x126 + 1))) p0.At p0.Steps p0.Mode))
   else
    (idx p0.Turns p0.At).bind fun x177 =>
    some (false, (tappetref11_State.mk p0.M p0.E p0.S p0.Regs (p0.Turns.set (Int.toNat p0.At) 0) p0.At p0.Steps p0.Mode))
  else
   (idx p0.Regs p1.A).bind fun x231 =>
   (tappetref11_State_source p0 p1).bind fun r237 =>
   (tappetref05_Holds p1.Op x231 r237).bind fun r241 =>
   some (r241.1, p0)
def tappetref10_Book_Word_l1 (p0 : tappetref10_Book) (p1 : Int) (again : Int -> Option (Unit ⊕ (Int × Int))) (s347 : Int) : Option (Unit ⊕ (Int × Int)) :=
 if decide (s347 >= 0) then
  (idx p0.Asks s347).bind fun x361 =>
  if (x361.Kind == 2) then
   some (.inr (0, 0))
  else
   (if (x361.Kind == 1) then
    some (x361.At == p1)
   else
    some false).bind fun o385 =>
   if o385 then
    some (.inr (x361.N, 0))
   else
    again (w64 (s347 - 1))
 else
  some (.inl ())
def tappetref10_Book_Word (fu : Nat) (p0 : tappetref10_Book) (p1 : Int) : Option (Int × Int) :=
 if (decide (p1 < 0) || decide (p1 > 15)) then
  some (0, 35)
 else
  (loop (tappetref10_Book_Word_l1 p0 p1) fu (w64 (((p0.Asks).length : Int) - 1))).bind fun o210 => match o210 with
   | .inl t212 =>
    some (0, 0)
   | .inr r => some r
def tappetref11_State_lays (fu : Nat) (p0 : tappetref11_State) (p1 : api_Inst) : Option tappetref11_State :=
 if (p1.Op == 0) then
  (tappetref11_State_source p0 p1).bind fun r50 =>
  (idx p0.Regs p1.D).bind fun x54 =>
  some (tappetref11_State.mk p0.M p0.E p0.S (p0.Regs.set (Int.toNat p1.D) r50) p0.Turns p0.At p0.Steps p0.Mode)
 else
  (tappetref02_Three p1.Op).bind fun r67 =>
  if r67 then
   (idx p0.Regs p1.A).bind fun x118 =>
   (tappetref11_State_source p0 p1).bind fun r124 =>
   (tappetref05_Do fu p1.Op x118 r124).bind fun r128 =>
   (idx p0.Regs p1.D).bind fun x143 =>
   some (tappetref11_State.mk p0.M p0.E p0.S (p0.Regs.set (Int.toNat p1.D) r128.1) p0.Turns p0.At p0.Steps p0.Mode)
  else
   if (p1.Op == 11) then
    (tappetref11_State_source p0 p1).bind fun r193 =>
    (tappetref10_Book_Word fu p0.S (w64 r193)).bind fun r197 =>
    (idx p0.Regs p1.D).bind fun x213 =>
    some (tappetref11_State.mk p0.M p0.E p0.S (p0.Regs.set (Int.toNat p1.D) r197.1) p0.Turns p0.At p0.Steps p0.Mode)
   else
    if (p1.Op == 12) then
     (idx p0.Regs p1.A).bind fun x269 =>
     (tappetref11_State_source p0 p1).bind fun r275 =>
     (tappetref10_Book_Store p0.S (w64 r275) x269).bind fun r279 =>
     some (tappetref11_State.mk p0.M p0.E r279.2 p0.Regs p0.Turns p0.At p0.Steps p0.Mode)
    else
     if ((p1.Op == 13) && (p1.Imm == 0)) then
      (idx p0.Regs p1.D).bind fun x326 =>
      some (tappetref11_State.mk p0.M p0.E p0.S (p0.Regs.set (Int.toNat p1.D) p0.E.A) p0.Turns p0.At p0.Steps p0.Mode)
     else
      if (p1.Op == 13) then
       (idx p0.Regs p1.D).bind fun x374 =>
       some (tappetref11_State.mk p0.M p0.E p0.S (p0.Regs.set (Int.toNat p1.D) p0.E.B) p0.Turns p0.At p0.Steps p0.Mode)
      else
       if (p1.Op == 14) then
        (idx p0.Regs p1.D).bind fun x422 =>
        some (tappetref11_State.mk p0.M p0.E p0.S (p0.Regs.set (Int.toNat p1.D) (wu64 p1.Imm)) p0.Turns p0.At p0.Steps p0.Mode)
       else
        some p0
def tappetref11_State_Step (fu : Nat) (p0 : tappetref11_State) : Option (api_Act × tappetref11_State) :=
 (idx p0.M.Code p0.At).bind fun x47 =>
 if (p0.Mode == 1) then
  some ((api_Act.mk 5 p0.At (api_Item.mk 0 0 0 0) 0), p0)
 else
  if (p0.Mode == 2) then
   (idx p0.Regs x47.A).bind fun x83 =>
   some ((api_Act.mk 6 p0.At (api_Item.mk 0 0 0 0) x83), p0)
  else
   if (x47.Op == 21) then
    (tappetref11_State_call fu (tappetref11_State.mk p0.M p0.E p0.S p0.Regs p0.Turns p0.At (w64 (p0.Steps + 1)) p0.Mode) x47 (api_Act.mk 1 p0.At (api_Item.mk 0 0 0 0) 0)).bind fun r104 =>
    some (r104.1, r104.2)
   else
    if (x47.Op == 22) then
     (idx p0.Regs x47.A).bind fun x126 =>
     some ((api_Act.mk 4 p0.At (api_Item.mk 0 0 0 0) x126), (tappetref11_State.mk p0.M p0.E p0.S p0.Regs p0.Turns p0.At (w64 (p0.Steps + 1)) 2))
    else
     (tappetref02_Goes x47).bind fun r140 =>
     (if r140.2.1 then
      (tappetref11_State_goes (tappetref11_State.mk p0.M p0.E p0.S p0.Regs p0.Turns p0.At (w64 (p0.Steps + 1)) p0.Mode) x47).bind fun r157 =>
      some (r157.2, r157.1)
     else
      some ((tappetref11_State.mk p0.M p0.E p0.S p0.Regs p0.Turns p0.At (w64 (p0.Steps + 1)) p0.Mode), false)).bind fun o153 =>
     if o153.2 then
      some ((api_Act.mk 1 p0.At (api_Item.mk 0 0 0 0) 0), (tappetref11_State.mk o153.1.M o153.1.E o153.1.S o153.1.Regs o153.1.Turns (w64 (o153.1.At + r140.1)) o153.1.Steps o153.1.Mode))
     else
      if (!r140.2.1) then
       (tappetref11_State_lays fu o153.1 x47).bind fun r203 =>
       (tappetref11_State_on r203).bind fun r213 =>
       some ((api_Act.mk 1 p0.At (api_Item.mk 0 0 0 0) 0), r213)
      else
       (tappetref11_State_on o153.1).bind fun r225 =>
       some ((api_Act.mk 1 p0.At (api_Item.mk 0 0 0 0) 0), r225)
def engine_Machine_Over (p0 : engine_Machine) : Option (Int × Bool) :=
 if (p0.state != 2) then
  some (0, false)
 else
  (idx p0.module.Code p0.at_).bind fun x29 =>
  (ain 8 x29.A).bind fun i35 =>
  some ((p0.regs i35), true)
def tappetref11_State_Over (p0 : tappetref11_State) : Option (Int × Bool) :=
 if (p0.Mode != 2) then
  some (0, false)
 else
  (idx p0.M.Code p0.At).bind fun x49 =>
  (idx p0.Regs x49.A).bind fun x55 =>
  some (x55, true)
def slices_Clone_uint64_uint64 (p0 : List Int) : Option (List Int) :=
 (room (([] : List Int).length + p0.length) 8).bind fun u17 =>
 some (([] : List Int) ++ p0)
def engine_Machine_Regs (p0 : engine_Machine) : Option (List Int) :=
 (slices_Clone_uint64_uint64 (arrL 8 p0.regs)).bind fun r23 =>
 some r23
def engine_Machine_At (p0 : engine_Machine) : Option Int :=
 some p0.at_
def engine_Machine_Steps (p0 : engine_Machine) : Option Int :=
 some p0.steps
def tappetlaw11_held_l1 (p1 : tappetref11_State) (r32 : (List Int)) (i441 : Nat) (again : Unit -> Option (Unit ⊕ Bool)) (s439 : Unit) : Option (Unit ⊕ Bool) :=
 (idx r32 (i441 : Int)).bind fun x488 =>
 (idx p1.Regs (i441 : Int)).bind fun x494 =>
 if (x488 != x494) then
  some (.inr false)
 else
  again ()
def tappetlaw11_held (p0 : engine_Machine) (p1 : tappetref11_State) : Option Bool :=
 (engine_Machine_Over p0).bind fun r8 =>
 (tappetref11_State_Over p1).bind fun r18 =>
 (engine_Machine_Regs p0).bind fun r32 =>
 ((engine_Machine_At p0).bind fun r103 =>
 if (r103 != p1.At) then
  some true
 else
  (engine_Machine_Steps p0).bind fun r110 =>
  if (r110 != p1.Steps) then
   some true
  else
   if (r8.1 != r18.1) then
    some true
   else
    if (!(r8.2 == r18.2)) then
     some true
    else
     some (((r32).length : Int) != 8)).bind fun o99 =>
 if o99 then
  some false
 else
  (forN (tappetlaw11_held_l1 p1 r32) (fun (s439 : Unit) => (.inl ())) 8 0 ()).bind fun o312 => match o312 with
   | .inl t314 =>
    (idx r32 0).bind fun x514 =>
    some true
   | .inr r => some r
def tappetref08_Value (p0 : Int) (p1 : api_Res) : Option Int :=
 if ((p0 == 0) || (p0 == 4)) then
  some p1.Val
 else
  if ((((p0 == 1) || (p0 == 3)) && p1.Found) || ((p0 == 2) && (p1.E == 0))) then
   some 1
  else
   some 0
def tappetref11_State_Answer (p0 : tappetref11_State) (p1 : api_Res) : Option (Int × tappetref11_State) :=
 if (p0.Mode != 1) then
  some (2, p0)
 else
  (idx p0.M.Code p0.At).bind fun x57 =>
  (tappetref08_Value x57.Imm p1).bind fun r63 =>
  (idx p0.Regs 0).bind fun x67 =>
  (tappetref11_State_on (tappetref11_State.mk p0.M p0.E p0.S (p0.Regs.set (Int.toNat 0) r63) p0.Turns p0.At p0.Steps 0)).bind fun r83 =>
  some (0, r83)
def tappetlaw11_EngineSteps_l1 (again : ((List api_Inst) × Int) -> Option (List api_Inst)) (s519 : (List api_Inst) × Int) : Option (List api_Inst) :=
 if decide (s519.2 < ((s519.1).length : Int)) then
  (idx s519.1 s519.2).bind fun x532 =>
  again ((s519.1.set (Int.toNat s519.2) (api_Inst.mk 99 0 0 0 0)), w64 (s519.2 + 1))
 else
  some s519.1
def tappetlaw11_EngineSteps_l2 (again : ((List Int) × Int) -> Option Unit) (s651 : (List Int) × Int) : Option Unit :=
 if decide (s651.2 < ((s651.1).length : Int)) then
  (idx s651.1 s651.2).bind fun x664 =>
  again ((s651.1.set (Int.toNat s651.2) 77), w64 (s651.2 + 1))
 else
  some ()
def tappetlaw11_EngineSteps_l3 (fu : Nat) (p0 : tappetlaw11_Run) (i2211 : Nat) (again : (engine_Machine × tappetref11_State × Int) -> Option (Unit ⊕ Bool)) (s2208 : engine_Machine × tappetref11_State × Int) : Option (Unit ⊕ Bool) :=
 (if ((i2211 : Int) == p0.Odd) then
  if (s2208.2.1.Mode != 1) then
   (engine_Machine_Answer s2208.1 (api_Res.mk 0 false 5 false 0 0)).bind fun r2258 =>
   some (r2258.2, (r2258.1 != 2))
  else
   some (s2208.1, false)
 else
  some (s2208.1, false)).bind fun o2254 =>
 if o2254.2 then
  some (.inr false)
 else
  ((engine_Machine_Step fu o2254.1).bind fun r2298 =>
  (tappetref11_State_Step fu s2208.2.1).bind fun r2303 =>
  if (!((r2298.1.Kind == r2303.1.Kind) && ((r2298.1.Pc == r2303.1.Pc) && (((r2298.1.Item.Map == r2303.1.Item.Map) && ((r2298.1.Item.Op == r2303.1.Item.Op) && ((r2298.1.Item.Key == r2303.1.Item.Key) && ((r2298.1.Item.Val == r2303.1.Item.Val) && true)))) && ((r2298.1.Val == r2303.1.Val) && true))))) then
   some (r2298.2, r2303.2, true)
  else
   (tappetlaw11_held r2298.2 r2303.2).bind fun r2309 =>
   some (r2298.2, r2303.2, (!r2309))).bind fun o2296 =>
  if o2296.2.2 then
   some (.inr false)
  else
   if (o2296.2.1.Mode == 2) then
    ((engine_Machine_Step fu o2296.1).bind fun r2382 =>
    (tappetref11_State_Step fu o2296.2.1).bind fun r2388 =>
    if ((r2382.1.Kind == r2388.1.Kind) && ((r2382.1.Pc == r2388.1.Pc) && (((r2382.1.Item.Map == r2388.1.Item.Map) && ((r2382.1.Item.Op == r2388.1.Item.Op) && ((r2382.1.Item.Key == r2388.1.Item.Key) && ((r2382.1.Item.Val == r2388.1.Item.Val) && true)))) && ((r2382.1.Val == r2388.1.Val) && true)))) then
     (engine_Machine_Answer r2382.2 (api_Res.mk 0 false 0 false 0 0)).bind fun r2394 =>
     if (r2394.1 == 2) then
      (tappetlaw11_held r2394.2 r2388.2).bind fun r2400 =>
      some r2400
     else
      some false
    else
     some false).bind fun o2380 =>
    some (.inr o2380)
   else
    if (o2296.2.1.Mode != 1) then
     again (o2296.1, o2296.2.1, s2208.2.2)
    else
     (engine_Machine_Step fu o2296.1).bind fun r2419 =>
     (tappetref11_State_Step fu o2296.2.1).bind fun r2425 =>
     if (!((r2419.1.Kind == r2425.1.Kind) && ((r2419.1.Pc == r2425.1.Pc) && (((r2419.1.Item.Map == r2425.1.Item.Map) && ((r2419.1.Item.Op == r2425.1.Item.Op) && ((r2419.1.Item.Key == r2425.1.Item.Key) && ((r2419.1.Item.Val == r2425.1.Item.Val) && true)))) && ((r2419.1.Val == r2425.1.Val) && true))))) then
      some (.inr false)
     else
      if decide (s2208.2.2 >= ((p0.Res).length : Int)) then
       (tappetlaw11_held r2419.2 r2425.2).bind fun r2438 =>
       some (.inr r2438)
      else
       ((idx p0.Res s2208.2.2).bind fun x2487 =>
       (engine_Machine_Answer r2419.2 x2487).bind fun r2493 =>
       if (r2493.1 != 0) then
        some (r2493.2, r2425.2, true)
       else
        (tappetref11_State_Answer r2425.2 x2487).bind fun r2503 =>
        if (r2503.1 != 0) then
         some (r2493.2, r2503.2, true)
        else
         (tappetlaw11_held r2493.2 r2503.2).bind fun r2509 =>
         some (r2493.2, r2503.2, (!r2509))).bind fun o2485 =>
       if o2485.2.2 then
        some (.inr false)
       else
        again (o2485.1, o2485.2.1, w64 (s2208.2.2 + 1))
def tappetlaw11_EngineSteps_l4 (again : ((List api_Inst) × Int) -> Option (List api_Inst)) (s2629 : (List api_Inst) × Int) : Option (List api_Inst) :=
 if decide (s2629.2 < ((s2629.1).length : Int)) then
  (idx s2629.1 s2629.2).bind fun x2642 =>
  again ((s2629.1.set (Int.toNat s2629.2) (api_Inst.mk 99 0 0 0 0)), w64 (s2629.2 + 1))
 else
  some s2629.1
def tappetlaw11_EngineSteps_l5 (again : ((List Int) × Int) -> Option Unit) (s2761 : (List Int) × Int) : Option Unit :=
 if decide (s2761.2 < ((s2761.1).length : Int)) then
  (idx s2761.1 s2761.2).bind fun x2774 =>
  again ((s2761.1.set (Int.toNat s2761.2) 77), w64 (s2761.2 + 1))
 else
  some ()
def tappetlaw11_EngineSteps_l6 (again : Unit -> Option Bool) (s2790 : Unit) : Option Bool :=
 none
def tappetlaw11_EngineSteps (fu : Nat) (p0 : tappetlaw11_Run) : Option Bool :=
 (tappetlaw11_awake fu).bind fun r18 =>
 if (!r18) then
  some false
 else
  scratch_New.bind fun r30 =>
  (tappetlaw11_copied p0.M).bind fun r80 =>
  (scratch_Words_Store r30.Words 4 44).bind fun r122 =>
  (scratch_Counters_Raise fu r30.Counters ([1, 2, 3] : List Int)).bind fun r134 =>
  (tappetref10_Book_Store (tappetref10_Book.mk ([] : List tappetref10_Ask)) 4 44).bind fun r149 =>
  (tappetref10_Book_Raise fu r149.2 ([1, 2, 3] : List Int)).bind fun r163 =>
  (tappetlaw11_copied p0.M).bind fun r201 =>
  (judge_Judge fu r201).bind fun r311 =>
  if (r311.2 != 0) then
   (tappetref11_New fu p0.M p0.E r163).bind fun r326 =>
   ocase r326.1
    (if (r326.2 != 0) then
     some (r311.2 == r326.2)
    else
     some false)
    (fun k330 =>
    if (r326.2 != 0) then
     some (r311.2 == r326.2)
    else
     some false)
  else
   (scratch_Words_Wipe r122.2).bind fun r342 =>
   (slices_Clone_int_int r201.Maps).bind fun r368 =>
   (slices_Clone_tappet_api_Inst_tappet_api_Inst r201.Code).bind fun r376 =>
   (tappetref11_New fu p0.M p0.E r163).bind fun r396 =>
   ocase r396.1
    (if (r396.2 != 0) then
     some false
    else
     (loop tappetlaw11_EngineSteps_l4 fu (r201.Code, 0)).bind fun o2583 =>
     (loop tappetlaw11_EngineSteps_l5 fu (r201.Maps, 0)).bind fun o2718 =>
     loop tappetlaw11_EngineSteps_l6 fu ())
    (fun k400 =>
    if (r396.2 != 0) then
     some false
    else
     (loop tappetlaw11_EngineSteps_l1 fu (r201.Code, 0)).bind fun o473 =>
     (loop tappetlaw11_EngineSteps_l2 fu (r201.Maps, 0)).bind fun o608 =>
     (forN (tappetlaw11_EngineSteps_l3 fu p0) (fun (s2208 : engine_Machine × tappetref11_State × Int) => (.inl ())) 520 0 ((engine_Machine.mk p0.E (api_Module.mk r368 r376) (scratch_Scratch.mk r342 r134) (fun _ => 0) (fun _ => 0) 0 0 0), k400, 0)).bind fun o1593 => match o1593 with
      | .inl t1595 =>
       some false
      | .inr r => some r)
end Go.Proofs.YtgmmfjpmahcocaaGreatDoor
