/- Written by a program (wip/gen) from the translation: what each Go function computes, as a plain Lean function. -/
import Derived.Test.YtkgajppghpmkbaaDoorIfc
import Derived.Test.YtkgajppghpmkbaaDoorPart
import Derived.Test.YtkgajppghpmkbaaDoorDep
set_option linter.unusedSimpArgs false
namespace Go.Proofs.YtkgajppghpmkbaaDoor
open Go.Sx
set_option linter.unusedVariables false
structure scratch_Words where
  words : Nat → Int
structure scratch_Counters where
  counts : Nat → Int
structure scratch_Scratch where
  Words : scratch_Words
  Counters : scratch_Counters
def enc_scratch_Scratch (x : scratch_Scratch) : List Value := [.int .u64 (x.Words.words 0), .int .u64 (x.Words.words 1), .int .u64 (x.Words.words 2), .int .u64 (x.Words.words 3), .int .u64 (x.Words.words 4), .int .u64 (x.Words.words 5), .int .u64 (x.Words.words 6), .int .u64 (x.Words.words 7), .int .u64 (x.Words.words 8), .int .u64 (x.Words.words 9), .int .u64 (x.Words.words 10), .int .u64 (x.Words.words 11), .int .u64 (x.Words.words 12), .int .u64 (x.Words.words 13), .int .u64 (x.Words.words 14), .int .u64 (x.Words.words 15), .int .u64 (x.Counters.counts 0), .int .u64 (x.Counters.counts 1), .int .u64 (x.Counters.counts 2), .int .u64 (x.Counters.counts 3), .int .u64 (x.Counters.counts 4), .int .u64 (x.Counters.counts 5), .int .u64 (x.Counters.counts 6), .int .u64 (x.Counters.counts 7), .int .u64 (x.Counters.counts 8), .int .u64 (x.Counters.counts 9), .int .u64 (x.Counters.counts 10), .int .u64 (x.Counters.counts 11), .int .u64 (x.Counters.counts 12), .int .u64 (x.Counters.counts 13), .int .u64 (x.Counters.counts 14), .int .u64 (x.Counters.counts 15)]
def R_t102 : Rp scratch_Scratch := flatP (enc_scratch_Scratch) 32 (fun _ => rfl)
def R_t67 : Rp scratch_Scratch := ptrP 102 R_t102
structure api_Tally where
  Runs : Int
  Missed : Int
  Steps : Int
  Calls : Int
  Sum : Int
def enc_api_Tally (x : api_Tally) : List Value := [.int .u64 x.Runs, .int .u64 x.Missed, .int .u64 x.Steps, .int .u64 x.Calls, .int .u64 x.Sum]
structure stats_Stats where
  hooks : Nat → api_Tally
def enc_stats_Stats (x : stats_Stats) : List Value := [.int .u64 (x.hooks 0).Runs, .int .u64 (x.hooks 0).Missed, .int .u64 (x.hooks 0).Steps, .int .u64 (x.hooks 0).Calls, .int .u64 (x.hooks 0).Sum, .int .u64 (x.hooks 1).Runs, .int .u64 (x.hooks 1).Missed, .int .u64 (x.hooks 1).Steps, .int .u64 (x.hooks 1).Calls, .int .u64 (x.hooks 1).Sum, .int .u64 (x.hooks 2).Runs, .int .u64 (x.hooks 2).Missed, .int .u64 (x.hooks 2).Steps, .int .u64 (x.hooks 2).Calls, .int .u64 (x.hooks 2).Sum, .int .u64 (x.hooks 3).Runs, .int .u64 (x.hooks 3).Missed, .int .u64 (x.hooks 3).Steps, .int .u64 (x.hooks 3).Calls, .int .u64 (x.hooks 3).Sum]
def R_t95 : Rp stats_Stats := flatP (enc_stats_Stats) 20 (fun _ => rfl)
def R_t68 : Rp stats_Stats := ptrP 95 R_t95
structure api_Event where
  A : Int
  B : Int
def enc_api_Event (x : api_Event) : List Value := [.int .u64 x.A, .int .u64 x.B]
structure api_Inst where
  Op : Int
  D : Int
  A : Int
  B : Int
  Imm : Int
def enc_api_Inst (x : api_Inst) : List Value := [.int .i64 x.Op, .int .i64 x.D, .int .i64 x.A, .int .i64 x.B, .int .i64 x.Imm]
structure api_Module where
  Maps : List Int
  Code : List api_Inst
structure engine_Machine where
  Event : api_Event
  module : api_Module
  regs : Nat → Int
  turns : Nat → Int
  at_ : Int
  steps : Int
  state : Int
def R_t25 : Rp (List Int) := rowP 3 (encInt .i64) 1 (fun _ => rfl) (by decide)
def R_t26 : Rp (List api_Inst) := rowP 76 (enc_api_Inst) 5 (fun _ => rfl) (by decide)
def R_t129 (fx : Value) : Rp engine_Machine := structP (fun (x : engine_Machine) vs => [.int .u64 x.Event.A, .int .u64 x.Event.B, vs.getD 0 undef, vs.getD 1 undef, fx, .int .u64 (x.regs 0), .int .u64 (x.regs 1), .int .u64 (x.regs 2), .int .u64 (x.regs 3), .int .u64 (x.regs 4), .int .u64 (x.regs 5), .int .u64 (x.regs 6), .int .u64 (x.regs 7), .int .i64 (x.turns 0), .int .i64 (x.turns 1), .int .i64 (x.turns 2), .int .i64 (x.turns 3), .int .i64 (x.turns 4), .int .i64 (x.turns 5), .int .i64 (x.turns 6), .int .i64 (x.turns 7), .int .i64 (x.turns 8), .int .i64 (x.turns 9), .int .i64 (x.turns 10), .int .i64 (x.turns 11), .int .i64 (x.turns 12), .int .i64 (x.turns 13), .int .i64 (x.turns 14), .int .i64 (x.turns 15), .int .i64 (x.turns 16), .int .i64 (x.turns 17), .int .i64 (x.turns 18), .int .i64 (x.turns 19), .int .i64 (x.turns 20), .int .i64 (x.turns 21), .int .i64 (x.turns 22), .int .i64 (x.turns 23), .int .i64 (x.turns 24), .int .i64 (x.turns 25), .int .i64 (x.turns 26), .int .i64 (x.turns 27), .int .i64 (x.turns 28), .int .i64 (x.turns 29), .int .i64 (x.turns 30), .int .i64 (x.turns 31), .int .i64 (x.turns 32), .int .i64 (x.turns 33), .int .i64 (x.turns 34), .int .i64 (x.turns 35), .int .i64 (x.turns 36), .int .i64 (x.turns 37), .int .i64 (x.turns 38), .int .i64 (x.turns 39), .int .i64 (x.turns 40), .int .i64 (x.turns 41), .int .i64 (x.turns 42), .int .i64 (x.turns 43), .int .i64 (x.turns 44), .int .i64 (x.turns 45), .int .i64 (x.turns 46), .int .i64 (x.turns 47), .int .i64 (x.turns 48), .int .i64 (x.turns 49), .int .i64 (x.turns 50), .int .i64 (x.turns 51), .int .i64 (x.turns 52), .int .i64 (x.turns 53), .int .i64 (x.turns 54), .int .i64 (x.turns 55), .int .i64 (x.turns 56), .int .i64 (x.turns 57), .int .i64 (x.turns 58), .int .i64 (x.turns 59), .int .i64 (x.turns 60), .int .i64 (x.turns 61), .int .i64 (x.turns 62), .int .i64 (x.turns 63), .int .i64 x.at_, .int .i64 x.steps, .int .i64 x.state]) 80 (fun _ _ => rfl) (fun x => (x.module.Maps, x.module.Code)) (pairP R_t25 R_t26)
structure api_Queued where
  N : Int
  Event : api_Event
structure worker_job where
  hook : Int
  event : api_Queued
  version : Int
  prog : Int
  calls : Int
  machine : Option engine_Machine
structure worker_Worker where
  Scratch : scratch_Scratch
  Stats : stats_Stats
  mode_ : Int
  job : worker_job
def R_t73 : Rp worker_Worker := structP (fun (x : worker_Worker) vs => [vs.getD 0 undef, vs.getD 1 undef, .int .i64 x.mode_, .int .i64 x.job.hook, .int .i64 x.job.event.N, .int .u64 x.job.event.Event.A, .int .u64 x.job.event.Event.B, .int .i64 x.job.version, .int .i64 x.job.prog, .int .u64 x.job.calls, vs.getD 2 undef]) 11 (fun _ _ => rfl) (fun x => (x.Scratch, x.Stats, x.job.machine)) (dep3 R_t67 R_t68 (fun fx => (optP 129 (R_t129 fx))) 1 (fun _ => rfl))
def R_t33 : Rp worker_Worker := ptrP 73 R_t73
structure ops_form where
  name : ByteArray
  fields : ByteArray
def enc_ops_form (x : ops_form) : List Value := [.string x.name, .string x.fields]
def tab_g0 : List ops_form := [(ops_form.mk (⟨[115, 101, 116].toArray⟩) (⟨[100, 115].toArray⟩)),
  (ops_form.mk (⟨[97, 100, 100].toArray⟩) (⟨[100, 97, 115].toArray⟩)),
  (ops_form.mk (⟨[115, 117, 98].toArray⟩) (⟨[100, 97, 115].toArray⟩)),
  (ops_form.mk (⟨[109, 117, 108].toArray⟩) (⟨[100, 97, 115].toArray⟩)),
  (ops_form.mk (⟨[100, 105, 118].toArray⟩) (⟨[100, 97, 115].toArray⟩)),
  (ops_form.mk (⟨[114, 101, 109].toArray⟩) (⟨[100, 97, 115].toArray⟩)),
  (ops_form.mk (⟨[97, 110, 100].toArray⟩) (⟨[100, 97, 115].toArray⟩)),
  (ops_form.mk (⟨[111, 114].toArray⟩) (⟨[100, 97, 115].toArray⟩)),
  (ops_form.mk (⟨[120, 111, 114].toArray⟩) (⟨[100, 97, 115].toArray⟩)),
  (ops_form.mk (⟨[115, 104, 108].toArray⟩) (⟨[100, 97, 115].toArray⟩)),
  (ops_form.mk (⟨[115, 104, 114].toArray⟩) (⟨[100, 97, 115].toArray⟩)),
  (ops_form.mk (⟨[108, 111, 97, 100].toArray⟩) (⟨[100, 115].toArray⟩)),
  (ops_form.mk (⟨[115, 116, 111, 114, 101].toArray⟩) (⟨[97, 115].toArray⟩)),
  (ops_form.mk (⟨[102, 105, 101, 108, 100].toArray⟩) (⟨[100, 102].toArray⟩)),
  (ops_form.mk (⟨[109, 97, 112].toArray⟩) (⟨[100, 109].toArray⟩)),
  (ops_form.mk (⟨[106, 117, 109, 112].toArray⟩) (⟨[106].toArray⟩)),
  (ops_form.mk (⟨[106, 101, 113].toArray⟩) (⟨[106, 97, 115].toArray⟩)),
  (ops_form.mk (⟨[106, 110, 101].toArray⟩) (⟨[106, 97, 115].toArray⟩)),
  (ops_form.mk (⟨[106, 108, 116].toArray⟩) (⟨[106, 97, 115].toArray⟩)),
  (ops_form.mk (⟨[106, 103, 101].toArray⟩) (⟨[106, 97, 115].toArray⟩)),
  (ops_form.mk (⟨[108, 111, 111, 112].toArray⟩) (⟨[98, 97, 110].toArray⟩)),
  (ops_form.mk (⟨[99, 97, 108, 108].toArray⟩) (⟨[104].toArray⟩)),
  (ops_form.mk (⟨[101, 120, 105, 116].toArray⟩) (⟨[97].toArray⟩))]
structure api_Loop where
  Head : Int
  At : Int
  Bound : Int
def enc_api_Loop (x : api_Loop) : List Value := [.int .i64 x.Head, .int .i64 x.At, .int .i64 x.Bound]
structure api_Span where
  Lo : Int
  Hi : Int
def enc_api_Span (x : api_Span) : List Value := [.int .u64 x.Lo, .int .u64 x.Hi]
structure api_Type where
  Kind : Int
  Span : api_Span
  Map : Int
def enc_api_Type (x : api_Type) : List Value := [.int .i64 x.Kind, .int .u64 x.Span.Lo, .int .u64 x.Span.Hi, .int .i64 x.Map]
structure judge_judge where
  Module : api_Module
  came : List (Nat → api_Type)
  any : List Bool
  loops : List api_Loop
def R_t105 : Rp (List (Nat → api_Type)) := rowP 119 (arrC (enc_api_Type) 8) 32 (fun _ => rfl) (by decide)
def R_t106 : Rp (List Bool) := rowP 4 (encBool) 1 (fun _ => rfl) (by decide)
def R_t107 : Rp (List api_Loop) := rowP 138 (enc_api_Loop) 3 (fun _ => rfl) (by decide)
def R_t109 (wb : World) (Sb : List Nat) : Rp judge_judge := structP (fun (x : judge_judge) vs => [vs.getD 0 undef, vs.getD 1 undef, vs.getD 2 undef, vs.getD 3 undef, vs.getD 4 undef]) 5 (fun _ _ => rfl) (fun x => (x.Module.Maps, (x.Module.Code, (x.came, (x.any, x.loops))))) (pairP (borP wb Sb (encInt .i64) 1) (pairP (borP wb Sb (enc_api_Inst) 5) (pairP R_t105 (pairP R_t106 R_t107))))
def R_t83 (wb : World) (Sb : List Nat) : Rp judge_judge := ptrP 109 (R_t109 wb Sb)
structure sigs_sig where
  name : ByteArray
  wants : ByteArray
  most : Int
  asks : Int
  isAsked : Bool
def enc_sigs_sig (x : sigs_sig) : List Value := [.string x.name, .string x.wants, .int .u64 x.most, .int .i64 x.asks, .bool x.isAsked]
def tab_g1 : List sigs_sig := [(sigs_sig.mk (⟨[103, 101, 116].toArray⟩) (⟨[104, 110].toArray⟩) 18446744073709551615 0 true),
  (sigs_sig.mk (⟨[104, 97, 115].toArray⟩) (⟨[104, 110].toArray⟩) 1 1 true),
  (sigs_sig.mk (⟨[112, 117, 116].toArray⟩) (⟨[104, 110, 110].toArray⟩) 1 2 true),
  (sigs_sig.mk (⟨[100, 101, 108].toArray⟩) (⟨[104, 110].toArray⟩) 1 3 true),
  (sigs_sig.mk (⟨[97, 100, 100].toArray⟩) (⟨[104, 110, 110].toArray⟩) 18446744073709551615 4 true),
  (sigs_sig.mk (⟨[109, 97, 114, 107].toArray⟩) (⟨[115].toArray⟩) 18446744073709551615 0 false),
  (sigs_sig.mk (⟨[110, 111, 116, 101].toArray⟩) (⟨[110].toArray⟩) 0 0 false)]
def R_t69 (fx : Value) : Rp engine_Machine := ptrP 129 (R_t129 fx)
structure api_Item where
  Map : Int
  Op : Int
  Key : Int
  Val : Int
structure api_Act where
  Kind : Int
  Pc : Int
  Item : api_Item
  Val : Int
def enc_api_Act (x : api_Act) : List Value := [.int .i64 x.Kind, .int .i64 x.Pc, .int .i64 x.Item.Map, .int .i64 x.Item.Op, .int .u64 x.Item.Key, .int .u64 x.Item.Val, .int .u64 x.Val]
structure api_Res where
  E : Int
  Found : Bool
  Val : Int
  Out : Bool
  OutKey : Int
  OutVal : Int
def enc_api_Res (x : api_Res) : List Value := [.int .i64 x.E, .bool x.Found, .int .u64 x.Val, .bool x.Out, .int .u64 x.OutKey, .int .u64 x.OutVal]
structure tappetlaw23_Event where
  Hook : Int
  E : api_Event
  M : api_Module
  Res : List api_Res
def R_t29 : Rp (List api_Res) := rowP 52 (enc_api_Res) 6 (fun _ => rfl) (by decide)
def R_t31 : Rp tappetlaw23_Event := structP (fun (x : tappetlaw23_Event) vs => [.int .i64 x.Hook, .int .u64 x.E.A, .int .u64 x.E.B, vs.getD 0 undef, vs.getD 1 undef, vs.getD 2 undef]) 6 (fun _ _ => rfl) (fun x => (x.M.Maps, (x.M.Code, x.Res))) (pairP R_t25 (pairP R_t26 R_t29))
def scratch_New  : Option scratch_Scratch :=
  some (scratch_Scratch.mk (scratch_Words.mk (fun _ => 0)) (scratch_Counters.mk (fun _ => 0)))
def stats_New  : Option stats_Stats :=
  some (stats_Stats.mk (fun _ => (api_Tally.mk 0 0 0 0 0)))
def worker_New  : Option worker_Worker :=
  scratch_New.bind fun r17 =>
  stats_New.bind fun r24 =>
  some (worker_Worker.mk r17 r24 0 (worker_job.mk 0 (api_Queued.mk 0 (api_Event.mk 0 0)) 0 0 0 none))
def worker_Worker_Take (p0 : worker_Worker) (p1 : Int) (p2 : api_Queued) : Option (Int × worker_Worker) :=
  if (decide (p1 < 0) || decide (p1 ≥ 4)) then
    some (2, p0)
  else
    if (p0.mode_ != 0) then
      some (42, p0)
    else
      some (0, (worker_Worker.mk p0.Scratch p0.Stats 1 (worker_job.mk p1 p2 0 0 0 none)))
def worker_Worker_Mode (p0 : worker_Worker) : Option Int :=
  some p0.mode_
def slices_Index_int_int_l1 (p0 : List Int) (p1 : Int) (i87 : Nat) (again : Unit → Option (Unit ⊕ Int)) (s86 : Unit) : Option (Unit ⊕ Int) :=
  (idx p0 (i87 : Int)).bind fun x96 =>
  if (p1 == x96) then
    some (.inr (i87 : Int))
  else
    again ()
def slices_Index_int_int (p0 : List Int) (p1 : Int) : Option Int :=
  (forN (slices_Index_int_int_l1 p0 p1) (fun (s86 : Unit) => (.inl ())) (p0).length 0 ()).bind fun o52 => match o52 with
    | .inl t54 =>
      some (-1)
    | .inr r => some r
def slices_Contains_int_int (p0 : List Int) (p1 : Int) : Option Bool :=
  (slices_Index_int_int p0 p1).bind fun r8 =>
  some (decide (r8 ≥ 0))
def judge_good_l1 (p0 : List Int) (i187 : Nat) (again : Unit → Option (Unit ⊕ Bool)) (s186 : Unit) : Option (Unit ⊕ Bool) :=
  (idx p0 (i187 : Int)).bind fun x196 =>
  (if decide (x196 < 0) then
    some true
  else
    if decide (x196 ≥ 4) then
      some true
    else
      (cut p0 0 (i187 : Int)).bind fun ys215 =>
      (slices_Contains_int_int ys215 x196).bind fun r218 =>
      some r218).bind fun o211 =>
  if o211 then
    some (.inr false)
  else
    again ()
def judge_good (p0 : List Int) : Option Bool :=
  (forN (judge_good_l1 p0) (fun (s186 : Unit) => (.inl ())) (p0).length 0 ()).bind fun o112 => match o112 with
    | .inl t114 =>
      some (decide (((p0).length : Int) ≤ 4))
    | .inr r => some r
def ops_of (p0 : Int) : Option (ops_form × Bool) :=
  if (decide (p0 < 0) || decide (p0 ≥ 23)) then
    some ((ops_form.mk ByteArray.empty ByteArray.empty), false)
  else
    (idx tab_g0 p0).bind fun x12 =>
    some (x12, true)
def ops_register (p0 : Int) : Option Bool :=
  some (decide (p0 ≥ 0) && decide (p0 < 8))
def ops_within (p0 : Int) (p1 : Int) (p2 : Int) : Option Bool :=
  some (decide (p0 ≥ p1) && decide (p0 ≤ p2))
def ops_right_l1 (p0 : api_Inst) (r12 : ops_form × Bool) (i612 : Nat) (again : (Bool × api_Inst) → Option (Bool × api_Inst)) (s611 : Bool × api_Inst) : Option (Bool × api_Inst) :=
  (sidx r12.1.fields (i612 : Int)).bind fun c619 =>
  if (c619 == 100) then
    if s611.1 then
      (ops_register p0.D).bind fun r623 =>
      again (r623, (api_Inst.mk s611.2.Op 0 s611.2.A s611.2.B s611.2.Imm))
    else
      again (false, (api_Inst.mk s611.2.Op 0 s611.2.A s611.2.B s611.2.Imm))
  else
    if (c619 == 97) then
      if s611.1 then
        (ops_register p0.A).bind fun r631 =>
        again (r631, (api_Inst.mk s611.2.Op s611.2.D 0 s611.2.B s611.2.Imm))
      else
        again (false, (api_Inst.mk s611.2.Op s611.2.D 0 s611.2.B s611.2.Imm))
    else
      if (c619 == 115) then
        if (p0.B == 8) then
          again (s611.1, (api_Inst.mk s611.2.Op s611.2.D s611.2.A 0 0))
        else
          if s611.1 then
            (ops_register p0.B).bind fun r644 =>
            again (r644, (api_Inst.mk s611.2.Op s611.2.D s611.2.A 0 s611.2.Imm))
          else
            again (false, (api_Inst.mk s611.2.Op s611.2.D s611.2.A 0 s611.2.Imm))
      else
        if (c619 == 102) then
          if s611.1 then
            (ops_within p0.Imm 0 1).bind fun r650 =>
            again (r650, (api_Inst.mk s611.2.Op s611.2.D s611.2.A s611.2.B 0))
          else
            again (false, (api_Inst.mk s611.2.Op s611.2.D s611.2.A s611.2.B 0))
        else
          if (c619 == 109) then
            if s611.1 then
              (ops_within p0.Imm 0 3).bind fun r658 =>
              again (r658, (api_Inst.mk s611.2.Op s611.2.D s611.2.A s611.2.B 0))
            else
              again (false, (api_Inst.mk s611.2.Op s611.2.D s611.2.A s611.2.B 0))
          else
            if (c619 == 104) then
              if s611.1 then
                (ops_within p0.Imm 0 6).bind fun r666 =>
                again (r666, (api_Inst.mk s611.2.Op s611.2.D s611.2.A s611.2.B 0))
              else
                again (false, (api_Inst.mk s611.2.Op s611.2.D s611.2.A s611.2.B 0))
            else
              if (c619 == 110) then
                if s611.1 then
                  (ops_within p0.Imm 1 255).bind fun r674 =>
                  again (r674, (api_Inst.mk s611.2.Op s611.2.D s611.2.A s611.2.B 0))
                else
                  again (false, (api_Inst.mk s611.2.Op s611.2.D s611.2.A s611.2.B 0))
              else
                if (c619 == 106) then
                  if s611.1 then
                    (ops_within p0.D 0 63).bind fun r682 =>
                    again (r682, (api_Inst.mk s611.2.Op 0 s611.2.A s611.2.B s611.2.Imm))
                  else
                    again (false, (api_Inst.mk s611.2.Op 0 s611.2.A s611.2.B s611.2.Imm))
                else
                  if (c619 == 98) then
                    if s611.1 then
                      (ops_within p0.D 1 63).bind fun r690 =>
                      again (r690, (api_Inst.mk s611.2.Op 0 s611.2.A s611.2.B s611.2.Imm))
                    else
                      again (false, (api_Inst.mk s611.2.Op 0 s611.2.A s611.2.B s611.2.Imm))
                  else
                    again (s611.1, s611.2)
def ops_right (p0 : api_Inst) : Option Bool :=
  (ops_of p0.Op).bind fun r12 =>
  if (!r12.2) then
    some false
  else
    ((room r12.1.fields.size 1).bind fun u614 =>
    forN (ops_right_l1 p0 r12) (fun (s611 : Bool × api_Inst) => (s611.1, s611.2)) r12.1.fields.size 0 (r12.2, (api_Inst.mk 0 p0.D p0.A p0.B p0.Imm))).bind fun o366 =>
    (if o366.1 then
      some ((o366.2.Op == 0) && ((o366.2.D == 0) && ((o366.2.A == 0) && ((o366.2.B == 0) && ((o366.2.Imm == 0) && true)))))
    else
      some false).bind fun o697 =>
    some o697
def ops_form_uses_l1 (p0 : ops_form) (p1 : Int) (i50 : Nat) (again : Unit → Option (Unit ⊕ Bool)) (s49 : Unit) : Option (Unit ⊕ Bool) :=
  (sidx p0.fields (i50 : Int)).bind fun c57 =>
  if (c57 == p1) then
    some (.inr true)
  else
    again ()
def ops_form_uses (p0 : ops_form) (p1 : Int) : Option Bool :=
  ((room p0.fields.size 1).bind fun u52 =>
  forN (ops_form_uses_l1 p0 p1) (fun (s49 : Unit) => (.inl ())) p0.fields.size 0 ()).bind fun o31 => match o31 with
    | .inl t33 =>
      some false
    | .inr r => some r
def ops_Goes (p0 : api_Inst) : Option (Int × Bool × Bool) :=
  (ops_right p0).bind fun r9 =>
  if (!r9) then
    some (0, false, false)
  else
    (ops_of p0.Op).bind fun r21 =>
    (ops_form_uses r21.1 106).bind fun r32 =>
    if r32 then
      some (w64 (p0.D + 1), true, (p0.Op != 15))
    else
      (ops_form_uses r21.1 98).bind fun r45 =>
      if r45 then
        some (w64 (0 - p0.D), true, true)
      else
        some (0, false, (p0.Op != 22))
def ops_Right_l1 (p0 : List api_Inst) (i158 : Nat) (again : Unit → Option (Unit ⊕ Bool)) (s157 : Unit) : Option (Unit ⊕ Bool) :=
  (idx p0 (i158 : Int)).bind fun x170 =>
  (ops_right x170).bind fun r183 =>
  if (!r183) then
    some (.inr false)
  else
    again ()
def ops_Right (p0 : List api_Inst) : Option Bool :=
  (forN (ops_Right_l1 p0) (fun (s157 : Unit) => (.inl ())) (p0).length 0 ()).bind fun o95 => match o95 with
    | .inl t97 =>
      some true
    | .inr r => some r
def flow_places_l1 (p0 : List api_Inst) (i242 : Nat) (again : Unit → Option (Unit ⊕ (Int × Int))) (s241 : Unit) : Option (Unit ⊕ (Int × Int)) :=
  (idx p0 (i242 : Int)).bind fun x254 =>
  (ops_Goes x254).bind fun r267 =>
  (ops_Right ([x254])).bind fun r279 =>
  if (!r279) then
    some (.inr ((i242 : Int), 12))
  else
    if (r267.2.1 && (decide ((w64 ((i242 : Int) + r267.1)) < 0) || decide ((w64 ((i242 : Int) + r267.1)) ≥ ((p0).length : Int)))) then
      some (.inr ((i242 : Int), 30))
    else
      if (r267.2.2 && ((i242 : Int) == (w64 (((p0).length : Int) - 1)))) then
        some (.inr ((i242 : Int), 36))
      else
        again ()
def flow_places (p0 : List api_Inst) : Option (Int × Int) :=
  (forN (flow_places_l1 p0) (fun (s241 : Unit) => (.inl ())) (p0).length 0 ()).bind fun o145 => match o145 with
    | .inl t147 =>
      some (0, 0)
    | .inr r => some r
def flow_loops_l1 (p0 : List api_Inst) (i232 : Nat) (again : (List api_Loop) → Option (List api_Loop)) (s230 : (List api_Loop)) : Option (List api_Loop) :=
  (idx p0 (i232 : Int)).bind fun x247 =>
  if (x247.Op == 20) then
    (room (s230.length + ([(api_Loop.mk (w64 ((i232 : Int) - x247.D)) (i232 : Int) x247.Imm)]).length) 24).bind fun u268 =>
    again (s230 ++ [(api_Loop.mk (w64 ((i232 : Int) - x247.D)) (i232 : Int) x247.Imm)])
  else
    again s230
def flow_loops (p0 : List api_Inst) : Option (List api_Loop) :=
  (forN (flow_loops_l1 p0) (fun (s230 : (List api_Loop)) => s230) (p0).length 0 ([] : List api_Loop)).bind fun o140 =>
  some o140
def flow_in (p0 : api_Loop) (p1 : Int) : Option Bool :=
  some (decide (p1 ≥ p0.Head) && decide (p1 ≤ p0.At))
def flow_nested_l2 (x985 : api_Loop) (ys996 : List api_Loop) (i1136 : Nat) (again : Unit → Option (Unit ⊕ (Int × Int))) (s1135 : Unit) : Option (Unit ⊕ (Int × Int)) :=
  (idx ys996 (i1136 : Int)).bind fun x1150 =>
  if (decide (x1150.At ≥ x985.Head) && decide (x1150.Head < x985.Head)) then
    some (.inr (x985.At, 31))
  else
    again ()
def flow_nested_l1 (r12 : (List api_Loop)) (i973 : Nat) (again : Unit → Option (Unit ⊕ (Int × Int))) (s972 : Unit) : Option (Unit ⊕ (Int × Int)) :=
  (idx r12 (i973 : Int)).bind fun x985 =>
  (cut r12 0 (i973 : Int)).bind fun ys996 =>
  (forN (flow_nested_l2 x985 ys996) (fun (s1135 : Unit) => (.inl ())) (ys996).length 0 ()).bind fun o1079 => match o1079 with
    | .inl t1081 =>
      again ()
    | .inr r => some (.inr r)
def flow_nested_l4 (r12 : (List api_Loop)) (i2766 : Nat) (r2791 : Int × Bool × Bool) (i3038 : Nat) (again : Unit → Option (Unit ⊕ (Int × Int))) (s3037 : Unit) : Option (Unit ⊕ (Int × Int)) :=
  (idx r12 (i3038 : Int)).bind fun x3050 =>
  (if r2791.2.1 then
    if decide (r2791.1 > 0) then
      (flow_in x3050 (i2766 : Int)).bind fun r3075 =>
      if (!r3075) then
        (flow_in x3050 (w64 ((i2766 : Int) + r2791.1))).bind fun r3080 =>
        if r3080 then
          some ((w64 ((i2766 : Int) + r2791.1)) != x3050.Head)
        else
          some false
      else
        some false
    else
      some false
  else
    some false).bind fun o3071 =>
  if o3071 then
    some (.inr ((i2766 : Int), 31))
  else
    again ()
def flow_nested_l3 (p0 : List api_Inst) (r12 : (List api_Loop)) (i2766 : Nat) (again : Unit → Option (Unit ⊕ (Int × Int))) (s2765 : Unit) : Option (Unit ⊕ (Int × Int)) :=
  (idx p0 (i2766 : Int)).bind fun x2778 =>
  (ops_Goes x2778).bind fun r2791 =>
  (forN (flow_nested_l4 r12 i2766 r2791) (fun (s3037 : Unit) => (.inl ())) (r12).length 0 ()).bind fun o2939 => match o2939 with
    | .inl t2941 =>
      again ()
    | .inr r => some (.inr r)
def flow_nested (p0 : List api_Inst) : Option (Int × Int) :=
  (flow_loops p0).bind fun r12 =>
  (forN (flow_nested_l1 r12) (fun (s972 : Unit) => (.inl ())) (r12).length 0 ()).bind fun o590 => match o590 with
    | .inl t592 =>
      (forN (flow_nested_l3 p0 r12) (fun (s2765 : Unit) => (.inl ())) (p0).length 0 ()).bind fun o2123 => match o2123 with
        | .inl t2125 =>
          some (0, 0)
        | .inr r => some r
    | .inr r => some r
def flow_cost_l2 (r12 : (List api_Loop)) (i948 : Nat) (i1103 : Nat) (again : Int → Option Int) (s1102 : Int) : Option Int :=
  (idx r12 (i1103 : Int)).bind fun x1115 =>
  (flow_in x1115 (i948 : Int)).bind fun r1128 =>
  if r1128 then
    again (imin (w64 (s1102 * (w64 (x1115.Bound + 1)))) 257)
  else
    again s1102
def flow_cost_l1 (r12 : (List api_Loop)) (i948 : Nat) (again : Int → Option Int) (s947 : Int) : Option Int :=
  (forN (flow_cost_l2 r12 i948) (fun (s1102 : Int) => s1102) (r12).length 0 1).bind fun o1041 =>
  again (imin (w64 (s947 + o1041)) 257)
def flow_cost (p0 : List api_Inst) : Option Int :=
  (flow_loops p0).bind fun r12 =>
  (forN (flow_cost_l1 r12) (fun (s947 : Int) => s947) (p0).length 0 0).bind fun o576 =>
  some o576
def flow_Check (p0 : List api_Inst) : Option (Int × Int) :=
  if (((p0).length : Int) == 0) then
    some (0, 10)
  else
    if decide (((p0).length : Int) > 64) then
      some (0, 11)
    else
      (flow_places p0).bind fun r10 =>
      if (r10.2 != 0) then
        some (r10.1, r10.2)
      else
        (flow_nested p0).bind fun r19 =>
        if (r19.2 != 0) then
          some (r19.1, r19.2)
        else
          (flow_cost p0).bind fun r28 =>
          if decide (r28 > 256) then
            some (0, 32)
          else
            some (0, 0)
def flow_Loops (p0 : List api_Inst) : Option ((List api_Loop) × Int) :=
  (flow_Check p0).bind fun r8 =>
  if (r8.2 != 0) then
    some (([] : List api_Loop), r8.2)
  else
    (flow_loops p0).bind fun r21 =>
    some (r21, 0)
def ops_Writes (p0 : api_Inst) : Option (Int × Bool) :=
  (ops_right p0).bind fun r9 =>
  if (!r9) then
    some (0, false)
  else
    (ops_of p0.Op).bind fun r21 =>
    (ops_form_uses r21.1 100).bind fun r32 =>
    if r32 then
      some (p0.D, true)
    else
      some (0, (p0.Op == 21))
def span_Full  : Option api_Span :=
  some (api_Span.mk 0 18446744073709551615)
def judge_number (p0 : api_Span) : Option api_Type :=
  some (api_Type.mk 1 p0 0)
def judge_judge_widen_l2 (p1 : Int) (ys3071 : List api_Inst) (i3539 : Nat) (again : (List (Nat → api_Type)) → Option (List (Nat → api_Type))) (s3537 : (List (Nat → api_Type))) : Option (List (Nat → api_Type)) :=
  (idx ys3071 (i3539 : Int)).bind fun x3554 =>
  (ops_Writes x3554).bind fun r3567 =>
  if (!r3567.2) then
    again s3537
  else
    (idx s3537 p1).bind fun x3581 =>
    (ain 8 r3567.1).bind fun i3587 =>
    if ((x3581 i3587).Kind == 1) then
      span_Full.bind fun r3611 =>
      (judge_number r3611).bind fun r3615 =>
      again (s3537.set (Int.toNat p1) (aset x3581 i3587 r3615))
    else
      again (s3537.set (Int.toNat p1) (aset x3581 i3587 (api_Type.mk 0 (api_Span.mk 0 0) 0)))
def judge_judge_widen_l1 (p0 : judge_judge) (p1 : Int) (i3038 : Nat) (again : (List (Nat → api_Type)) → Option judge_judge) (s3036 : (List (Nat → api_Type))) : Option judge_judge :=
  (idx p0.loops (i3038 : Int)).bind fun x3053 =>
  if (x3053.Head != p1) then
    again s3036
  else
    (cut p0.Module.Code x3053.Head (w64 (x3053.At + 1))).bind fun ys3071 =>
    (forN (judge_judge_widen_l2 p1 ys3071) (fun (s3537 : (List (Nat → api_Type))) => s3537) (ys3071).length 0 s3036).bind fun o3352 =>
    again o3352
def judge_judge_widen (p0 : judge_judge) (p1 : Int) : Option judge_judge :=
  (forN (judge_judge_widen_l1 p0 p1) (fun (s3036 : (List (Nat → api_Type))) => (judge_judge.mk p0.Module s3036 p0.any p0.loops)) (p0.loops).length 0 p0.came).bind fun o1835 =>
  some o1835
def ops_Source (p0 : api_Inst) : Option Bool :=
  (ops_of p0.Op).bind fun r12 =>
  ((ops_right p0).bind fun r34 =>
  if r34 then
    (ops_form_uses r12.1 115).bind fun r39 =>
    some r39
  else
    some false).bind fun o32 =>
  some o32
def span_Single (p0 : Int) : Option api_Span :=
  some (api_Span.mk p0 p0)
def judge_source (p0 : api_Inst) (p1 : Nat → api_Type) : Option api_Type :=
  if (p0.B == 8) then
    (span_Single (wu64 p0.Imm)).bind fun r23 =>
    (judge_number r23).bind fun r27 =>
    some r27
  else
    (ain 8 p0.B).bind fun i35 =>
    some (p1 i35)
def judge_nums_l1 (p0 : List api_Type) (i117 : Nat) (again : Unit → Option (Unit ⊕ Int)) (s116 : Unit) : Option (Unit ⊕ Int) :=
  (idx p0 (i117 : Int)).bind fun x129 =>
  if (x129.Kind != 1) then
    some (.inr 33)
  else
    again ()
def judge_nums (p0 : List api_Type) : Option Int :=
  (forN (judge_nums_l1 p0) (fun (s116 : Unit) => (.inl ())) (p0).length 0 ()).bind fun o70 => match o70 with
    | .inl t72 =>
      some 0
    | .inr r => some r
def span_Right (p0 : api_Span) : Option Bool :=
  some (decide (p0.Lo ≤ p0.Hi))
def span_Within (p0 : api_Span) (p1 : api_Span) : Option Bool :=
  ((span_Right p0).bind fun r21 =>
  if r21 then
    if decide (p1.Lo ≤ p0.Lo) then
      some (decide (p0.Hi ≤ p1.Hi))
    else
      some false
  else
    some false).bind fun o19 =>
  some o19
def judge_word (p0 : api_Type) : Option Int :=
  (span_Within p0.Span (api_Span.mk 0 15)).bind fun r9 =>
  if (!r9) then
    some 35
  else
    some 0
def judge_first_l1 (p0 : List Int) (i87 : Nat) (again : Unit → Option (Unit ⊕ Int)) (s86 : Unit) : Option (Unit ⊕ Int) :=
  (idx p0 (i87 : Int)).bind fun x96 =>
  if (x96 != 0) then
    some (.inr x96)
  else
    again ()
def judge_first (p0 : List Int) : Option Int :=
  (forN (judge_first_l1 p0) (fun (s86 : Unit) => (.inl ())) (p0).length 0 ()).bind fun o52 => match o52 with
    | .inl t54 =>
      some 0
    | .inr r => some r
def judge_fits (p0 : api_Type) (p1 : api_Type) : Option Bool :=
  if (p1.Kind == 1) then
    (if (p0.Kind == 1) then
      (span_Within p0.Span p1.Span).bind fun r18 =>
      some r18
    else
      some false).bind fun o15 =>
    some o15
  else
    if (p1.Kind == 2) then
      some ((p0.Kind == p1.Kind) && (((p0.Span.Lo == p1.Span.Lo) && ((p0.Span.Hi == p1.Span.Hi) && true)) && ((p0.Map == p1.Map) && true)))
    else
      some true
def sigs_of (p0 : Int) : Option (sigs_sig × Bool) :=
  if (decide (p0 < 0) || decide (p0 ≥ 7)) then
    some ((sigs_sig.mk ByteArray.empty ByteArray.empty 0 0 false), false)
  else
    (idx tab_g1 p0).bind fun x12 =>
    some (x12, true)
def sigs_number (p0 : Int) : Option api_Type :=
  some (api_Type.mk 1 (api_Span.mk 0 p0) 0)
def sigs_Args_l1 (r8 : sigs_sig × Bool) (again : ((List api_Type) × Nat) → Option (List api_Type)) (s427 : (List api_Type) × Nat) : Option (List api_Type) :=
  if decide (s427.2 < r8.1.wants.size) then
    if ((runeAt r8.1.wants s427.2) == 104) then
      (room (s427.1.length + ([(api_Type.mk 2 (api_Span.mk 0 0) 0)]).length) 32).bind fun u448 =>
      again ((s427.1 ++ [(api_Type.mk 2 (api_Span.mk 0 0) 0)]), (runeEnd r8.1.wants s427.2))
    else
      if ((runeAt r8.1.wants s427.2) == 115) then
        (sigs_number 15).bind fun r470 =>
        (room (s427.1.length + ([r470]).length) 32).bind fun u476 =>
        again ((s427.1 ++ [r470]), (runeEnd r8.1.wants s427.2))
      else
        (sigs_number 18446744073709551615).bind fun r497 =>
        (room (s427.1.length + ([r497]).length) 32).bind fun u503 =>
        again ((s427.1 ++ [r497]), (runeEnd r8.1.wants s427.2))
  else
    some s427.1
def sigs_Args (fu : Nat) (p0 : Int) : Option (List api_Type) :=
  (sigs_of p0).bind fun r8 =>
  (loop (sigs_Args_l1 r8) fu (([] : List api_Type), 0)).bind fun o264 =>
  some o264
def sigs_Check_l1 (p1 : List api_Type) (r27 : (List api_Type)) (i365 : Nat) (again : Unit → Option (Unit ⊕ Int)) (s364 : Unit) : Option (Unit ⊕ Int) :=
  (idx r27 (i365 : Int)).bind fun x377 =>
  (idx p1 (i365 : Int)).bind fun x396 =>
  if (x377.Kind != x396.Kind) then
    some (.inr 33)
  else
    (if (x377.Kind == 1) then
      (span_Within x396.Span x377.Span).bind fun r425 =>
      some (!r425)
    else
      some false).bind fun o416 =>
    if o416 then
      some (.inr 35)
    else
      again ()
def sigs_Check (fu : Nat) (p0 : Int) (p1 : List api_Type) : Option Int :=
  (sigs_of p0).bind fun r11 =>
  if (!r11.2) then
    some 34
  else
    (sigs_Args fu p0).bind fun r27 =>
    if (((r27).length : Int) != ((p1).length : Int)) then
      some 2
    else
      (forN (sigs_Check_l1 p1 r27) (fun (s364 : Unit) => (.inl ())) (r27).length 0 ()).bind fun o232 => match o232 with
        | .inl t234 =>
          some 0
        | .inr r => some r
def sigs_Result (p0 : Int) : Option (api_Type × Bool) :=
  (sigs_of p0).bind fun r12 =>
  if (!r12.2) then
    some ((api_Type.mk 0 (api_Span.mk 0 0) 0), false)
  else
    (sigs_number r12.1.most).bind fun r27 =>
    some (r27, true)
def arith_Do (p0 : Int) (p1 : Int) (p2 : Int) : Option (Int × Bool) :=
  if (p0 == 1) then
    some (wu64 (p1 + p2), true)
  else
    if (p0 == 2) then
      some (wu64 (p1 - p2), true)
    else
      if (p0 == 3) then
        some (wu64 (p1 * p2), true)
      else
        if (p0 == 4) then
          if (p2 == 0) then
            some (0, true)
          else
            (nz p2).bind fun u8 =>
            some (wu64 (p1.tdiv p2), true)
        else
          if (p0 == 5) then
            if (p2 == 0) then
              some (p1, true)
            else
              (nz p2).bind fun u14 =>
              some (p1.tmod p2, true)
          else
            if (p0 == 6) then
              some (bAnd .u64 p1 p2, true)
            else
              if (p0 == 7) then
                some (bOr .u64 p1 p2, true)
              else
                if (p0 == 8) then
                  some (bXor .u64 p1 p2, true)
                else
                  if (p0 == 9) then
                    (nn p2).bind fun u22 =>
                    some (bShl .u64 p1 p2, true)
                  else
                    if (p0 == 10) then
                      (nn p2).bind fun u27 =>
                      some (bShr .u64 p1 p2, true)
                    else
                      some (0, false)
def span_single (p0 : api_Span) : Option Bool :=
  some (p0.Lo == p0.Hi)
def span_sum (p0 : api_Span) (p1 : api_Span) : Option api_Span :=
  (add64 p0.Hi p1.Hi 0).bind fun x15 =>
  if decide (x15.2 > 0) then
    span_Full.bind fun r23 =>
    some r23
  else
    some (api_Span.mk (wu64 (p0.Lo + p1.Lo)) x15.1)
def bits_Mul64 (p0 : Int) (p1 : Int) : Option (Int × Int) :=
  some (wu64 ((wu64 ((wu64 ((bShr .u64 p0 32) * (bShr .u64 p1 32))) + (bShr .u64 (wu64 ((wu64 ((bShr .u64 p0 32) * (bAnd .u64 p1 4294967295))) + (bShr .u64 (wu64 ((bAnd .u64 p0 4294967295) * (bAnd .u64 p1 4294967295))) 32))) 32))) + (bShr .u64 (wu64 ((bAnd .u64 (wu64 ((wu64 ((bShr .u64 p0 32) * (bAnd .u64 p1 4294967295))) + (bShr .u64 (wu64 ((bAnd .u64 p0 4294967295) * (bAnd .u64 p1 4294967295))) 32))) 4294967295) + (wu64 ((bAnd .u64 p0 4294967295) * (bShr .u64 p1 32))))) 32)), wu64 (p0 * p1))
def span_product (p0 : api_Span) (p1 : api_Span) : Option api_Span :=
  (bits_Mul64 p0.Hi p1.Hi).bind fun r17 =>
  if decide (r17.1 > 0) then
    span_Full.bind fun r27 =>
    some r27
  else
    some (api_Span.mk (wu64 (p0.Lo * p1.Lo)) r17.2)
def span_divided (p0 : api_Span) (p1 : api_Span) : Option api_Span :=
  if (p1.Lo == 0) then
    some (api_Span.mk 0 p0.Hi)
  else
    (nz p1.Hi).bind fun u25 =>
    (nz p1.Lo).bind fun u27 =>
    some (api_Span.mk (wu64 (p0.Lo.tdiv p1.Hi)) (wu64 (p0.Hi.tdiv p1.Lo)))
def span_rest (p0 : api_Span) (p1 : api_Span) : Option api_Span :=
  if (p1.Lo == 0) then
    some (api_Span.mk 0 p0.Hi)
  else
    if decide (p0.Hi < p1.Lo) then
      some p0
    else
      some (api_Span.mk 0 (imin p0.Hi (wu64 (p1.Hi - 1))))
def bits_Len64 (p0 : Int) : Option Int :=
  (if decide (p0 ≥ 4294967296) then
    some (bShr .u64 p0 32, 32)
  else
    some (p0, 0)).bind fun o2 =>
  (if decide (o2.1 ≥ 65536) then
    some (bShr .u64 o2.1 16, w64 (o2.2 + 16))
  else
    some (o2.1, o2.2)).bind fun o6 =>
  (if decide (o6.1 ≥ 256) then
    some (bShr .u64 o6.1 8, w64 (o6.2 + 8))
  else
    some (o6.1, o6.2)).bind fun o10 =>
  (sidx (⟨[0, 1, 2, 2, 3, 3, 3, 3, 4, 4, 4, 4, 4, 4, 4, 4, 5, 5, 5, 5, 5, 5, 5, 5, 5, 5, 5, 5, 5, 5, 5, 5, 6, 6, 6, 6, 6, 6, 6, 6, 6, 6, 6, 6, 6, 6, 6, 6, 6, 6, 6, 6, 6, 6, 6, 6, 6, 6, 6, 6, 6, 6, 6, 6, 7, 7, 7, 7, 7, 7, 7, 7, 7, 7, 7, 7, 7, 7, 7, 7, 7, 7, 7, 7, 7, 7, 7, 7, 7, 7, 7, 7, 7, 7, 7, 7, 7, 7, 7, 7, 7, 7, 7, 7, 7, 7, 7, 7, 7, 7, 7, 7, 7, 7, 7, 7, 7, 7, 7, 7, 7, 7, 7, 7, 7, 7, 7, 7, 8, 8, 8, 8, 8, 8, 8, 8, 8, 8, 8, 8, 8, 8, 8, 8, 8, 8, 8, 8, 8, 8, 8, 8, 8, 8, 8, 8, 8, 8, 8, 8, 8, 8, 8, 8, 8, 8, 8, 8, 8, 8, 8, 8, 8, 8, 8, 8, 8, 8, 8, 8, 8, 8, 8, 8, 8, 8, 8, 8, 8, 8, 8, 8, 8, 8, 8, 8, 8, 8, 8, 8, 8, 8, 8, 8, 8, 8, 8, 8, 8, 8, 8, 8, 8, 8, 8, 8, 8, 8, 8, 8, 8, 8, 8, 8, 8, 8, 8, 8, 8, 8, 8, 8, 8, 8, 8, 8, 8, 8, 8, 8, 8, 8, 8, 8, 8, 8, 8, 8, 8, 8, 8, 8, 8, 8, 8, 8].toArray⟩) (IntKind.u8.wrap o10.1)).bind fun c15 =>
  some (w64 (o10.2 + (w64 c15)))
def span_ones (p0 : Int) : Option Int :=
  (bits_Len64 p0).bind fun r7 =>
  (nn r7).bind fun u11 =>
  some (wu64 ((bShl .u64 1 r7) - 1))
def span_left (p0 : api_Span) (p1 : api_Span) : Option api_Span :=
  ((span_single p1).bind fun r40 =>
  if (!r40) then
    some true
  else
    (bits_Len64 p0.Hi).bind fun r45 =>
    if decide (r45 > 0) then
      if decide (p1.Lo > 64) then
        some true
      else
        (bits_Len64 p0.Hi).bind fun r51 =>
        some (decide ((wu64 ((wu64 r51) + p1.Lo)) > 64))
    else
      some false).bind fun o36 =>
  if o36 then
    span_Full.bind fun r61 =>
    some r61
  else
    (nn p1.Lo).bind fun u71 =>
    (nn p1.Lo).bind fun u73 =>
    some (api_Span.mk (bShl .u64 p0.Lo p1.Lo) (bShl .u64 p0.Hi p1.Lo))
def span_Do (p0 : Int) (p1 : api_Span) (p2 : api_Span) : Option (api_Span × Bool) :=
  (arith_Do p0 p1.Lo p2.Lo).bind fun r17 =>
  (if (!r17.2) then
    some true
  else
    (span_Right p1).bind fun r34 =>
    if (!r34) then
      some true
    else
      (span_Right p2).bind fun r39 =>
      some (!r39)).bind fun o31 =>
  if o31 then
    some ((api_Span.mk 0 0), false)
  else
    ((span_single p1).bind fun r61 =>
    if r61 then
      (span_single p2).bind fun r66 =>
      some r66
    else
      some false).bind fun o59 =>
    if o59 then
      (span_Single r17.1).bind fun r76 =>
      some (r76, true)
    else
      if (p0 == 1) then
        (span_sum p1 p2).bind fun r87 =>
        some (r87, true)
      else
        if (p0 == 2) then
          if decide (p1.Lo < p2.Hi) then
            span_Full.bind fun r99 =>
            some (r99, true)
          else
            some ((api_Span.mk (wu64 (p1.Lo - p2.Hi)) (wu64 (p1.Hi - p2.Lo))), true)
        else
          if (p0 == 3) then
            (span_product p1 p2).bind fun r112 =>
            some (r112, true)
          else
            if (p0 == 4) then
              (span_divided p1 p2).bind fun r123 =>
              some (r123, true)
            else
              if (p0 == 5) then
                (span_rest p1 p2).bind fun r134 =>
                some (r134, true)
              else
                if (p0 == 6) then
                  some ((api_Span.mk 0 (imin p1.Hi p2.Hi)), true)
                else
                  if (p0 == 7) then
                    (span_ones (bOr .u64 p1.Hi p2.Hi)).bind fun r152 =>
                    some ((api_Span.mk (imax p1.Lo p2.Lo) r152), true)
                  else
                    if (p0 == 8) then
                      (span_ones (bOr .u64 p1.Hi p2.Hi)).bind fun r163 =>
                      some ((api_Span.mk 0 r163), true)
                    else
                      if (p0 == 9) then
                        (span_left p1 p2).bind fun r174 =>
                        some (r174, true)
                      else
                        (nn p2.Hi).bind fun u184 =>
                        (nn p2.Lo).bind fun u186 =>
                        some ((api_Span.mk (bShr .u64 p1.Lo p2.Hi) (bShr .u64 p1.Hi p2.Lo)), true)
def judge_judge_one_l1 (p0 : judge_judge) (p1 : Int) (o81 : api_Inst × (Nat → api_Type)) (i724 : Nat) (again : Unit → Option (Unit ⊕ ((Nat → api_Type) × Int))) (s722 : Unit) : Option (Unit ⊕ ((Nat → api_Type) × Int)) :=
  (ain 8 (i724 : Int)).bind fun i772 =>
  (idx p0.came (w64 (p1 - o81.1.D))).bind fun x774 =>
  (judge_fits (o81.2 i772) (x774 i772)).bind fun r780 =>
  if (!r780) then
    some (.inr (o81.2, 33))
  else
    again ()
def judge_judge_one (fu : Nat) (p0 : judge_judge) (p1 : Int) : Option ((Nat → api_Type) × Int) :=
  ((idx p0.Module.Code p1).bind fun x85 =>
  (idx p0.came p1).bind fun x91 =>
  some (x85, x91)).bind fun o81 =>
  (ops_Source o81.1).bind fun r127 =>
  (if r127 then
    (judge_source o81.1 o81.2).bind fun r150 =>
    some r150
  else
    some (api_Type.mk 0 (api_Span.mk 0 0) 0)).bind fun o142 =>
  (ain 8 o81.1.A).bind fun i158 =>
  if (o81.1.Op == 0) then
    if (o142.Kind == 0) then
      some (o81.2, 33)
    else
      (ain 8 o81.1.D).bind fun i168 =>
      some ((aset o81.2 i168 o142), 0)
  else
    if (o81.1.Op == 11) then
      span_Full.bind fun r189 =>
      (judge_number r189).bind fun r193 =>
      (ain 8 o81.1.D).bind fun i197 =>
      (judge_nums ([o142])).bind fun r223 =>
      (judge_word o142).bind fun r227 =>
      (judge_first ([r223, r227])).bind fun r233 =>
      some ((aset o81.2 i197 r193), r233)
    else
      if (o81.1.Op == 12) then
        (judge_nums ([(o81.2 i158), o142])).bind fun r262 =>
        (judge_word o142).bind fun r266 =>
        (judge_first ([r262, r266])).bind fun r272 =>
        some (o81.2, r272)
      else
        if (o81.1.Op == 13) then
          span_Full.bind fun r293 =>
          (judge_number r293).bind fun r297 =>
          (ain 8 o81.1.D).bind fun i301 =>
          some ((aset o81.2 i301 r297), 0)
        else
          if (o81.1.Op == 14) then
            (ain 8 o81.1.D).bind fun i310 =>
            if decide (o81.1.Imm ≥ ((p0.Module.Maps).length : Int)) then
              some ((aset o81.2 i310 (api_Type.mk 2 (api_Span.mk 0 0) o81.1.Imm)), 35)
            else
              some ((aset o81.2 i310 (api_Type.mk 2 (api_Span.mk 0 0) o81.1.Imm)), 0)
          else
            if (o81.1.Op == 15) then
              some (o81.2, 0)
            else
              (if (o81.1.Op == 16) then
                some (o81.1.Op == 16)
              else
                if (o81.1.Op == 17) then
                  some (o81.1.Op == 17)
                else
                  if (o81.1.Op == 18) then
                    some (o81.1.Op == 18)
                  else
                    some (o81.1.Op == 19)).bind fun o359 =>
              if o359 then
                (judge_nums ([(o81.2 i158), o142])).bind fun r378 =>
                some (o81.2, r378)
              else
                if (o81.1.Op == 20) then
                  (judge_nums ([(o81.2 i158)])).bind fun r392 =>
                  if (r392 != 0) then
                    some (o81.2, r392)
                  else
                    (forN (judge_judge_one_l1 p0 p1 o81) (fun (s722 : Unit) => (.inl ())) 8 0 ()).bind fun o593 => match o593 with
                      | .inl t595 =>
                        some (o81.2, 0)
                      | .inr r => some r
                else
                  if (o81.1.Op == 21) then
                    (sigs_Args fu o81.1.Imm).bind fun r806 =>
                    (cut (arrL 8 o81.2) 1 (w64 (1 + ((r806).length : Int)))).bind fun ys814 =>
                    (sigs_Check fu o81.1.Imm ys814).bind fun r816 =>
                    (sigs_Result o81.1.Imm).bind fun r825 =>
                    some ((aset o81.2 0 r825.1), r816)
                  else
                    if (o81.1.Op == 22) then
                      (judge_nums ([(o81.2 i158)])).bind fun r846 =>
                      some (o81.2, r846)
                    else
                      (span_Do o81.1.Op (o81.2 i158).Span o142.Span).bind fun r858 =>
                      (judge_number r858.1).bind fun r876 =>
                      (ain 8 o81.1.D).bind fun i880 =>
                      (judge_nums ([(o81.2 i158), o142])).bind fun r896 =>
                      some ((aset o81.2 i880 r876), r896)
def span_Join_l1 (p0 : List api_Span) (i188 : Nat) (again : api_Span → Option (api_Span ⊕ (api_Span × Bool))) (s187 : api_Span) : Option (api_Span ⊕ (api_Span × Bool)) :=
  (idx p0 (i188 : Int)).bind fun x200 =>
  (span_Right x200).bind fun r213 =>
  if (!r213) then
    some (.inr ((api_Span.mk 0 0), false))
  else
    again (api_Span.mk (imin s187.Lo x200.Lo) (imax s187.Hi x200.Hi))
def span_Join (p0 : List api_Span) : Option (api_Span × Bool) :=
  (forN (span_Join_l1 p0) (fun (s187 : api_Span) => (.inl s187)) (p0).length 0 (api_Span.mk 18446744073709551615 0)).bind fun o117 => match o117 with
    | .inl t119 =>
      if (((p0).length : Int) == 0) then
        some ((api_Span.mk 0 0), false)
      else
        some (t119, true)
    | .inr r => some r
def judge_joined (p0 : api_Type) (p1 : api_Type) : Option api_Type :=
  if ((p0.Kind != p1.Kind) || (p0.Map != p1.Map)) then
    some (api_Type.mk 0 (api_Span.mk 0 0) 0)
  else
    if (p0.Kind == 1) then
      (span_Join ([p0.Span, p1.Span])).bind fun r29 =>
      (judge_number r29.1).bind fun r41 =>
      some r41
    else
      some p0
def judge_judge_come_l1 (p1 : Int) (p2 : Nat → api_Type) (i433 : Nat) (again : judge_judge → Option judge_judge) (s431 : judge_judge) : Option judge_judge :=
  (idx s431.came p1).bind fun x486 =>
  (ain 8 (i433 : Int)).bind fun i492 =>
  (judge_joined (x486 i492) (p2 i492)).bind fun r498 =>
  again (judge_judge.mk s431.Module (s431.came.set (Int.toNat p1) (aset x486 i492 r498)) s431.any s431.loops)
def judge_judge_come (p0 : judge_judge) (p1 : Int) (p2 : Nat → api_Type) : Option judge_judge :=
  (idx p0.any p1).bind fun x41 =>
  if (!x41) then
    (idx p0.came p1).bind fun x69 =>
    some (judge_judge.mk p0.Module (p0.came.set (Int.toNat p1) p2) (p0.any.set (Int.toNat p1) true) p0.loops)
  else
    (forN (judge_judge_come_l1 p1 p2) (fun (s431 : judge_judge) => s431) 8 0 p0).bind fun o290 =>
    some o290
def arith_Holds (p0 : Int) (p1 : Int) (p2 : Int) : Option (Bool × Bool) :=
  if (p0 == 16) then
    some ((p1 == p2), true)
  else
    if (p0 == 17) then
      some ((p1 != p2), true)
    else
      if (p0 == 18) then
        some (decide (p1 < p2), true)
      else
        if (p0 == 19) then
          some (decide (p1 ≥ p2), true)
        else
          some (false, false)
def span_Meet_l1 (p0 : List api_Span) (i197 : Nat) (again : api_Span → Option (api_Span ⊕ (api_Span × Bool))) (s196 : api_Span) : Option (api_Span ⊕ (api_Span × Bool)) :=
  (idx p0 (i197 : Int)).bind fun x209 =>
  (span_Right x209).bind fun r222 =>
  if (!r222) then
    some (.inr ((api_Span.mk 0 0), false))
  else
    again (api_Span.mk (imax s196.Lo x209.Lo) (imin s196.Hi x209.Hi))
def span_Meet (p0 : List api_Span) : Option (api_Span × Bool) :=
  span_Full.bind fun r15 =>
  (forN (span_Meet_l1 p0) (fun (s196 : api_Span) => (.inl s196)) (p0).length 0 r15).bind fun o126 => match o126 with
    | .inl t128 =>
      (if (((p0).length : Int) == 0) then
        some true
      else
        (span_Right t128).bind fun r239 =>
        some (!r239)).bind fun o236 =>
      if o236 then
        some ((api_Span.mk 0 0), false)
      else
        some (t128, true)
    | .inr r => some r
def span_Refine (p0 : Int) (p1 : api_Span) (p2 : api_Span) (p3 : Bool) : Option (api_Span × Bool) :=
  (arith_Holds p0 0 0).bind fun r17 =>
  (if (!r17.2) then
    some true
  else
    (span_Right p1).bind fun r34 =>
    if (!r34) then
      some true
    else
      (span_Right p2).bind fun r39 =>
      some (!r39)).bind fun o31 =>
  if o31 then
    some ((api_Span.mk 0 0), false)
  else
    (span_single p2).bind fun r50 =>
    if (!r50) then
      some (p1, true)
    else
      (if ((p0 == 18) && p3) then
        some ((p0 == 18) && p3)
      else
        if (p0 == 19) then
          some (!p3)
        else
          some false).bind fun o60 =>
      if o60 then
        if (p2.Lo == 0) then
          some ((api_Span.mk 0 0), false)
        else
          (span_Meet ([p1, (api_Span.mk 0 (wu64 (p2.Lo - 1)))])).bind fun r77 =>
          some (r77.1, r77.2)
      else
        (if (p0 == 18) then
          some (p0 == 18)
        else
          some (p0 == 19)).bind fun o83 =>
        if o83 then
          (span_Meet ([p1, (api_Span.mk p2.Lo 18446744073709551615)])).bind fun r96 =>
          some (r96.1, r96.2)
        else
          (if ((p0 == 16) && p3) then
            some ((p0 == 16) && p3)
          else
            if (p0 == 17) then
              some (!p3)
            else
              some false).bind fun o104 =>
          if o104 then
            (span_Meet ([p1, p2])).bind fun r118 =>
            some (r118.1, r118.2)
          else
            if ((p1.Lo == p2.Lo) && ((p1.Hi == p2.Hi) && true)) then
              some ((api_Span.mk 0 0), false)
            else
              if (p1.Lo == p2.Lo) then
                some ((api_Span.mk (wu64 (p1.Lo + 1)) p1.Hi), true)
              else
                if (p1.Hi == p2.Lo) then
                  some ((api_Span.mk p1.Lo (wu64 (p1.Hi - 1))), true)
                else
                  some (p1, true)
def judge_judge_ways_l1 (p1 : Int) (p2 : Nat → api_Type) (x44 : api_Inst) (r57 : Int × Bool × Bool) (r114 : api_Type) (i639 : Nat) (again : judge_judge → Option judge_judge) (s637 : judge_judge) : Option judge_judge :=
  (idx ([true, false]) (i639 : Int)).bind fun x648 =>
  (if (!x648) then
    some (w64 (p1 + 1))
  else
    some (w64 (p1 + r57.1))).bind fun o665 =>
  ((ain 8 x44.A).bind fun i695 =>
  (span_Refine x44.Op (p2 i695).Span r114.Span x648).bind fun r697 =>
  some (r697.1, r697.2)).bind fun o691 =>
  if o691.2 then
    (judge_number o691.1).bind fun r723 =>
    (ain 8 x44.A).bind fun i727 =>
    (judge_judge_come s637 o665 (aset p2 i727 r723)).bind fun r735 =>
    again r735
  else
    again s637
def judge_judge_ways (p0 : judge_judge) (p1 : Int) (p2 : Nat → api_Type) : Option judge_judge :=
  (idx p0.Module.Code p1).bind fun x44 =>
  (ops_Goes x44).bind fun r57 =>
  if ((!r57.2.1) || decide (r57.1 < 0)) then
    (if r57.2.2 then
      (judge_judge_come p0 (w64 (p1 + 1)) p2).bind fun r88 =>
      some r88
    else
      some p0).bind fun o78 =>
    some o78
  else
    if (!r57.2.2) then
      (judge_judge_come p0 (w64 (p1 + r57.1)) p2).bind fun r102 =>
      some r102
    else
      (judge_source x44 p2).bind fun r114 =>
      (forN (judge_judge_ways_l1 p1 p2 x44 r57 r114) (fun (s637 : judge_judge) => s637) 2 0 p0).bind fun o432 =>
      some o432
def judge_judged_l1 (fu : Nat) (i574 : Nat) (again : judge_judge → Option (judge_judge ⊕ ((Option judge_judge) × Int × Int))) (s572 : judge_judge) : Option (judge_judge ⊕ ((Option judge_judge) × Int × Int)) :=
  (idx s572.any (i574 : Int)).bind fun x612 =>
  if (!x612) then
    again s572
  else
    (judge_judge_widen s572 (i574 : Int)).bind fun r627 =>
    (judge_judge_one fu r627 (i574 : Int)).bind fun r640 =>
    if (r640.2 != 0) then
      some (.inr (none, (i574 : Int), r640.2))
    else
      (judge_judge_ways r627 (i574 : Int) r640.1).bind fun r654 =>
      again r654
def judge_judged (fu : Nat) (p0 : api_Module) : Option ((Option judge_judge) × Int × Int) :=
  (judge_good p0.Maps).bind fun r15 =>
  if (!r15) then
    some (none, 0, 2)
  else
    (flow_Check p0.Code).bind fun r24 =>
    if (r24.2 != 0) then
      some (none, r24.1, r24.2)
    else
      ((mkLen ((p0.Code).length : Int) 256).bind fun m57 =>
      (mkLen ((p0.Code).length : Int) 1).bind fun m61 =>
      some (judge_judge.mk p0 (List.replicate m57 (fun _ => (api_Type.mk 0 (api_Span.mk 0 0) 0))) (List.replicate m61 false) ([] : List api_Loop))).bind fun o53 =>
      (flow_Loops p0.Code).bind fun r114 =>
      (idx o53.any 0).bind fun x130 =>
      (forN (judge_judged_l1 fu) (fun (s572 : judge_judge) => (.inl s572)) (p0.Code).length 0 (judge_judge.mk o53.Module o53.came (o53.any.set (Int.toNat 0) true) r114.1)).bind fun o397 => match o397 with
        | .inl t399 =>
          some ((some t399), 0, 0)
        | .inr r => some r
def judge_Judge (fu : Nat) (p0 : api_Module) : Option (Int × Int) :=
  (judge_judged fu p0).bind fun r21 =>
  ocase r21.1
    (some (r21.2.1, r21.2.2))
    (fun k25 =>
    some (r21.2.1, r21.2.2))
def scratch_Words_Wipe (p0 : scratch_Words) : Option scratch_Words :=
  some (scratch_Words.mk (fun _ => 0))
def slices_Clone_int_int (p0 : List Int) : Option (List Int) :=
  (room (([] : List Int).length + p0.length) 8).bind fun u17 =>
  some (([] : List Int) ++ p0)
def slices_Clone_tappet_api_Inst_tappet_api_Inst (p0 : List api_Inst) : Option (List api_Inst) :=
  (room (([] : List api_Inst).length + p0.length) 40).bind fun u17 =>
  some (([] : List api_Inst) ++ p0)
def engine_New (fu : Nat) (p0 : api_Module) (p1 : api_Event) (p2 : scratch_Scratch) : Option ((Option engine_Machine) × Int × scratch_Scratch) :=
  (judge_Judge fu p0).bind fun r20 =>
  if (r20.2 != 0) then
    some (none, r20.2, p2)
  else
    (scratch_Words_Wipe p2.Words).bind fun r29 =>
    (slices_Clone_int_int p0.Maps).bind fun r55 =>
    (slices_Clone_tappet_api_Inst_tappet_api_Inst p0.Code).bind fun r63 =>
    some ((some (engine_Machine.mk p1 (api_Module.mk r55 r63) (fun _ => 0) (fun _ => 0) 0 0 0)), 0, (scratch_Scratch.mk r29 p2.Counters))
def worker_Worker_Enter (fu : Nat) (p0 : worker_Worker) (p1 : Int) (p2 : Int) (p3 : api_Module) : Option (Int × worker_Worker) :=
  if (p0.mode_ != 1) then
    some (41, p0)
  else
    (engine_New fu p3 p0.job.event.Event p0.Scratch).bind fun r38 =>
    ocase r38.1
      (if (r38.2.1 != 0) then
        some (r38.2.1, (worker_Worker.mk r38.2.2 p0.Stats p0.mode_ p0.job))
      else
        some (0, (worker_Worker.mk r38.2.2 p0.Stats 2 (worker_job.mk p0.job.hook p0.job.event p1 p2 p0.job.calls none))))
      (fun k43 =>
      if (r38.2.1 != 0) then
        some (r38.2.1, (worker_Worker.mk r38.2.2 p0.Stats p0.mode_ p0.job))
      else
        some (0, (worker_Worker.mk r38.2.2 p0.Stats 2 (worker_job.mk p0.job.hook p0.job.event p1 p2 p0.job.calls (some k43)))))
def sigs_Asks (p0 : Int) : Option (Int × Bool) :=
  (sigs_of p0).bind fun r8 =>
  some (r8.1.asks, r8.1.isAsked)
def scratch_Counters_Mark (p0 : scratch_Counters) (p1 : Int) : Option (Int × Int × scratch_Counters) :=
  if (decide (p1 < 0) || decide (p1 ≥ 16)) then
    some (0, 35, p0)
  else
    (ain 16 p1).bind fun i10 =>
    some (((aset p0.counts i10 (wu64 ((p0.counts i10) + 1))) i10), 0, (scratch_Counters.mk (aset p0.counts i10 (wu64 ((p0.counts i10) + 1)))))
def engine_Machine_call (fu : Nat) (p0 : engine_Machine) (p1 : Int) (g0 : scratch_Scratch) : Option (api_Act × engine_Machine × scratch_Scratch) :=
  (sigs_Asks p1).bind fun r27 =>
  if r27.2 then
    (idx p0.module.Maps (p0.regs 1)).bind fun x48 =>
    (sigs_Args fu p1).bind fun r63 =>
    (if decide (((r63).length : Int) > 2) then
      some (p0.regs 3)
    else
      some 0).bind fun o77 =>
    some ((api_Act.mk 2 p0.at_ (api_Item.mk x48 r27.1 (p0.regs 2) o77) 0), (engine_Machine.mk p0.Event p0.module p0.regs p0.turns p0.at_ p0.steps 1), g0)
  else
    (if (p1 == 5) then
      (scratch_Counters_Mark g0.Counters (w64 (p0.regs 1))).bind fun r133 =>
      some ((engine_Machine.mk p0.Event p0.module (aset p0.regs 0 r133.1) p0.turns p0.at_ p0.steps p0.state), (scratch_Scratch.mk g0.Words r133.2.2), (api_Act.mk 1 p0.at_ (api_Item.mk 0 0 0 0) r133.1))
    else
      some ((engine_Machine.mk p0.Event p0.module (aset p0.regs 0 0) p0.turns p0.at_ p0.steps p0.state), g0, (api_Act.mk 3 p0.at_ (api_Item.mk 0 0 0 0) (p0.regs 1)))).bind fun o121 =>
    some (o121.2.2, (engine_Machine.mk o121.1.Event o121.1.module o121.1.regs o121.1.turns (w64 (o121.1.at_ + 1)) o121.1.steps o121.1.state), o121.2.1)
def engine_Machine_source (p0 : engine_Machine) (p1 : api_Inst) : Option Int :=
  if (p1.B == 8) then
    some (wu64 p1.Imm)
  else
    (ain 8 p1.B).bind fun i12 =>
    some (p0.regs i12)
def scratch_Words_Load (p0 : scratch_Words) (p1 : Int) : Option (Int × Int) :=
  if (decide (p1 < 0) || decide (p1 ≥ 16)) then
    some (0, 35)
  else
    (ain 16 p1).bind fun i5 =>
    some ((p0.words i5), 0)
def scratch_Words_Store (p0 : scratch_Words) (p1 : Int) (p2 : Int) : Option (Int × scratch_Words) :=
  if (decide (p1 < 0) || decide (p1 ≥ 16)) then
    some (35, p0)
  else
    (ain 16 p1).bind fun i6 =>
    some (0, (scratch_Words.mk (aset p0.words i6 p2)))
def engine_Machine_run (p0 : engine_Machine) (p1 : api_Inst) (g0 : scratch_Scratch) : Option (Int × engine_Machine × scratch_Scratch) :=
  if (p1.Op == 0) then
    (engine_Machine_source (engine_Machine.mk p0.Event p0.module p0.regs p0.turns p0.at_ p0.steps p0.state) p1).bind fun r29 =>
    (ain 8 p1.D).bind fun i33 =>
    some (1, (engine_Machine.mk p0.Event p0.module (aset p0.regs i33 r29) p0.turns p0.at_ p0.steps p0.state), g0)
  else
    if (p1.Op == 11) then
      (engine_Machine_source (engine_Machine.mk p0.Event p0.module p0.regs p0.turns p0.at_ p0.steps p0.state) p1).bind fun r63 =>
      (scratch_Words_Load g0.Words (w64 r63)).bind fun r67 =>
      (ain 8 p1.D).bind fun i71 =>
      some (1, (engine_Machine.mk p0.Event p0.module (aset p0.regs i71 r67.1) p0.turns p0.at_ p0.steps p0.state), g0)
    else
      if (p1.Op == 12) then
        (ain 8 p1.A).bind fun i100 =>
        (engine_Machine_source (engine_Machine.mk p0.Event p0.module p0.regs p0.turns p0.at_ p0.steps p0.state) p1).bind fun r102 =>
        (scratch_Words_Store g0.Words (w64 r102) (p0.regs i100)).bind fun r106 =>
        some (1, (engine_Machine.mk p0.Event p0.module p0.regs p0.turns p0.at_ p0.steps p0.state), (scratch_Scratch.mk r106.2 g0.Counters))
      else
        if (p1.Op == 13) then
          (ain 8 p1.D).bind fun i129 =>
          if (p1.Imm == 1) then
            some (1, (engine_Machine.mk p0.Event p0.module (aset (aset p0.regs i129 p0.Event.A) i129 p0.Event.B) p0.turns p0.at_ p0.steps p0.state), g0)
          else
            some (1, (engine_Machine.mk p0.Event p0.module (aset p0.regs i129 p0.Event.A) p0.turns p0.at_ p0.steps p0.state), g0)
        else
          if (p1.Op == 14) then
            (ain 8 p1.D).bind fun i159 =>
            some (1, (engine_Machine.mk p0.Event p0.module (aset p0.regs i159 (wu64 p1.Imm)) p0.turns p0.at_ p0.steps p0.state), g0)
          else
            if (p1.Op == 15) then
              some (w64 (p1.D + 1), p0, g0)
            else
              if (p1.Op == 20) then
                ((ain 8 p1.A).bind fun i193 =>
                if ((p0.regs i193) != 0) then
                  (ain 64 p0.at_).bind fun i196 =>
                  some (decide ((p0.turns i196) < p1.Imm))
                else
                  some false).bind fun o189 =>
                if o189 then
                  (ain 64 (engine_Machine.mk p0.Event p0.module p0.regs p0.turns p0.at_ p0.steps p0.state).at_).bind fun i218 =>
                  some (w64 (0 - p1.D), (engine_Machine.mk (engine_Machine.mk p0.Event p0.module p0.regs p0.turns p0.at_ p0.steps p0.state).Event (engine_Machine.mk p0.Event p0.module p0.regs p0.turns p0.at_ p0.steps p0.state).module (engine_Machine.mk p0.Event p0.module p0.regs p0.turns p0.at_ p0.steps p0.state).regs (aset (engine_Machine.mk p0.Event p0.module p0.regs p0.turns p0.at_ p0.steps p0.state).turns i218 (w64 (((engine_Machine.mk p0.Event p0.module p0.regs p0.turns p0.at_ p0.steps p0.state).turns i218) + 1))) (engine_Machine.mk p0.Event p0.module p0.regs p0.turns p0.at_ p0.steps p0.state).at_ (engine_Machine.mk p0.Event p0.module p0.regs p0.turns p0.at_ p0.steps p0.state).steps (engine_Machine.mk p0.Event p0.module p0.regs p0.turns p0.at_ p0.steps p0.state).state), g0)
                else
                  (ain 64 (engine_Machine.mk p0.Event p0.module p0.regs p0.turns p0.at_ p0.steps p0.state).at_).bind fun i239 =>
                  some (1, (engine_Machine.mk (engine_Machine.mk p0.Event p0.module p0.regs p0.turns p0.at_ p0.steps p0.state).Event (engine_Machine.mk p0.Event p0.module p0.regs p0.turns p0.at_ p0.steps p0.state).module (engine_Machine.mk p0.Event p0.module p0.regs p0.turns p0.at_ p0.steps p0.state).regs (aset (engine_Machine.mk p0.Event p0.module p0.regs p0.turns p0.at_ p0.steps p0.state).turns i239 0) (engine_Machine.mk p0.Event p0.module p0.regs p0.turns p0.at_ p0.steps p0.state).at_ (engine_Machine.mk p0.Event p0.module p0.regs p0.turns p0.at_ p0.steps p0.state).steps (engine_Machine.mk p0.Event p0.module p0.regs p0.turns p0.at_ p0.steps p0.state).state), g0)
              else
                (ain 8 p1.A).bind fun i267 =>
                (engine_Machine_source (engine_Machine.mk p0.Event p0.module p0.regs p0.turns p0.at_ p0.steps p0.state) p1).bind fun r269 =>
                (arith_Do p1.Op (p0.regs i267) r269).bind fun r273 =>
                if r273.2 then
                  (ain 8 p1.D).bind fun i285 =>
                  some (1, (engine_Machine.mk p0.Event p0.module (aset p0.regs i285 r273.1) p0.turns p0.at_ p0.steps p0.state), g0)
                else
                  (engine_Machine_source (engine_Machine.mk p0.Event p0.module p0.regs p0.turns p0.at_ p0.steps p0.state) p1).bind fun r301 =>
                  (arith_Holds p1.Op (p0.regs i267) r301).bind fun r305 =>
                  if r305.1 then
                    some (w64 (p1.D + 1), (engine_Machine.mk p0.Event p0.module p0.regs p0.turns p0.at_ p0.steps p0.state), g0)
                  else
                    some (1, (engine_Machine.mk p0.Event p0.module p0.regs p0.turns p0.at_ p0.steps p0.state), g0)
def engine_Machine_Step (fu : Nat) (p0 : engine_Machine) (g0 : scratch_Scratch) : Option (api_Act × engine_Machine × scratch_Scratch) :=
  if (p0.state == 1) then
    some ((api_Act.mk 5 p0.at_ (api_Item.mk 0 0 0 0) 0), (engine_Machine.mk p0.Event p0.module p0.regs p0.turns p0.at_ p0.steps p0.state), g0)
  else
    if (p0.state == 2) then
      (idx p0.module.Code p0.at_).bind fun x36 =>
      (ain 8 x36.A).bind fun i42 =>
      some ((api_Act.mk 6 p0.at_ (api_Item.mk 0 0 0 0) (p0.regs i42)), (engine_Machine.mk p0.Event p0.module p0.regs p0.turns p0.at_ p0.steps p0.state), g0)
    else
      (idx p0.module.Code p0.at_).bind fun x61 =>
      if (x61.Op == 21) then
        (engine_Machine_call fu (engine_Machine.mk p0.Event p0.module p0.regs p0.turns p0.at_ (w64 (p0.steps + 1)) p0.state) x61.Imm g0).bind fun r80 =>
        some (r80.1, r80.2.1, r80.2.2)
      else
        if (x61.Op == 22) then
          (ain 8 x61.A).bind fun i97 =>
          some ((api_Act.mk 4 p0.at_ (api_Item.mk 0 0 0 0) (p0.regs i97)), (engine_Machine.mk p0.Event p0.module p0.regs p0.turns p0.at_ (w64 (p0.steps + 1)) 2), g0)
        else
          (engine_Machine_run (engine_Machine.mk p0.Event p0.module p0.regs p0.turns p0.at_ (w64 (p0.steps + 1)) p0.state) x61 g0).bind fun r131 =>
          some ((api_Act.mk 1 p0.at_ (api_Item.mk 0 0 0 0) 0), (engine_Machine.mk r131.2.1.Event r131.2.1.module r131.2.1.regs r131.2.1.turns (w64 (p0.at_ + r131.1)) r131.2.1.steps r131.2.1.state), r131.2.2)
def engine_Machine_Steps (p0 : engine_Machine) : Option Int :=
  some p0.steps
def stats_known (p0 : Int) : Option Bool :=
  some (decide (p0 ≥ 0) && decide (p0 < 4))
def stats_Add_l1 (p0 : List api_Tally) (i171 : Nat) (again : api_Tally → Option api_Tally) (s170 : api_Tally) : Option api_Tally :=
  (idx p0 (i171 : Int)).bind fun x183 =>
  again (api_Tally.mk (wu64 (s170.Runs + x183.Runs)) (wu64 (s170.Missed + x183.Missed)) (wu64 (s170.Steps + x183.Steps)) (wu64 (s170.Calls + x183.Calls)) (wu64 (s170.Sum + x183.Sum)))
def stats_Add (p0 : List api_Tally) : Option api_Tally :=
  (forN (stats_Add_l1 p0) (fun (s170 : api_Tally) => s170) (p0).length 0 (api_Tally.mk 0 0 0 0 0)).bind fun o107 =>
  some o107
def stats_Stats_Ran (p0 : stats_Stats) (p1 : Int) (p2 : Int) (p3 : Int) (p4 : Int) : Option (Int × stats_Stats) :=
  (stats_known p1).bind fun r6 =>
  if (!r6) then
    some (2, p0)
  else
    (ain 4 p1).bind fun i24 =>
    (stats_Add ([(p0.hooks i24), (api_Tally.mk 1 0 p2 p3 p4)])).bind fun r28 =>
    some (0, (stats_Stats.mk (aset p0.hooks i24 r28)))
def worker_Worker_rest (p0 : worker_Worker) : Option worker_Worker :=
  some (worker_Worker.mk p0.Scratch p0.Stats 0 (worker_job.mk 0 (api_Queued.mk 0 (api_Event.mk 0 0)) 0 0 0 none))
def worker_Worker_Step (fu : Nat) (p0 : worker_Worker) : Option (api_Act × Bool × worker_Worker) :=
  if (p0.mode_ != 2) then
    some ((api_Act.mk 0 0 (api_Item.mk 0 0 0 0) 0), false, p0)
  else
    p0.job.machine.bind fun y30 =>
    (engine_Machine_Step fu y30 p0.Scratch).bind fun r33 =>
    if (r33.1.Kind == 2) then
      some (r33.1, true, (worker_Worker.mk r33.2.2 p0.Stats 3 (worker_job.mk p0.job.hook p0.job.event p0.job.version p0.job.prog (wu64 (p0.job.calls + 1)) (some r33.2.1))))
    else
      if (r33.1.Kind == 4) then
        (engine_Machine_Steps (engine_Machine.mk r33.2.1.Event r33.2.1.module r33.2.1.regs r33.2.1.turns r33.2.1.at_ r33.2.1.steps r33.2.1.state)).bind fun r84 =>
        (stats_Stats_Ran p0.Stats p0.job.hook (wu64 r84) p0.job.calls r33.1.Val).bind fun r88 =>
        (worker_Worker_rest (worker_Worker.mk r33.2.2 r88.2 p0.mode_ (worker_job.mk p0.job.hook p0.job.event p0.job.version p0.job.prog p0.job.calls (some (engine_Machine.mk r33.2.1.Event r33.2.1.module r33.2.1.regs r33.2.1.turns r33.2.1.at_ r33.2.1.steps r33.2.1.state))))).bind fun r102 =>
        some (r33.1, true, r102)
      else
        some (r33.1, true, (worker_Worker.mk r33.2.2 p0.Stats p0.mode_ (worker_job.mk p0.job.hook p0.job.event p0.job.version p0.job.prog p0.job.calls (some r33.2.1))))
def stats_Stats_Of (p0 : stats_Stats) (p1 : Int) : Option (api_Tally × Int) :=
  (stats_known p1).bind fun r10 =>
  if (!r10) then
    some ((api_Tally.mk 0 0 0 0 0), 2)
  else
    (ain 4 p1).bind fun i20 =>
    some ((p0.hooks i20), 0)
def tappetlaw23_awake (fu : Nat)  : Option Bool :=
  worker_New.bind fun r8 =>
  ((worker_Worker_Take r8 1 (api_Queued.mk 4 (api_Event.mk 5 0))).bind fun r34 =>
  if (r34.1 != 0) then
    some (r34.2, true)
  else
    (worker_Worker_Mode r34.2).bind fun r40 =>
    some (r34.2, (r40 != 1))).bind fun o32 =>
  if o32.2 then
    some false
  else
    (worker_Worker_Enter fu o32.1 3 7 (api_Module.mk ([] : List Int) ([(api_Inst.mk 13 0 0 0 0), (api_Inst.mk 22 0 0 0 0)]))).bind fun r55 =>
    if (r55.1 != 0) then
      some false
    else
      (worker_Worker_Step fu r55.2).bind fun r66 =>
      (worker_Worker_Step fu r66.2.2).bind fun r79 =>
      (stats_Stats_Of r79.2.2.Stats 1).bind fun r103 =>
      (if r79.2.1 then
        if (r79.1.Val == 5) then
          (worker_Worker_Mode r79.2.2).bind fun r129 =>
          if (r129 == 0) then
            if (r103.2 == 0) then
              if (r103.1.Runs == 1) then
                some (r103.1.Sum == 5)
              else
                some false
            else
              some false
          else
            some false
        else
          some false
      else
        some false).bind fun o124 =>
      some o124
def worker_Worker_Runs (p0 : worker_Worker) : Option (Int × Int) :=
  some (p0.job.version, p0.job.prog)
def tappetlaw23_copied (p0 : api_Module) : Option api_Module :=
  ((room (([] : List Int).length + p0.Maps.length) 8).bind fun u78 =>
  (room (([] : List api_Inst).length + p0.Code.length) 40).bind fun u87 =>
  some ()).bind fun o72 =>
  some (api_Module.mk (([] : List Int) ++ p0.Maps) (([] : List api_Inst) ++ p0.Code))
def stats_Stats_Missed_l1 (p0 : stats_Stats) (p1 : List Int) (i128 : Nat) (again : Unit → Option (Unit ⊕ (Int × stats_Stats))) (s127 : Unit) : Option (Unit ⊕ (Int × stats_Stats)) :=
  (idx p1 (i128 : Int)).bind fun x137 =>
  (stats_known x137).bind fun r147 =>
  if (!r147) then
    some (.inr (2, p0))
  else
    again ()
def stats_Stats_Missed_l2 (p1 : List Int) (i286 : Nat) (again : stats_Stats → Option stats_Stats) (s284 : stats_Stats) : Option stats_Stats :=
  (idx p1 (i286 : Int)).bind fun x295 =>
  (ain 4 x295).bind fun i308 =>
  again (stats_Stats.mk (aset s284.hooks i308 (api_Tally.mk (s284.hooks i308).Runs (wu64 ((s284.hooks i308).Missed + 1)) (s284.hooks i308).Steps (s284.hooks i308).Calls (s284.hooks i308).Sum)))
def stats_Stats_Missed (p0 : stats_Stats) (p1 : List Int) : Option (Int × stats_Stats) :=
  (forN (stats_Stats_Missed_l1 p0 p1) (fun (s127 : Unit) => (.inl ())) (p1).length 0 ()).bind fun o77 => match o77 with
    | .inl t79 =>
      (forN (stats_Stats_Missed_l2 p1) (fun (s284 : stats_Stats) => s284) (p1).length 0 p0).bind fun o231 =>
      some (0, o231)
    | .inr r => some r
def worker_Worker_Skip (p0 : worker_Worker) : Option (Int × worker_Worker) :=
  if (p0.mode_ != 1) then
    some (41, p0)
  else
    (stats_Stats_Missed p0.Stats ([p0.job.hook])).bind fun r25 =>
    (worker_Worker_rest (worker_Worker.mk p0.Scratch r25.2 p0.mode_ p0.job)).bind fun r37 =>
    some (0, r37)
def sigs_Value (p0 : Int) (p1 : api_Res) : Option Int :=
  (if (p0 == 0) then
    some (p0 == 0)
  else
    some (p0 == 4)).bind fun o6 =>
  if o6 then
    some p1.Val
  else
    (if (p0 == 1) then
      some (p0 == 1)
    else
      some (p0 == 3)).bind fun o11 =>
    if o11 then
      if p1.Found then
        some 1
      else
        some 0
    else
      if (p0 == 2) then
        if (p1.E == 0) then
          some 1
        else
          some 0
      else
        some 0
def engine_Machine_Answer (p0 : engine_Machine) (p1 : api_Res) (g0 : scratch_Scratch) : Option (Int × engine_Machine) :=
  if (p0.state != 1) then
    some (2, (engine_Machine.mk p0.Event p0.module p0.regs p0.turns p0.at_ p0.steps p0.state))
  else
    (idx p0.module.Code p0.at_).bind fun x35 =>
    (sigs_Value x35.Imm p1).bind fun r41 =>
    some (0, (engine_Machine.mk p0.Event p0.module (aset p0.regs 0 r41) p0.turns (w64 (p0.at_ + 1)) p0.steps 0))
def worker_Worker_Answer (p0 : worker_Worker) (p1 : api_Res) : Option (Int × worker_Worker) :=
  if (p0.mode_ != 3) then
    some (41, p0)
  else
    p0.job.machine.bind fun y31 =>
    (engine_Machine_Answer y31 p1 p0.Scratch).bind fun r34 =>
    some (r34.1, (worker_Worker.mk p0.Scratch p0.Stats 2 (worker_job.mk p0.job.hook p0.job.event p0.job.version p0.job.prog p0.job.calls (some r34.2))))
def engine_Trace_l1 (fu : Nat) (again : ((List api_Res) × engine_Machine × scratch_Scratch × (List api_Act)) → Option ((List api_Act) × Int)) (s229 : (List api_Res) × engine_Machine × scratch_Scratch × (List api_Act)) : Option ((List api_Act) × Int) :=
  (engine_Machine_Step fu s229.2.1 s229.2.2.1).bind fun r250 =>
  (room (s229.2.2.2.length + ([r250.1]).length) 56).bind fun u270 =>
  (if (r250.1.Kind == 4) then
    some (r250.1.Kind == 4)
  else
    if (r250.1.Kind == 2) then
      some (((s229.1).length : Int) == 0)
    else
      some false).bind fun o279 =>
  if o279 then
    some ((s229.2.2.2 ++ [r250.1]), 0)
  else
    if (r250.1.Kind == 2) then
      (idx s229.1 0).bind fun x297 =>
      (engine_Machine_Answer r250.2.1 x297 r250.2.2).bind fun r303 =>
      (cut s229.1 1 (s229.1.length : Int)).bind fun ys312 =>
      again (ys312, r303.2, r250.2.2, (s229.2.2.2 ++ [r250.1]))
    else
      again (s229.1, r250.2.1, r250.2.2, (s229.2.2.2 ++ [r250.1]))
def engine_Trace_l2 (again : Unit → Option ((List api_Act) × Int)) (s327 : Unit) : Option ((List api_Act) × Int) :=
  none
def engine_Trace (fu : Nat) (p0 : api_Module) (p1 : api_Event) (p2 : List api_Res) : Option ((List api_Act) × Int) :=
  scratch_New.bind fun r41 =>
  (engine_New fu p0 p1 r41).bind fun r48 =>
  ocase r48.1
    (if (r48.2.1 != 0) then
      some (([] : List api_Act), r48.2.1)
    else
      loop engine_Trace_l2 fu ())
    (fun k53 =>
    if (r48.2.1 != 0) then
      some (([] : List api_Act), r48.2.1)
    else
      loop (engine_Trace_l1 fu) fu (p2, k53, r48.2.2, ([] : List api_Act)))
def tappetlaw23_WorkerRuns_l2 (x8908 : tappetlaw23_Event) (i9279 : Nat) (again : Bool → Option Bool) (s9278 : Bool) : Option Bool :=
  if s9278 then
    again true
  else
    (idx x8908.M.Code (i9279 : Int)).bind fun x9283 =>
    if (x9283.Op == 21) then
      again (x9283.Imm == 5)
    else
      again false
def tappetlaw23_WorkerRuns_l3 (x8908 : tappetlaw23_Event) (i9613 : Nat) (again : (List api_Res) → Option (List api_Res)) (s9611 : (List api_Res)) : Option (List api_Res) :=
  (if decide ((i9613 : Int) < ((x8908.Res).length : Int)) then
    (idx x8908.Res (i9613 : Int)).bind fun x9650 =>
    some x9650
  else
    some (api_Res.mk 0 false (wu64 (i9613 : Int)) false 0 0)).bind fun o9640 =>
  (room (s9611.length + ([o9640]).length) 48).bind fun u9668 =>
  again (s9611 ++ [o9640])
def tappetlaw23_WorkerRuns_l4 (fu : Nat) (s8877 : worker_Worker × Int) (o9242 : Bool) (o9484 : (List api_Res)) (r9752 : (List api_Act) × Int) (again : (worker_Worker × Int × Int × api_Act) → Option ((worker_Worker × Int × Int × api_Act) ⊕ Bool)) (s10442 : worker_Worker × Int × Int × api_Act) : Option ((worker_Worker × Int × Int × api_Act) ⊕ Bool) :=
  (if decide (s10442.2.2.1 ≤ 256) then
    (worker_Worker_Mode s10442.1).bind fun r10454 =>
    some (r10454 != 0)
  else
    some false).bind fun o10451 =>
  if o10451 then
    (worker_Worker_Runs s10442.1).bind fun r10465 =>
    (worker_Worker_Step fu s10442.1).bind fun r10478 =>
    (if (!r10478.2.1) then
      some true
    else
      if (r10465.1 != (w64 (s8877.2 + 5))) then
        some true
      else
        if (r10465.2 != s8877.2) then
          some true
        else
          if (!o9242) then
            if decide (s10442.2.2.1 ≥ ((r9752.1).length : Int)) then
              some true
            else
              (idx r9752.1 s10442.2.2.1).bind fun x10510 =>
              some (!((r10478.1.Kind == x10510.Kind) && ((r10478.1.Pc == x10510.Pc) && (((r10478.1.Item.Map == x10510.Item.Map) && ((r10478.1.Item.Op == x10510.Item.Op) && ((r10478.1.Item.Key == x10510.Item.Key) && ((r10478.1.Item.Val == x10510.Item.Val) && true)))) && ((r10478.1.Val == x10510.Val) && true)))))
          else
            some false).bind fun o10501 =>
    if o10501 then
      some (.inr false)
    else
      if (r10478.1.Kind == 2) then
        (worker_Worker_Step fu r10478.2.2).bind fun r10528 =>
        (if r10528.2.1 then
          some (r10528.2.2, true)
        else
          if decide (s10442.2.1 ≥ ((o9484).length : Int)) then
            some (r10528.2.2, true)
          else
            (worker_Worker_Mode r10528.2.2).bind fun r10560 =>
            if (r10560 != 3) then
              some (r10528.2.2, true)
            else
              (idx o9484 s10442.2.1).bind fun x10566 =>
              (worker_Worker_Answer r10528.2.2 x10566).bind fun r10572 =>
              some (r10572.2, (r10572.1 != 0))).bind fun o10556 =>
        if o10556.2 then
          some (.inr false)
        else
          again (o10556.1, w64 (s10442.2.1 + 1), w64 (s10442.2.2.1 + 1), r10478.1)
      else
        again (r10478.2.2, s10442.2.1, w64 (s10442.2.2.1 + 1), r10478.1)
  else
    some (.inl (s10442.1, s10442.2.1, s10442.2.2.1, s10442.2.2.2))
def tappetlaw23_WorkerRuns_l1 (fu : Nat) (p0 : List tappetlaw23_Event) (again : (worker_Worker × Int) → Option (Unit ⊕ Bool)) (s8877 : worker_Worker × Int) : Option (Unit ⊕ Bool) :=
  if (decide (s8877.2 < ((p0).length : Int)) && decide (s8877.2 < 40)) then
    (idx p0 s8877.2).bind fun x8908 =>
    (stats_Stats_Of s8877.1.Stats ((w64 ((x8908.Hook.tmod 4) + 4)).tmod 4)).bind fun r8951 =>
    (worker_Worker_Take s8877.1 ((w64 ((x8908.Hook.tmod 4) + 4)).tmod 4) (api_Queued.mk (w64 (s8877.2 + 1)) x8908.E)).bind fun r8966 =>
    if (r8966.1 != 0) then
      some (.inr false)
    else
      (tappetlaw23_copied x8908.M).bind fun r9006 =>
      (judge_Judge fu r9006).bind fun r9036 =>
      (tappetlaw23_copied x8908.M).bind fun r9075 =>
      (worker_Worker_Enter fu r8966.2 (w64 (s8877.2 + 5)) s8877.2 r9075).bind fun r9105 =>
      if (r9105.1 != r9036.2) then
        some (.inr false)
      else
        if (r9036.2 != 0) then
          (stats_Stats_Of r9105.2.Stats ((w64 ((x8908.Hook.tmod 4) + 4)).tmod 4)).bind fun r9128 =>
          (if (!((r9128.1.Runs == r8951.1.Runs) && ((r9128.1.Missed == r8951.1.Missed) && ((r9128.1.Steps == r8951.1.Steps) && ((r9128.1.Calls == r8951.1.Calls) && ((r9128.1.Sum == r8951.1.Sum) && true)))))) then
            some (r9105.2, true)
          else
            (worker_Worker_Mode r9105.2).bind fun r9156 =>
            if (r9156 != 1) then
              some (r9105.2, true)
            else
              (worker_Worker_Skip r9105.2).bind fun r9162 =>
              some (r9162.2, (r9162.1 != 0))).bind fun o9151 =>
          if o9151.2 then
            some (.inr false)
          else
            (stats_Stats_Of o9151.1.Stats ((w64 ((x8908.Hook.tmod 4) + 4)).tmod 4)).bind fun r9182 =>
            if (!((r9182.1.Runs == r8951.1.Runs) && ((r9182.1.Missed == (wu64 (r8951.1.Missed + 1))) && ((r9182.1.Steps == r8951.1.Steps) && ((r9182.1.Calls == r8951.1.Calls) && ((r9182.1.Sum == r8951.1.Sum) && true)))))) then
              some (.inr false)
            else
              again (o9151.1, w64 (s8877.2 + 1))
        else
          (forN (tappetlaw23_WorkerRuns_l2 x8908) (fun (s9278 : Bool) => s9278) (x8908.M.Code).length 0 false).bind fun o9242 =>
          (forN (tappetlaw23_WorkerRuns_l3 x8908) (fun (s9611 : (List api_Res)) => s9611) 256 0 ([] : List api_Res)).bind fun o9484 =>
          (tappetlaw23_copied x8908.M).bind fun r9722 =>
          (engine_Trace fu r9722 x8908.E o9484).bind fun r9752 =>
          (loop (tappetlaw23_WorkerRuns_l4 fu s8877 o9242 o9484 r9752) fu (r9105.2, 0, 0, (api_Act.mk 0 0 (api_Item.mk 0 0 0 0) 0))).bind fun o10171 => match o10171 with
            | .inl t10173 =>
              (stats_Stats_Of t10173.1.Stats ((w64 ((x8908.Hook.tmod 4) + 4)).tmod 4)).bind fun r10594 =>
              (if (t10173.2.2.2.Kind != 4) then
                some (t10173.1, true)
              else
                if (!((r10594.1.Runs == (wu64 (r8951.1.Runs + 1))) && ((r10594.1.Missed == r8951.1.Missed) && ((r10594.1.Steps == (wu64 (r8951.1.Steps + (wu64 t10173.2.2.1)))) && ((r10594.1.Calls == (wu64 (r8951.1.Calls + (wu64 t10173.2.1)))) && ((r10594.1.Sum == (wu64 (r8951.1.Sum + t10173.2.2.2.Val))) && true)))))) then
                  some (t10173.1, true)
                else
                  (worker_Worker_Answer t10173.1 (api_Res.mk 0 false 0 false 0 0)).bind fun r10634 =>
                  if (r10634.1 != 41) then
                    some (r10634.2, true)
                  else
                    (worker_Worker_Skip r10634.2).bind fun r10640 =>
                    some (r10640.2, (r10640.1 != 41))).bind fun o10627 =>
              if o10627.2 then
                some (.inr false)
              else
                again (o10627.1, w64 (s8877.2 + 1))
            | .inr r => some (.inr r)
  else
    some (.inl ())
def tappetlaw23_WorkerRuns (fu : Nat) (p0 : List tappetlaw23_Event) : Option Bool :=
  (tappetlaw23_awake fu).bind fun r8 =>
  if (!r8) then
    some false
  else
    worker_New.bind fun r20 =>
    (loop (tappetlaw23_WorkerRuns_l1 fu p0) fu (r20, 0)).bind fun o5335 => match o5335 with
      | .inl t5337 =>
        some true
      | .inr r => some r
end Go.Proofs.YtkgajppghpmkbaaDoor
