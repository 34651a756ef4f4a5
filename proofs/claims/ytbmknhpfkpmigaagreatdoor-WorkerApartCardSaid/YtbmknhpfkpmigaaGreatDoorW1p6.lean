/- Texts W1p6 of this proof. -/
import Derived.Test.YtbmknhpfkpmigaaGreatDoorW1p5
set_option linter.unusedVariables false
set_option linter.unusedSimpArgs false
set_option maxRecDepth 10000
set_option maxHeartbeats 4000000
namespace Go.Proofs.YtbmknhpfkpmigaaGreatDoor
open Go.Sx
set_option maxRecDepth 10000 in
set_option maxHeartbeats 4000000 in
theorem zdS (w : World) (b0 : Nat) (v0_0 : Value) (v0_1 : Value) (v0_2 : Value) (p0 : zh) (r : Int) (hF : xK p0 = some r)
    (hst : St w (fp []) w []) (h0 : RdB w (fp []) b0 [.int .u64 p0.Ev.A, .int .u64 p0.Ev.B, v0_0, v0_1, v0_2, .int .u64 (p0.rg 0), .int .u64 (p0.rg 1), .int .u64 (p0.rg 2), .int .u64 (p0.rg 3), .int .u64 (p0.rg 4), .int .u64 (p0.rg 5), .int .u64 (p0.rg 6), .int .u64 (p0.rg 7), .int .i64 (p0.tu 0), .int .i64 (p0.tu 1), .int .i64 (p0.tu 2), .int .i64 (p0.tu 3), .int .i64 (p0.tu 4), .int .i64 (p0.tu 5), .int .i64 (p0.tu 6), .int .i64 (p0.tu 7), .int .i64 (p0.tu 8), .int .i64 (p0.tu 9), .int .i64 (p0.tu 10), .int .i64 (p0.tu 11), .int .i64 (p0.tu 12), .int .i64 (p0.tu 13), .int .i64 (p0.tu 14), .int .i64 (p0.tu 15), .int .i64 (p0.tu 16), .int .i64 (p0.tu 17), .int .i64 (p0.tu 18), .int .i64 (p0.tu 19), .int .i64 (p0.tu 20), .int .i64 (p0.tu 21), .int .i64 (p0.tu 22), .int .i64 (p0.tu 23), .int .i64 (p0.tu 24), .int .i64 (p0.tu 25), .int .i64 (p0.tu 26), .int .i64 (p0.tu 27), .int .i64 (p0.tu 28), .int .i64 (p0.tu 29), .int .i64 (p0.tu 30), .int .i64 (p0.tu 31), .int .i64 (p0.tu 32), .int .i64 (p0.tu 33), .int .i64 (p0.tu 34), .int .i64 (p0.tu 35), .int .i64 (p0.tu 36), .int .i64 (p0.tu 37), .int .i64 (p0.tu 38), .int .i64 (p0.tu 39), .int .i64 (p0.tu 40), .int .i64 (p0.tu 41), .int .i64 (p0.tu 42), .int .i64 (p0.tu 43), .int .i64 (p0.tu 44), .int .i64 (p0.tu 45), .int .i64 (p0.tu 46), .int .i64 (p0.tu 47), .int .i64 (p0.tu 48), .int .i64 (p0.tu 49), .int .i64 (p0.tu 50), .int .i64 (p0.tu 51), .int .i64 (p0.tu 52), .int .i64 (p0.tu 53), .int .i64 (p0.tu 54), .int .i64 (p0.tu 55), .int .i64 (p0.tu 56), .int .i64 (p0.tu 57), .int .i64 (p0.tu 58), .int .i64 (p0.tu 59), .int .i64 (p0.tu 60), .int .i64 (p0.tu 61), .int .i64 (p0.tu 62), .int .i64 (p0.tu 63), .int .i64 p0.at_, .int .i64 p0.sp, .int .i64 p0.sa]) :
    Calls Tryz.prog 77 [.pointer (some ⟨b0, 0, none⟩)].toArray w (fun e w' => e = .returned (.int .i64 r) /\ St w (fp []) w' []) := by
  refine (((engine_Machine_Steps_g (p0 := p0)).c b0 v0_0 v0_1 v0_2).c w r ⟨h0, trivial⟩ hst hF).mono ?_
  rintro e w' ⟨i, rfl, hst'⟩
  exact ⟨rfl, hst'⟩
instance stats_known_g {p0 : Int} : HasC (za5 p0) (Ctr Tryz.prog 79 [.int .i64 p0] [] [] (za5 p0) (fun (r : Bool) (i : Unit) => (.bool r, []))) := ⟨.w (wk Tryz.func79 [.p 1, .fi, .sc [2] [] [] [(5, false)], .rt []])⟩
instance stats_Add_g {p0 : List zu} : HasC (zfr p0) (∀ (a2 : Option Addr) (c3 : Nat), Ctr Tryz.prog 116 [.slice a2 (p0).length c3] [.rd (.slice a2 (p0).length c3) vX 5 p0] [] (zfr p0) (fun (r : zu) (i : Unit) => (.agg [.int .u64 r.Runs, .int .u64 r.Missed, .int .u64 r.Steps, .int .u64 r.Calls, .int .u64 r.Sum].toArray, []))) := ⟨fun a2 c3 => .w (wk Tryz.func116 [.al 75 [.int .u64 0, .int .u64 0, .int .u64 0, .int .u64 0, .int .u64 0], .fi, .al 75 [.int .u64 0, .int .u64 0, .int .u64 0, .int .u64 0, .int .u64 0], .fi, .p 3, .fi, .dn 0, .ck [2] (fun (o107 : zu) (i : Nat × Unit) => [(3, .pointer (some ⟨i.1, 0, none⟩))]) [1, 0] (fun (o107 : zu) (i : Nat × Unit) => [jD i.1 75 [.int .u64 o107.Runs, .int .u64 o107.Missed, .int .u64 o107.Steps, .int .u64 o107.Calls, .int .u64 o107.Sum]]) [.lp 8 0 [2, 6, 7] (fun (s170 : zu) (i : Nat × Unit) => [(3, .pointer (some ⟨i.1, 0, none⟩))]) [1, 0] (fun (s170 : zu) (i : Nat × Unit) => [jD i.1 75 [.int .u64 s170.Runs, .int .u64 s170.Missed, .int .u64 s170.Steps, .int .u64 s170.Calls, .int .u64 s170.Sum]]) [0, 1], .p 1, .fi, .lc 1 [.bi 0, .ix 2 5, .lE 0 2 0 5, .al 75 [.int .u64 0, .int .u64 0, .int .u64 0, .int .u64 0, .int .u64 0], .st 2 0 5, .fi, .p 1, .ld 1 0, .p 1, .ld 2 0, .p 2, .st 1 0 1, .fi, .p 1, .ld 1 1, .p 1, .ld 2 1, .p 2, .st 1 1 1, .fi, .p 1, .ld 1 2, .p 1, .ld 2 2, .p 2, .st 1 2 1, .fi, .p 1, .ld 1 3, .p 1, .ld 2 3, .p 2, .st 1 3 1, .fi, .p 1, .ld 1 4, .p 1, .ld 2 4, .p 2, .st 1 4 1, .fi, .p 2, .fi, .bk 1 [0, 1]] [.mt [0, 1]]], .lN 1 0 5, .st 0 0 5, .fi, .rtc [] [⟨0, 0, 5⟩]])⟩
instance stats_Stats_Ran_g {p0 : zt} {p1 : Int} {p2 : Int} {p3 : Int} {p4 : Int} : HasC (vK p0 p1 p2 p3 p4) (∀ (b1 : Nat) (S0 : List Nat), Ctr Tryz.prog 76 [.pointer (some ⟨b1, 0, none⟩), .int .i64 p1, .int .u64 p2, .int .u64 p3, .int .u64 p4] [] [itI zdT [.pointer (some ⟨b1, 0, none⟩)] S0 p0] (vK p0 p1 p2 p3 p4) (fun (r : Int × zt) (i : (List Nat) × Unit) => (.int .i64 r.1, [itI zdT [.pointer (some ⟨b1, 0, none⟩)] i.1 r.2]))) := ⟨fun b1 S0 => .w (wk Tryz.func76 [.p 1, .fi, .p 1, .ca [] [] [0], .p 1, .fi, .br [.p 1, .fi, .rt [0]] [.o0 0, .pl, .q [0, 1, 2, 3, 4, 5], .be, .lv 6 (.af 0), .lm 7 (.cA (.o 0) 0 0 0 5 5 vX), .q [8, 9, 10, 11, 14, 15], .ac 12 [], .rw 2 75 vX 5 (fun cs => (zu.mk (zH cs 0) (zH cs 1) (zH cs 2) (zH cs 3) (zH cs 4))), .nx [], .ac 13 [], .ca [] [.o 1] [0, 1], .nx [], .lv 16 (.af 0), .ac 17 [], .sa 0 0 0 0 5 5 vX (fun cs => (zu.mk (zH cs 0) (zH cs 1) (zH cs 2) (zH cs 3) (zH cs 4))), .nx [], .fi, .p 1, .fi, .s0 0 zaz 20, .rt [0]]])⟩
set_option maxRecDepth 10000 in
set_option maxHeartbeats 4000000 in
theorem zfR (w : World) (v0 : Value) (S0 : List Nat) (p0 : zt) (p1 : Int) (p2 : Int) (p3 : Int) (p4 : Int) (r : Int × zt) (hF : vK p0 p1 p2 p3 p4 = some r)
    (hst : St w (fp [itI zdT [v0] S0 p0]) w [itI zdT [v0] S0 p0]) :
    Calls Tryz.prog 76 [v0, .int .i64 p1, .int .u64 p2, .int .u64 p3, .int .u64 p4].toArray w (fun e w' => ∃ (s0 : List Nat), e = .returned (.int .i64 r.1) /\ St w (fp [itI zdT [v0] S0 p0]) w' [itI zdT [v0] s0 r.2]) := by
  obtain ⟨b1, rfl⟩ := hst.fptr 0 rfl
  refine (((stats_Stats_Ran_g (p0 := p0) (p1 := p1) (p2 := p2) (p3 := p3) (p4 := p4)).c b1 S0).c w r trivial hst hF).mono ?_
  rintro e w' ⟨i, rfl, hst'⟩
  exact ⟨_, rfl, hst'⟩
instance worker_Worker_rest_g {p0 : zg} : HasC (xb p0) (∀ (b1 : Nat) (S0 : List Nat), Ctr Tryz.prog 78 [.pointer (some ⟨b1, 0, none⟩)] [] [itI qF [.pointer (some ⟨b1, 0, none⟩)] S0 p0] (xb p0) (fun (r : zg) (i : (List Nat) × Unit) => (.tuple #[], [itI qF [.pointer (some ⟨b1, 0, none⟩)] i.1 r]))) := ⟨fun b1 S0 => .w (wk Tryz.func78 [.op 0 0 [8, 2], .p 5, .st 0 2 1, .p 2, .st 0 3 8, .fi, .sh 0 [.s, .r 1, .r 2, .on] [3] zbm, .rte [1]])⟩
set_option maxRecDepth 10000 in
set_option maxHeartbeats 4000000 in
theorem zeA (w : World) (v0 : Value) (S0 : List Nat) (p0 : zg) (r : zg) (hF : xb p0 = some r)
    (hst : St w (fp [itI qF [v0] S0 p0]) w [itI qF [v0] S0 p0]) :
    Calls Tryz.prog 78 [v0].toArray w (fun e w' => ∃ (s0 : List Nat), e = .returned (.tuple #[]) /\ St w (fp [itI qF [v0] S0 p0]) w' [itI qF [v0] s0 r]) := by
  obtain ⟨b1, rfl⟩ := hst.fptr 0 rfl
  refine (((worker_Worker_rest_g (p0 := p0)).c b1 S0).c w r trivial hst hF).mono ?_
  rintro e w' ⟨i, rfl, hst'⟩
  exact ⟨_, rfl, hst'⟩
end Go.Proofs.YtbmknhpfkpmigaaGreatDoor
