/- Written by a program (wip/gen): the walks: each Go function returns what its plain function computes. -/
import Derived.Test.YthljmgepekhchaaProg
import Derived.Test.YthljmgepekhchaaF1
namespace Go.Proofs.Ythljmgepekhchaa
open Go.Sx
set_option linter.unusedVariables false

theorem el55 : Elem Try.prog 55 2 16 := Elem.of (i := Try.t55) (by kernel_rfl) (by kernel_rfl) (by kernel_rfl) (by kernel_rfl) (by kernel_rfl) (by decide) (by decide)

theorem el3 : Elem Try.prog 3 1 8 := Elem.of (i := Try.t3) (by kernel_rfl) (by kernel_rfl) (by kernel_rfl) (by kernel_rfl) (by kernel_rfl) (by decide) (by decide)

theorem el4 : Elem Try.prog 4 1 1 := Elem.of (i := Try.t4) (by kernel_rfl) (by kernel_rfl) (by kernel_rfl) (by kernel_rfl) (by kernel_rfl) (by decide) (by decide)

set_option maxRecDepth 10000 in
theorem kern_New_ok (w : World) (p0 : Int) (r : (Option kern_Kern) × Int) (hF : kern_New p0 = some r)
    (hst : St w (fp []) w []) :
    Calls Try.prog 8 [.int .i64 p0].toArray w (fun e w' => (∃ (k0 : kern_Kern) (y0 : Nat) (x0_0 : Value), r.1 = some k0 ∧ e = .returned (.tuple #[.pointer (some ⟨y0, 0, none⟩), .int .i64 r.2]) ∧ St w (fp []) w' [blkI y0 51 [x0_0, .int .i64 k0.turns], rowI x0_0 55 enc_kern_task 2 k0.tasks]) ∨ (r.1 = none ∧ e = .returned (.tuple #[.pointer none, .int .i64 r.2]) ∧ St w (fp []) w' [])) := by
  refine CW.start (N := 14) Try.func8 rfl rfl rfl ?_
  refine CW.seq ?_
  refine CW.region ?_
  refine OW.pure 2 [] (by kernel_rfl) ?_
  refine OW.nil rfl ?_
  refine QW.next ?_
  refine CW.seq ?_
  refine CW.seq ?_
  refine CW.cutK (fun a w1 => Rep 14 [(0, .int .i64 p0), (9, .bool (decide (p0 < 1) || decide (p0 > 64)))] a ∧ St w (fp []) w1 []) ?_ ?_
  · refine CW.region ?_
    refine OW.pure 3 [(6, .bool (decide (p0 < 1)))] (by kernel_rfl) ?_
    refine OW.split 6 rfl (fun hc1 => ?_) (fun hc1 => ?_)
    · refine OW.pure 3 [(9, .bool true)] (by kernel_rfl) ?_
      refine OW.nil rfl ?_
      refine QW.say 9 (v := .bool (decide (p0 < 1) || decide (p0 > 64))) rfl (by first | (rw [hc1]; done) | (rw [hc1]; rfl) | simp [hc1]) ?_
      exact QW.meet (fun a ha => ⟨ha.agrees (by kernel_rfl), hst.keep [] rfl⟩)
    · refine OW.pure 3 [(9, .bool (decide (p0 > 64)))] (by kernel_rfl) ?_
      refine OW.nil rfl ?_
      refine QW.say 9 (v := .bool (decide (p0 < 1) || decide (p0 > 64))) rfl (by first | (rw [hc1]; done) | (rw [hc1]; rfl) | simp [hc1]) ?_
      exact QW.meet (fun a ha => ⟨ha.agrees (by kernel_rfl), hst.keep [] rfl⟩)
  · rintro a w1 ⟨ha, hst⟩
    refine CW.go ?_ ha
    rcases Bool.eq_false_or_eq_true ((decide (p0 < 1) || decide (p0 > 64))) with hc2 | hc2
    · have hF := ite_t hF hc2
      refine CW.cond_t rfl hc2 ?_
      refine CW.seq ?_
      refine CW.region ?_
      refine OW.pure 2 [(2, .pointer none), (3, .int .i64 2)] (by kernel_rfl) ?_
      refine OW.nil rfl ?_
      refine QW.next ?_
      refine CW.ret ?_
      refine QW.then_ret ?_
      obtain rfl := Option.some.inj hF
      refine QW.ret2 rfl rfl rfl ?_
      exact .inr ⟨rfl, rfl, hst.keep [] rfl⟩
    · have hF := ite_f hF hc2
      refine CW.cond_f rfl hc2 ?_
      refine CW.skip ?_
      refine QW.next ?_
      refine CW.seq ?_
      refine CW.region ?_
      refine OW.pure 1 [(10, .int .i64 p0)] (by kernel_rfl) ?_
      obtain ⟨m9, hm10, hF⟩ := bind_some' hF
      refine OW.make (enc := enc_kern_task) (sz := 2) hst rfl rfl rfl rfl rfl (by kernel_rfl) el55 (kern_task.mk 0 0) (by kernel_rfl) (fun _ => rfl) hm10 ?_
      intro g11 w12 hst
      refine OW.pure 1 [(12, .agg [.slice (some ⟨g11, 0, none⟩) m9 m9, .int .i64 0].toArray)] (by kernel_rfl) ?_
      refine OW.box hst rfl rfl rfl rfl [.slice (some ⟨g11, 0, none⟩) m9 m9, .int .i64 0] rfl ?_
      intro b13 w14 hst
      refine OW.pure 2 [(2, .pointer (some ⟨b13, 0, none⟩)), (3, .int .i64 0)] (by kernel_rfl) ?_
      refine OW.nil rfl ?_
      refine QW.next ?_
      refine CW.ret ?_
      obtain rfl := Option.some.inj hF
      refine QW.ret2 rfl rfl rfl ?_
      exact .inl ⟨_, b13, (.slice (some ⟨g11, 0, none⟩) m9 m9), rfl, rfl, hst.keep [1, 0] rfl⟩

set_option maxRecDepth 10000 in
theorem kern_Kern_turn_ok (w : World) (b0 : Nat) (v0_0 : Value) (p0 : kern_Kern) (p1 : Int) (v2 : Value) (p2 : List Int) (r : Int × kern_Kern) (hF : kern_Kern_turn p0 p1 p2 = some r)
    (hst : St w (fp [blkI b0 51 [v0_0, .int .i64 p0.turns], rowI v0_0 55 enc_kern_task 2 p0.tasks]) w [blkI b0 51 [v0_0, .int .i64 p0.turns], rowI v0_0 55 enc_kern_task 2 p0.tasks]) (h2 : Rd w (fp [blkI b0 51 [v0_0, .int .i64 p0.turns], rowI v0_0 55 enc_kern_task 2 p0.tasks]) v2 (encI .i64) 1 p2) :
    Calls Try.prog 24 [.pointer (some ⟨b0, 0, none⟩), .int .i64 p1, v2].toArray w (fun e w' => ∃ (u0_0 : Value), e = .returned (.int .i64 r.1) ∧ St w (fp [blkI b0 51 [v0_0, .int .i64 p0.turns], rowI v0_0 55 enc_kern_task 2 p0.tasks]) w' [blkI b0 51 [u0_0, .int .i64 r.2.turns], rowI u0_0 55 enc_kern_task 2 r.2.tasks]) := by
  refine CW.start (N := 62) Try.func24 rfl rfl rfl ?_
  obtain ⟨l1, a2, c3, rfl⟩ := h2.len
  obtain ⟨l4, a5, c6, rfl⟩ := hst.len 1 rfl
  refine CW.seq ?_
  refine CW.region ?_
  refine OW.pure 1 [] (by kernel_rfl) ?_
  refine OW.nil rfl ?_
  refine QW.next ?_
  refine CW.seq ?_
  refine CW.seq ?_
  refine CW.region ?_
  refine OW.pure 3 [(13, .slice a2 (p2).length c3), (14, .int .i64 (((p2).length) : Int)), (15, .int .i64 0)] (by kernel_rfl) ?_
  refine OW.nil rfl ?_
  refine QW.next ?_
  obtain ⟨o58, ho59, hF⟩ := bind_some' hF
  refine CW.cutK (fun a w1 => ∃ (t60 : Unit), o58 = .inl t60 ∧ Rep 62 [(0, .pointer (some ⟨b0, 0, none⟩)), (1, .int .i64 p1), (2, .slice a2 (p2).length c3)] a ∧ St w (fp [blkI b0 51 [.slice a5 (p0.tasks).length c6, .int .i64 p0.turns], rowI (.slice a5 (p0.tasks).length c6) 55 enc_kern_task 2 p0.tasks]) w1 [blkI b0 51 [.slice a5 (p0.tasks).length c6, .int .i64 p0.turns], rowI (.slice a5 (p0.tasks).length c6) 55 enc_kern_task 2 p0.tasks]) ?_ ?_
  · refine CW.block ?_
    refine CW.loop (fun n a w1 => ∃ (i95 : Nat) (s94 : Unit), i95 + n = (p2).length ∧ Rep 62 [(0, .pointer (some ⟨b0, 0, none⟩)), (1, .int .i64 p1), (2, .slice a2 (p2).length c3), (13, .slice a2 (p2).length c3), (14, .int .i64 (((p2).length) : Int)), (15, .int .i64 (i95 : Int))] a ∧ St w (fp [blkI b0 51 [.slice a5 (p0.tasks).length c6, .int .i64 p0.turns], rowI (.slice a5 (p0.tasks).length c6) 55 enc_kern_task 2 p0.tasks]) w1 [blkI b0 51 [.slice a5 (p0.tasks).length c6, .int .i64 p0.turns], rowI (.slice a5 (p0.tasks).length c6) 55 enc_kern_task 2 p0.tasks] ∧ forN (kern_Kern_turn_l1 p0 p2) (fun (s94 : Unit) => (.inl ())) n i95 s94 = some o58) ((p2).length) (fun a ha => ⟨0, (), Nat.zero_add _, ha.agrees (by kernel_rfl), hst.keep [0, 1] rfl, ho59⟩) ?_
    rintro n92 a w1 ⟨i95, s94, hi96, ha, hst, hl93⟩
    refine CW.go ?_ ha
    refine CW.seq ?_
    refine CW.region ?_
    refine OW.pure 1 [(16, .bool (decide ((i95 : Int) < (((p2).length) : Int))))] (by kernel_rfl) ?_
    refine OW.nil rfl ?_
    refine QW.next ?_
    refine CW.seq ?_
    rcases Bool.eq_false_or_eq_true (decide ((i95 : Int) < (((p2).length) : Int))) with hc97 | hc97
    · rcases n92 with _ | n92
      · exact (cnt0 hi96 hc97).elim
      refine CW.cond_t rfl hc97 ?_
      refine CW.skip ?_
      refine QW.next ?_
      refine CW.seq ?_
      refine CW.block ?_
      refine CW.seq ?_
      refine CW.region ?_
      obtain ⟨x104, hx105, hl93⟩ := bind_some' hl93
      obtain ⟨g107, o108, c109, hv106⟩ := h2.formv (fun _ => ⟨_, rfl⟩) hx105
      refine OW.idx 3 1 rfl rfl rfl rfl hv106 rfl (idx_some hx105).1 (idx_some hx105).2.1 (by kernel_rfl) (by kernel_rfl) ?_
      refine OW.ld rfl rfl rfl rfl (by kernel_rfl) (h2.cellv hst hx105 hv106 0 _ rfl) ?_
      refine OW.pure 1 [(8, .int .i64 x104)] (by kernel_rfl) ?_
      refine OW.nil rfl ?_
      refine QW.next ?_
      refine CW.seq ?_
      refine CW.cutK (fun a w1 => Rep 62 [(0, .pointer (some ⟨b0, 0, none⟩)), (1, .int .i64 p1), (2, .slice a2 (p2).length c3), (13, .slice a2 (p2).length c3), (14, .int .i64 (((p2).length) : Int)), (15, .int .i64 (i95 : Int)), (29, .bool (decide (x104 < 0) || decide (x104 ≥ (((p0.tasks).length) : Int))))] a ∧ St w (fp [blkI b0 51 [.slice a5 (p0.tasks).length c6, .int .i64 p0.turns], rowI (.slice a5 (p0.tasks).length c6) 55 enc_kern_task 2 p0.tasks]) w1 [blkI b0 51 [.slice a5 (p0.tasks).length c6, .int .i64 p0.turns], rowI (.slice a5 (p0.tasks).length c6) 55 enc_kern_task 2 p0.tasks]) ?_ ?_
      · refine CW.region ?_
        refine OW.pure 3 [(21, .bool (decide (x104 < 0)))] (by kernel_rfl) ?_
        refine OW.split 21 rfl (fun hc110 => ?_) (fun hc110 => ?_)
        · refine OW.pure 8 [(29, .bool true)] (by kernel_rfl) ?_
          refine OW.nil rfl ?_
          refine QW.say 29 (v := .bool (decide (x104 < 0) || decide (x104 ≥ (((p0.tasks).length) : Int)))) rfl (by first | (rw [hc110]; done) | (rw [hc110]; rfl) | simp [hc110]) ?_
          exact QW.meet (fun a ha => ⟨ha.agrees (by kernel_rfl), hst.keep [0, 1] rfl⟩)
        · refine OW.pure 4 [(22, .int .i64 x104), (25, .pointer (some ⟨b0, 0, none⟩))] (by kernel_rfl) ?_
          refine OW.ld rfl rfl rfl rfl (by kernel_rfl) (hst.blk 0 rfl rfl) ?_
          refine OW.pure 3 [(29, .bool (decide (x104 ≥ (((p0.tasks).length) : Int))))] (by kernel_rfl) ?_
          refine OW.nil rfl ?_
          refine QW.say 29 (v := .bool (decide (x104 < 0) || decide (x104 ≥ (((p0.tasks).length) : Int)))) rfl (by first | (rw [hc110]; done) | (rw [hc110]; rfl) | simp [hc110]) ?_
          exact QW.meet (fun a ha => ⟨ha.agrees (by kernel_rfl), hst.keep [0, 1] rfl⟩)
      · rintro a w1 ⟨ha, hst⟩
        refine CW.go ?_ ha
        rcases Bool.eq_false_or_eq_true ((decide (x104 < 0) || decide (x104 ≥ (((p0.tasks).length) : Int)))) with hc111 | hc111
        · have hl93 := ite_t hl93 hc111
          refine CW.cond_t rfl hc111 ?_
          refine CW.seq ?_
          refine CW.region ?_
          refine OW.pure 1 [(6, .int .i64 2)] (by kernel_rfl) ?_
          refine OW.nil rfl ?_
          refine QW.next ?_
          refine CW.ret ?_
          refine QW.block_ret ?_
          refine QW.then_ret ?_
          refine QW.then_ret ?_
          refine QW.block_ret ?_
          refine QW.then_ret ?_
          obtain rfl := Option.some.inj hl93
          obtain rfl := Option.some.inj hF
          refine QW.ret1 rfl rfl ?_
          exact ⟨(.slice a5 (p0.tasks).length c6), rfl, hst.keep [0, 1] rfl⟩
        · have hl93 := ite_f hl93 hc111
          refine CW.cond_f rfl hc111 ?_
          refine CW.skip ?_
          refine QW.block_normal ?_
          refine QW.next ?_
          refine CW.region ?_
          refine OW.pure 2 [(15, .int .i64 (w64 ((i95 : Int) + 1)))] (by kernel_rfl) ?_
          refine OW.nil rfl ?_
          refine QW.say 15 rfl (congrArg (Value.int .i64) (w64_cnt hc97 l1)) ?_
          exact QW.meet (fun a ha => ⟨n92, Nat.lt_succ_self _, i95 + 1, (), cnt_next hi96, ha.agrees (by kernel_rfl), hst.keep [0, 1] rfl, hl93⟩)
    · rcases n92 with _ | n92
      · refine CW.cond_f rfl hc97 ?_
        refine CW.exit ?_
        refine QW.then_exit ?_
        refine QW.then_exit ?_
        refine QW.block_here ?_
        obtain rfl := Option.some.inj hl93
        exact QW.meet (fun a ha => ⟨(), rfl, ha.agrees (by kernel_rfl), hst.keep [0, 1] rfl⟩)
      · exact (cnt1 hi96 hc97).elim
  · rintro a w1 ⟨t60, rfl, ha, hst⟩
    refine CW.go ?_ ha
    refine CW.seq ?_
    refine CW.seq ?_
    refine CW.region ?_
    refine OW.pure 3 [(31, .slice a2 (p2).length c3), (32, .int .i64 (((p2).length) : Int)), (33, .int .i64 0)] (by kernel_rfl) ?_
    refine OW.nil rfl ?_
    refine QW.next ?_
    obtain ⟨o190, ho191, hF⟩ := bind_some' hF
    refine CW.cutK (fun a w1 => ∃ (t192 : Unit), o190 = .inl t192 ∧ Rep 62 [(0, .pointer (some ⟨b0, 0, none⟩)), (1, .int .i64 p1), (2, .slice a2 (p2).length c3)] a ∧ St w (fp [blkI b0 51 [.slice a5 (p0.tasks).length c6, .int .i64 p0.turns], rowI (.slice a5 (p0.tasks).length c6) 55 enc_kern_task 2 p0.tasks]) w1 [blkI b0 51 [.slice a5 (p0.tasks).length c6, .int .i64 p0.turns], rowI (.slice a5 (p0.tasks).length c6) 55 enc_kern_task 2 p0.tasks]) ?_ ?_
    · refine CW.block ?_
      refine CW.loop (fun n a w1 => ∃ (i245 : Nat) (s244 : Unit), i245 + n = (p2).length ∧ Rep 62 [(0, .pointer (some ⟨b0, 0, none⟩)), (1, .int .i64 p1), (2, .slice a2 (p2).length c3), (31, .slice a2 (p2).length c3), (32, .int .i64 (((p2).length) : Int)), (33, .int .i64 (i245 : Int))] a ∧ St w (fp [blkI b0 51 [.slice a5 (p0.tasks).length c6, .int .i64 p0.turns], rowI (.slice a5 (p0.tasks).length c6) 55 enc_kern_task 2 p0.tasks]) w1 [blkI b0 51 [.slice a5 (p0.tasks).length c6, .int .i64 p0.turns], rowI (.slice a5 (p0.tasks).length c6) 55 enc_kern_task 2 p0.tasks] ∧ forN (kern_Kern_turn_l2 p0 p2) (fun (s244 : Unit) => (.inl ())) n i245 s244 = some o190) ((p2).length) (fun a ha => ⟨0, (), Nat.zero_add _, ha.agrees (by kernel_rfl), hst.keep [0, 1] rfl, ho191⟩) ?_
      rintro n242 a w1 ⟨i245, s244, hi246, ha, hst, hl243⟩
      refine CW.go ?_ ha
      refine CW.seq ?_
      refine CW.region ?_
      refine OW.pure 1 [(34, .bool (decide ((i245 : Int) < (((p2).length) : Int))))] (by kernel_rfl) ?_
      refine OW.nil rfl ?_
      refine QW.next ?_
      refine CW.seq ?_
      rcases Bool.eq_false_or_eq_true (decide ((i245 : Int) < (((p2).length) : Int))) with hc247 | hc247
      · rcases n242 with _ | n242
        · exact (cnt0 hi246 hc247).elim
        refine CW.cond_t rfl hc247 ?_
        refine CW.skip ?_
        refine QW.next ?_
        refine CW.seq ?_
        refine CW.block ?_
        refine CW.seq ?_
        refine CW.region ?_
        obtain ⟨x254, hx255, hl243⟩ := bind_some' hl243
        obtain ⟨g257, o258, c259, hv256⟩ := h2.formv (fun _ => ⟨_, rfl⟩) hx255
        refine OW.idx 3 1 rfl rfl rfl rfl hv256 rfl (idx_some hx255).1 (idx_some hx255).2.1 (by kernel_rfl) (by kernel_rfl) ?_
        refine OW.ld rfl rfl rfl rfl (by kernel_rfl) (h2.cellv hst hx255 hv256 0 _ rfl) ?_
        refine OW.pure 1 [(10, .int .i64 x254)] (by kernel_rfl) ?_
        refine OW.nil rfl ?_
        refine QW.next ?_
        refine CW.seq ?_
        refine CW.region ?_
        refine OW.pure 3 [(39, .pointer (some ⟨b0, 0, none⟩))] (by kernel_rfl) ?_
        refine OW.ld rfl rfl rfl rfl (by kernel_rfl) (hst.blk 0 rfl rfl) ?_
        refine OW.pure 1 [(41, .int .i64 x254)] (by kernel_rfl) ?_
        obtain ⟨x265, hx266, hl243⟩ := bind_some' hl243
        obtain ⟨g268, c269, hv267⟩ := hst.rowv 1 rfl hx266
        refine OW.idx 55 2 rfl rfl rfl rfl hv267 rfl (idx_some hx266).1 (idx_some hx266).2.1 (by kernel_rfl) (by kernel_rfl) ?_
        refine OW.pure 1 [(43, .pointer (some ⟨g268, 0 + Int.toNat x254 * 2, none⟩))] (by kernel_rfl) ?_
        refine OW.ld rfl rfl rfl rfl (by kernel_rfl) (hst.rowc 1 rfl (fun _ => rfl) hx266 hv267 0 _ rfl) ?_
        refine OW.pure 1 [(45, .bool (x265.mode_ == 2))] (by kernel_rfl) ?_
        refine OW.nil rfl ?_
        refine QW.next ?_
        rcases Bool.eq_false_or_eq_true ((x265.mode_ == 2)) with hc270 | hc270
        · have hl243 := ite_t hl243 hc270
          refine CW.cond_t rfl hc270 ?_
          refine CW.seq ?_
          refine CW.region ?_
          refine OW.pure 1 [(6, .int .i64 43)] (by kernel_rfl) ?_
          refine OW.nil rfl ?_
          refine QW.next ?_
          refine CW.ret ?_
          refine QW.block_ret ?_
          refine QW.then_ret ?_
          refine QW.then_ret ?_
          refine QW.block_ret ?_
          refine QW.then_ret ?_
          obtain rfl := Option.some.inj hl243
          obtain rfl := Option.some.inj hF
          refine QW.ret1 rfl rfl ?_
          exact ⟨(.slice a5 (p0.tasks).length c6), rfl, hst.keep [0, 1] rfl⟩
        · have hl243 := ite_f hl243 hc270
          refine CW.cond_f rfl hc270 ?_
          refine CW.skip ?_
          refine QW.block_normal ?_
          refine QW.next ?_
          refine CW.region ?_
          refine OW.pure 2 [(33, .int .i64 (w64 ((i245 : Int) + 1)))] (by kernel_rfl) ?_
          refine OW.nil rfl ?_
          refine QW.say 33 rfl (congrArg (Value.int .i64) (w64_cnt hc247 l1)) ?_
          exact QW.meet (fun a ha => ⟨n242, Nat.lt_succ_self _, i245 + 1, (), cnt_next hi246, ha.agrees (by kernel_rfl), hst.keep [0, 1] rfl, hl243⟩)
      · rcases n242 with _ | n242
        · refine CW.cond_f rfl hc247 ?_
          refine CW.exit ?_
          refine QW.then_exit ?_
          refine QW.then_exit ?_
          refine QW.block_here ?_
          obtain rfl := Option.some.inj hl243
          exact QW.meet (fun a ha => ⟨(), rfl, ha.agrees (by kernel_rfl), hst.keep [0, 1] rfl⟩)
        · exact (cnt1 hi246 hc247).elim
    · rintro a w1 ⟨t192, rfl, ha, hst⟩
      refine CW.go ?_ ha
      refine CW.seq ?_
      refine CW.seq ?_
      refine CW.region ?_
      refine OW.pure 3 [(47, .slice a2 (p2).length c3), (48, .int .i64 (((p2).length) : Int)), (49, .int .i64 0)] (by kernel_rfl) ?_
      refine OW.nil rfl ?_
      refine QW.next ?_
      obtain ⟨o367, ho368, hF⟩ := bind_some' hF
      refine CW.cutK (fun a w1 => ∃ (v366 : Value), Rep 62 [] a ∧ St w (fp [blkI b0 51 [.slice a5 (p0.tasks).length c6, .int .i64 p0.turns], rowI (.slice a5 (p0.tasks).length c6) 55 enc_kern_task 2 p0.tasks]) w1 [blkI b0 51 [v366, .int .i64 p0.turns], rowI v366 55 enc_kern_task 2 o367]) ?_ ?_
      · refine CW.block ?_
        refine CW.loop (fun n a w1 => ∃ (i434 : Nat) (s432 : (List kern_task)) (v433 : Value), i434 + n = (p2).length ∧ Rep 62 [(0, .pointer (some ⟨b0, 0, none⟩)), (1, .int .i64 p1), (47, .slice a2 (p2).length c3), (48, .int .i64 (((p2).length) : Int)), (49, .int .i64 (i434 : Int))] a ∧ St w (fp [blkI b0 51 [.slice a5 (p0.tasks).length c6, .int .i64 p0.turns], rowI (.slice a5 (p0.tasks).length c6) 55 enc_kern_task 2 p0.tasks]) w1 [blkI b0 51 [v433, .int .i64 p0.turns], rowI v433 55 enc_kern_task 2 s432] ∧ forN (kern_Kern_turn_l3 p1 p2) (fun (s432 : (List kern_task)) => s432) n i434 s432 = some o367) ((p2).length) (fun a ha => ⟨0, p0.tasks, (.slice a5 (p0.tasks).length c6), Nat.zero_add _, ha.agrees (by kernel_rfl), hst.keep [0, 1] rfl, ho368⟩) ?_
        rintro n430 a w1 ⟨i434, s432, v433, hi435, ha, hst, hl431⟩
        refine CW.go ?_ ha
        obtain ⟨l436, a437, c438, rfl⟩ := hst.len 1 rfl
        refine CW.seq ?_
        refine CW.region ?_
        refine OW.pure 1 [(50, .bool (decide ((i434 : Int) < (((p2).length) : Int))))] (by kernel_rfl) ?_
        refine OW.nil rfl ?_
        refine QW.next ?_
        refine CW.seq ?_
        rcases Bool.eq_false_or_eq_true (decide ((i434 : Int) < (((p2).length) : Int))) with hc439 | hc439
        · rcases n430 with _ | n430
          · exact (cnt0 hi435 hc439).elim
          refine CW.cond_t rfl hc439 ?_
          refine CW.skip ?_
          refine QW.next ?_
          refine CW.seq ?_
          refine CW.block ?_
          refine CW.seq ?_
          refine CW.region ?_
          obtain ⟨x446, hx447, hl431⟩ := bind_some' hl431
          obtain ⟨g449, o450, c451, hv448⟩ := h2.formv (fun _ => ⟨_, rfl⟩) hx447
          refine OW.idx 3 1 rfl rfl rfl rfl hv448 rfl (idx_some hx447).1 (idx_some hx447).2.1 (by kernel_rfl) (by kernel_rfl) ?_
          refine OW.ld rfl rfl rfl rfl (by kernel_rfl) (h2.cellv hst hx447 hv448 0 _ rfl) ?_
          refine OW.pure 1 [(12, .int .i64 x446)] (by kernel_rfl) ?_
          refine OW.nil rfl ?_
          refine QW.next ?_
          refine CW.region ?_
          refine OW.pure 3 [(55, .pointer (some ⟨b0, 0, none⟩))] (by kernel_rfl) ?_
          refine OW.ld rfl rfl rfl rfl (by kernel_rfl) (hst.blk 0 rfl rfl) ?_
          refine OW.pure 2 [(57, .int .i64 x446), (58, .int .i64 p1)] (by kernel_rfl) ?_
          obtain ⟨x458, hx459, hl431⟩ := bind_some' hl431
          obtain ⟨g461, c462, hv460⟩ := hst.rowv 1 rfl hx459
          refine OW.idx 55 2 rfl rfl rfl rfl hv460 rfl (idx_some hx459).1 (idx_some hx459).2.1 (by kernel_rfl) (by kernel_rfl) ?_
          refine OW.pure 1 [(60, .pointer (some ⟨g461, 0 + Int.toNat x446 * 2, none⟩))] (by kernel_rfl) ?_
          refine OW.stR hst 1 rfl hv460 (fun _ => rfl) rfl rfl hx459 0 rfl rfl rfl (by kernel_rfl) rfl rfl (kern_task.mk p1 x458.picked) rfl ?_
          intro w463 hst
          refine OW.nil rfl ?_
          refine QW.block_normal ?_
          refine QW.next ?_
          refine CW.region ?_
          refine OW.pure 2 [(49, .int .i64 (w64 ((i434 : Int) + 1)))] (by kernel_rfl) ?_
          refine OW.nil rfl ?_
          refine QW.say 49 rfl (congrArg (Value.int .i64) (w64_cnt hc439 l1)) ?_
          exact QW.meet (fun a ha => ⟨n430, Nat.lt_succ_self _, i434 + 1, (s432.set (Int.toNat x446) (kern_task.mk p1 x458.picked)), (.slice a437 (s432).length c438), cnt_next hi435, ha.agrees (by kernel_rfl), hst.keep [0, 1] rfl, hl431⟩)
        · rcases n430 with _ | n430
          · refine CW.cond_f rfl hc439 ?_
            refine CW.exit ?_
            refine QW.then_exit ?_
            refine QW.then_exit ?_
            refine QW.block_here ?_
            obtain rfl := Option.some.inj hl431
            exact QW.meet (fun a ha => ⟨(.slice a437 (s432).length c438), ha.agrees (by kernel_rfl), hst.keep [0, 1] rfl⟩)
          · exact (cnt1 hi435 hc439).elim
      · rintro a w1 ⟨v366, ha, hst⟩
        refine CW.go ?_ ha
        obtain ⟨l467, a468, c469, rfl⟩ := hst.len 1 rfl
        refine CW.seq ?_
        refine CW.region ?_
        refine OW.pure 1 [(6, .int .i64 0)] (by kernel_rfl) ?_
        refine OW.nil rfl ?_
        refine QW.next ?_
        refine CW.ret ?_
        obtain rfl := Option.some.inj hF
        refine QW.ret1 rfl rfl ?_
        exact ⟨(.slice a468 (o367).length c469), rfl, hst.keep [0, 1] rfl⟩

set_option maxRecDepth 10000 in
theorem kern_Kern_Wake_ok (w : World) (b0 : Nat) (v0_0 : Value) (p0 : kern_Kern) (v1 : Value) (p1 : List Int) (r : Int × kern_Kern) (hF : kern_Kern_Wake p0 p1 = some r)
    (hst : St w (fp [blkI b0 51 [v0_0, .int .i64 p0.turns], rowI v0_0 55 enc_kern_task 2 p0.tasks]) w [blkI b0 51 [v0_0, .int .i64 p0.turns], rowI v0_0 55 enc_kern_task 2 p0.tasks]) (h1 : Rd w (fp [blkI b0 51 [v0_0, .int .i64 p0.turns], rowI v0_0 55 enc_kern_task 2 p0.tasks]) v1 (encI .i64) 1 p1) :
    Calls Try.prog 9 [.pointer (some ⟨b0, 0, none⟩), v1].toArray w (fun e w' => ∃ (u0_0 : Value), e = .returned (.int .i64 r.1) ∧ St w (fp [blkI b0 51 [v0_0, .int .i64 p0.turns], rowI v0_0 55 enc_kern_task 2 p0.tasks]) w' [blkI b0 51 [u0_0, .int .i64 r.2.turns], rowI u0_0 55 enc_kern_task 2 r.2.tasks]) := by
  refine CW.start (N := 8) Try.func9 rfl rfl rfl ?_
  obtain ⟨l1, a2, c3, rfl⟩ := h1.len
  obtain ⟨l4, a5, c6, rfl⟩ := hst.len 1 rfl
  refine CW.seq ?_
  refine CW.region ?_
  refine OW.pure 1 [] (by kernel_rfl) ?_
  refine OW.nil rfl ?_
  refine QW.next ?_
  refine CW.seq ?_
  refine CW.region ?_
  refine OW.pure 2 [(5, .pointer (some ⟨b0, 0, none⟩)), (6, .slice a2 (p1).length c3)] (by kernel_rfl) ?_
  obtain ⟨r15, hr16, hF⟩ := bind_some' hF
  refine OW.fn rfl rfl rfl rfl (by kernel_rfl) (kern_Kern_turn_ok _ b0 (.slice a5 (p0.tasks).length c6) p0 1 (.slice a2 (p1).length c3) p1 r15 hr16 (hst.part [0, 1] rfl) (h1.give hst [0, 1])) ?_
  rintro e w17 ⟨u19, rfl, hst18⟩
  refine ⟨_, rfl, ?_⟩
  have hst := hst.join (idx := [0, 1]) (rest := []) rfl hst18
  obtain ⟨l20, a21, c22, rfl⟩ := hst.len 1 rfl
  refine OW.pure 1 [(4, .int .i64 r15.1)] (by kernel_rfl) ?_
  refine OW.nil rfl ?_
  refine QW.next ?_
  refine CW.ret ?_
  obtain rfl := Option.some.inj hF
  refine QW.ret1 rfl rfl ?_
  exact ⟨(.slice a21 (r15.2.tasks).length c22), rfl, hst.keep [0, 1] rfl⟩

set_option maxRecDepth 10000 in
theorem kern_Kern_in_ok (w : World) (b0 : Nat) (v0_0 : Value) (p0 : kern_Kern) (p1 : Int) (r : (List Int)) (hF : kern_Kern_in p0 p1 = some r)
    (hst : St w (fp [blkI b0 51 [v0_0, .int .i64 p0.turns], rowI v0_0 55 enc_kern_task 2 p0.tasks]) w [blkI b0 51 [v0_0, .int .i64 p0.turns], rowI v0_0 55 enc_kern_task 2 p0.tasks]) :
    Calls Try.prog 26 [.pointer (some ⟨b0, 0, none⟩), .int .i64 p1].toArray w (fun e w' => ∃ (x0 : Value), e = .returned (x0) ∧ St w (fp [blkI b0 51 [v0_0, .int .i64 p0.turns], rowI v0_0 55 enc_kern_task 2 p0.tasks]) w' [blkI b0 51 [v0_0, .int .i64 p0.turns], rowI v0_0 55 enc_kern_task 2 p0.tasks, rowI x0 3 (encI .i64) 1 r]) := by
  refine CW.start (N := 28) Try.func26 rfl rfl rfl ?_
  obtain ⟨l1, a2, c3, rfl⟩ := hst.len 1 rfl
  refine CW.seq ?_
  refine CW.region ?_
  refine OW.pure 1 [] (by kernel_rfl) ?_
  refine OW.nil rfl ?_
  refine QW.next ?_
  refine CW.seq ?_
  refine CW.region ?_
  refine OW.pure 1 [(5, .slice none 0 0)] (by kernel_rfl) ?_
  refine OW.nil rfl ?_
  refine QW.next ?_
  refine CW.seq ?_
  refine CW.seq ?_
  refine CW.region ?_
  refine OW.pure 3 [(10, .pointer (some ⟨b0, 0, none⟩))] (by kernel_rfl) ?_
  refine OW.ld rfl rfl rfl rfl (by kernel_rfl) (hst.blk 0 rfl rfl) ?_
  refine OW.pure 2 [(12, .int .i64 (((p0.tasks).length) : Int)), (13, .int .i64 0)] (by kernel_rfl) ?_
  refine OW.nil rfl ?_
  refine QW.next ?_
  obtain ⟨o133, ho134, hF⟩ := bind_some' hF
  refine CW.cutK (fun a w1 => ∃ (v132 : Value), Rep 28 [(5, v132)] a ∧ St w (fp [blkI b0 51 [.slice a2 (p0.tasks).length c3, .int .i64 p0.turns], rowI (.slice a2 (p0.tasks).length c3) 55 enc_kern_task 2 p0.tasks]) w1 [rowI v132 3 (encI .i64) 1 o133, blkI b0 51 [.slice a2 (p0.tasks).length c3, .int .i64 p0.turns], rowI (.slice a2 (p0.tasks).length c3) 55 enc_kern_task 2 p0.tasks]) ?_ ?_
  · refine CW.block ?_
    have hst := hst.nilRow Int 3 (encI .i64) 1
    refine CW.loop (fun n a w1 => ∃ (i221 : Nat) (s219 : (List Int)) (v220 : Value), i221 + n = (p0.tasks).length ∧ Rep 28 [(1, .int .i64 p1), (5, v220), (11, .slice a2 (p0.tasks).length c3), (12, .int .i64 (((p0.tasks).length) : Int)), (13, .int .i64 (i221 : Int))] a ∧ St w (fp [blkI b0 51 [.slice a2 (p0.tasks).length c3, .int .i64 p0.turns], rowI (.slice a2 (p0.tasks).length c3) 55 enc_kern_task 2 p0.tasks]) w1 [rowI v220 3 (encI .i64) 1 s219, rowI (.slice a2 (p0.tasks).length c3) 55 enc_kern_task 2 p0.tasks, blkI b0 51 [.slice a2 (p0.tasks).length c3, .int .i64 p0.turns]] ∧ forN (kern_Kern_in_l1 p0 p1) (fun (s219 : (List Int)) => s219) n i221 s219 = some o133) ((p0.tasks).length) (fun a ha => ⟨0, ([] : List Int), (.slice none 0 0), Nat.zero_add _, ha.agrees (by kernel_rfl), hst.keep [2, 1, 0] rfl, ho134⟩) ?_
    rintro n217 a w1 ⟨i221, s219, v220, hi222, ha, hst, hl218⟩
    refine CW.go ?_ ha
    obtain ⟨l223, a224, c225, rfl⟩ := hst.len 0 rfl
    refine CW.seq ?_
    refine CW.region ?_
    refine OW.pure 1 [(14, .bool (decide ((i221 : Int) < (((p0.tasks).length) : Int))))] (by kernel_rfl) ?_
    refine OW.nil rfl ?_
    refine QW.next ?_
    refine CW.seq ?_
    rcases Bool.eq_false_or_eq_true (decide ((i221 : Int) < (((p0.tasks).length) : Int))) with hc226 | hc226
    · rcases n217 with _ | n217
      · exact (cnt0 hi222 hc226).elim
      refine CW.cond_t rfl hc226 ?_
      refine CW.skip ?_
      refine QW.next ?_
      refine CW.seq ?_
      refine CW.block ?_
      refine CW.seq ?_
      refine CW.region ?_
      refine OW.pure 1 [(15, .int .i64 (i221 : Int))] (by kernel_rfl) ?_
      obtain ⟨x235, hx236, hl218⟩ := bind_some' hl218
      obtain ⟨g238, c239, hv237⟩ := hst.rowv 1 rfl hx236
      refine OW.idx 55 2 rfl rfl rfl rfl hv237 rfl (idx_some hx236).1 (idx_some hx236).2.1 (by kernel_rfl) (by kernel_rfl) ?_
      refine OW.ldN (cs := enc_kern_task x235) rfl rfl rfl rfl (by kernel_rfl) (by kernel_rfl) (hst.rowc 1 rfl (fun _ => rfl) hx236 hv237) ?_
      refine OW.alloc hst rfl rfl rfl [.int .i64 0, .int .i64 0] (by kernel_rfl) ?_
      intro b240 w241 hst
      refine OW.pure 1 [(6, .int .i64 (i221 : Int))] (by kernel_rfl) ?_
      refine OW.stB hst 3 rfl rfl rfl rfl rfl (by kernel_rfl) rfl rfl [.int .i64 x235.mode_, .int .i64 x235.picked] rfl ?_
      intro w242 hst
      refine OW.nil rfl ?_
      refine QW.next ?_
      refine CW.seq ?_
      refine CW.region ?_
      refine OW.pure 1 [(18, .pointer (some ⟨b240, 0, none⟩))] (by kernel_rfl) ?_
      refine OW.ld rfl rfl rfl rfl (by kernel_rfl) (hst.blk 3 rfl rfl) ?_
      refine OW.pure 2 [(21, .bool (x235.mode_ == p1))] (by kernel_rfl) ?_
      refine OW.nil rfl ?_
      refine QW.next ?_
      rcases Bool.eq_false_or_eq_true ((x235.mode_ == p1)) with hc243 | hc243
      · have hl218 := ite_t hl218 hc243
        refine CW.cond_t rfl hc243 ?_
        refine CW.region ?_
        refine OW.pure 2 [(22, .slice a224 (s219).length c225), (23, .int .i64 (i221 : Int))] (by kernel_rfl) ?_
        refine OW.row (α := Int) (e := 3) (enc := encI .i64) (sz := 1) hst rfl rfl rfl [(i221 : Int)] rfl (fun _ => rfl) rfl rfl (fun _ => by kernel_rfl) ?_
        intro g253 w254 hst
        obtain ⟨u255, hr256, hl218⟩ := bind_some' hl218
        refine OW.app hst 0 rfl (fun _ => rfl) (fun _ => rfl) rfl rfl rfl rfl rfl rfl (by kernel_rfl) el3 (hst.rd 4 rfl (fun _ => rfl) [] rfl (hst.len 4 rfl).1) (room_le hr256) ?_
        intro v257 w258 hst
        obtain ⟨l259, a260, c261, rfl⟩ := hst.len 0 rfl
        refine OW.pure 1 [(5, .slice a260 ((s219 ++ [(i221 : Int)])).length c261)] (by kernel_rfl) ?_
        refine OW.nil rfl ?_
        refine QW.block_normal ?_
        refine QW.next ?_
        refine CW.region ?_
        refine OW.pure 2 [(13, .int .i64 (w64 ((i221 : Int) + 1)))] (by kernel_rfl) ?_
        refine OW.nil rfl ?_
        refine QW.say 13 rfl (congrArg (Value.int .i64) (w64_cnt hc226 l1)) ?_
        exact QW.meet (fun a ha => ⟨n217, Nat.lt_succ_self _, i221 + 1, (s219 ++ [(i221 : Int)]), (.slice a260 ((s219 ++ [(i221 : Int)])).length c261), cnt_next hi222, ha.agrees (by kernel_rfl), hst.keep [0, 1, 2] rfl, hl218⟩)
      · have hl218 := ite_f hl218 hc243
        refine CW.cond_f rfl hc243 ?_
        refine CW.skip ?_
        refine QW.block_normal ?_
        refine QW.next ?_
        refine CW.region ?_
        refine OW.pure 2 [(13, .int .i64 (w64 ((i221 : Int) + 1)))] (by kernel_rfl) ?_
        refine OW.nil rfl ?_
        refine QW.say 13 rfl (congrArg (Value.int .i64) (w64_cnt hc226 l1)) ?_
        exact QW.meet (fun a ha => ⟨n217, Nat.lt_succ_self _, i221 + 1, s219, (.slice a224 (s219).length c225), cnt_next hi222, ha.agrees (by kernel_rfl), hst.keep [0, 1, 2] rfl, hl218⟩)
    · rcases n217 with _ | n217
      · refine CW.cond_f rfl hc226 ?_
        refine CW.exit ?_
        refine QW.then_exit ?_
        refine QW.then_exit ?_
        refine QW.block_here ?_
        obtain rfl := Option.some.inj hl218
        exact QW.meet (fun a ha => ⟨(.slice a224 (s219).length c225), ha.agrees (by kernel_rfl), hst.keep [0, 2, 1] rfl⟩)
      · exact (cnt1 hi222 hc226).elim
  · rintro a w1 ⟨v132, ha, hst⟩
    refine CW.go ?_ ha
    obtain ⟨l265, a266, c267, rfl⟩ := hst.len 0 rfl
    refine CW.seq ?_
    refine CW.region ?_
    refine OW.pure 2 [(4, .slice a266 (o133).length c267)] (by kernel_rfl) ?_
    refine OW.nil rfl ?_
    refine QW.next ?_
    refine CW.ret ?_
    obtain rfl := Option.some.inj hF
    refine QW.ret1 rfl rfl ?_
    exact ⟨(.slice a266 (o133).length c267), rfl, hst.keep [1, 2, 0] rfl⟩

set_option maxRecDepth 10000 in
theorem kern_Kern_Ready_ok (w : World) (b0 : Nat) (v0_0 : Value) (p0 : kern_Kern) (r : (List Int)) (hF : kern_Kern_Ready p0 = some r)
    (hst : St w (fp [blkI b0 51 [v0_0, .int .i64 p0.turns], rowI v0_0 55 enc_kern_task 2 p0.tasks]) w [blkI b0 51 [v0_0, .int .i64 p0.turns], rowI v0_0 55 enc_kern_task 2 p0.tasks]) :
    Calls Try.prog 15 [.pointer (some ⟨b0, 0, none⟩)].toArray w (fun e w' => ∃ (x0 : Value), e = .returned (x0) ∧ St w (fp [blkI b0 51 [v0_0, .int .i64 p0.turns], rowI v0_0 55 enc_kern_task 2 p0.tasks]) w' [blkI b0 51 [v0_0, .int .i64 p0.turns], rowI v0_0 55 enc_kern_task 2 p0.tasks, rowI x0 3 (encI .i64) 1 r]) := by
  refine CW.start (N := 5) Try.func15 rfl rfl rfl ?_
  obtain ⟨l1, a2, c3, rfl⟩ := hst.len 1 rfl
  refine CW.seq ?_
  refine CW.region ?_
  refine OW.pure 1 [] (by kernel_rfl) ?_
  refine OW.nil rfl ?_
  refine QW.next ?_
  refine CW.seq ?_
  refine CW.region ?_
  refine OW.pure 1 [(3, .pointer (some ⟨b0, 0, none⟩))] (by kernel_rfl) ?_
  obtain ⟨r12, hr13, hF⟩ := bind_some' hF
  refine OW.fn rfl rfl rfl rfl (by kernel_rfl) (kern_Kern_in_ok _ b0 (.slice a2 (p0.tasks).length c3) p0 1 r12 hr13 (hst.part [0, 1] rfl)) ?_
  rintro e w14 ⟨v16, rfl, hst15⟩
  refine ⟨_, rfl, ?_⟩
  have hst := hst.join (idx := [0, 1]) (rest := []) rfl hst15
  obtain ⟨l17, a18, c19, rfl⟩ := hst.len 2 rfl
  refine OW.pure 1 [(2, .slice a18 (r12).length c19)] (by kernel_rfl) ?_
  refine OW.nil rfl ?_
  refine QW.next ?_
  refine CW.ret ?_
  obtain rfl := Option.some.inj hF
  refine QW.ret1 rfl rfl ?_
  exact ⟨(.slice a18 (r12).length c19), rfl, hst.keep [0, 1, 2] rfl⟩

set_option maxRecDepth 10000 in
theorem kern_Kern_take_ok (w : World) (b0 : Nat) (v0_0 : Value) (p0 : kern_Kern) (p1 : Int) (r : Int × Bool × kern_Kern) (hF : kern_Kern_take p0 p1 = some r)
    (hst : St w (fp [blkI b0 51 [v0_0, .int .i64 p0.turns], rowI v0_0 55 enc_kern_task 2 p0.tasks]) w [blkI b0 51 [v0_0, .int .i64 p0.turns], rowI v0_0 55 enc_kern_task 2 p0.tasks]) :
    Calls Try.prog 25 [.pointer (some ⟨b0, 0, none⟩), .int .i64 p1].toArray w (fun e w' => ∃ (u0_0 : Value), e = .returned (.tuple #[.int .i64 r.1, .bool r.2.1]) ∧ St w (fp [blkI b0 51 [v0_0, .int .i64 p0.turns], rowI v0_0 55 enc_kern_task 2 p0.tasks]) w' [blkI b0 51 [u0_0, .int .i64 r.2.2.turns], rowI u0_0 55 enc_kern_task 2 r.2.2.tasks]) := by
  refine CW.start (N := 25) Try.func25 rfl rfl rfl ?_
  obtain ⟨l1, a2, c3, rfl⟩ := hst.len 1 rfl
  refine CW.seq ?_
  refine CW.region ?_
  refine OW.pure 2 [] (by kernel_rfl) ?_
  refine OW.nil rfl ?_
  refine QW.next ?_
  refine CW.seq ?_
  refine CW.region ?_
  refine OW.pure 3 [(6, .pointer (some ⟨b0, 0, none⟩)), (8, .pointer (some ⟨b0, 1, none⟩))] (by kernel_rfl) ?_
  refine OW.ld rfl rfl rfl rfl (by kernel_rfl) (hst.blk 0 rfl rfl) ?_
  refine OW.pure 3 [(10, .int .i64 (w64 (p0.turns + 1))), (12, .pointer (some ⟨b0, 1, none⟩))] (by kernel_rfl) ?_
  refine OW.stB hst 0 rfl rfl rfl rfl rfl (by kernel_rfl) rfl rfl [.slice a2 (p0.tasks).length c3, .int .i64 (w64 (p0.turns + 1))] rfl ?_
  intro w5 hst
  refine OW.nil rfl ?_
  refine QW.next ?_
  refine CW.seq ?_
  refine CW.tail 11 (by kernel_rfl) (by kernel_rfl) ?_
  intro w14 hch15
  have hst := hst.same hch15
  refine OS.pure 3 [(15, .pointer (some ⟨b0, 0, none⟩))] rfl (by kernel_rfl) ?_
  refine OS.ld rfl rfl rfl rfl rfl (by kernel_rfl) (hst.blk 0 rfl rfl) ?_
  refine OS.pure 4 [(17, .int .i64 p1), (20, .pointer (some ⟨b0, 1, none⟩))] rfl (by kernel_rfl) ?_
  refine OS.ld rfl rfl rfl rfl rfl (by kernel_rfl) (hst.blk 0 rfl rfl) ?_
  obtain ⟨x16, hx17, hF⟩ := bind_some' hF
  obtain ⟨g19, c20, hv18⟩ := hst.rowv 1 rfl hx17
  refine OS.idx 55 2 rfl rfl rfl rfl rfl hv18 rfl (idx_some hx17).1 (idx_some hx17).2.1 (by kernel_rfl) (by kernel_rfl) ?_
  refine OS.pure 1 [(23, .pointer (some ⟨g19, 0 + Int.toNat p1 * 2 + 1, none⟩))] rfl (by kernel_rfl) ?_
  refine OS.on ?_
  refine OW.stR hst 1 rfl hv18 (fun _ => rfl) rfl rfl hx17 1 rfl rfl rfl (by kernel_rfl) rfl rfl (kern_task.mk x16.mode_ (w64 (p0.turns + 1))) rfl ?_
  intro w21 hst
  refine OW.nil rfl ?_
  refine QW.next ?_
  refine CW.seq ?_
  refine CW.region ?_
  refine OW.pure 3 [(4, .int .i64 p1), (5, .bool true)] (by kernel_rfl) ?_
  refine OW.nil rfl ?_
  refine QW.next ?_
  refine CW.ret ?_
  obtain rfl := Option.some.inj hF
  refine QW.ret2 rfl rfl rfl ?_
  exact ⟨(.slice a2 (p0.tasks).length c3), rfl, hst.keep [0, 1] rfl⟩

set_option maxRecDepth 10000 in
theorem kern_Kern_Pick_ok (w : World) (b0 : Nat) (v0_0 : Value) (p0 : kern_Kern) (p1 : Int) (r : Int × Bool × kern_Kern) (hF : kern_Kern_Pick p0 p1 = some r)
    (hst : St w (fp [blkI b0 51 [v0_0, .int .i64 p0.turns], rowI v0_0 55 enc_kern_task 2 p0.tasks]) w [blkI b0 51 [v0_0, .int .i64 p0.turns], rowI v0_0 55 enc_kern_task 2 p0.tasks]) :
    Calls Try.prog 12 [.pointer (some ⟨b0, 0, none⟩), .int .i64 p1].toArray w (fun e w' => ∃ (u0_0 : Value), e = .returned (.tuple #[.int .i64 r.1, .bool r.2.1]) ∧ St w (fp [blkI b0 51 [v0_0, .int .i64 p0.turns], rowI v0_0 55 enc_kern_task 2 p0.tasks]) w' [blkI b0 51 [u0_0, .int .i64 r.2.2.turns], rowI u0_0 55 enc_kern_task 2 r.2.2.tasks]) := by
  refine CW.start (N := 31) Try.func12 rfl rfl rfl ?_
  obtain ⟨l1, a2, c3, rfl⟩ := hst.len 1 rfl
  refine CW.seq ?_
  refine CW.region ?_
  refine OW.pure 2 [] (by kernel_rfl) ?_
  refine OW.nil rfl ?_
  refine QW.next ?_
  refine CW.seq ?_
  refine CW.region ?_
  refine OW.pure 1 [(8, .pointer (some ⟨b0, 0, none⟩))] (by kernel_rfl) ?_
  obtain ⟨r12, hr13, hF⟩ := bind_some' hF
  refine OW.fn rfl rfl rfl rfl (by kernel_rfl) (kern_Kern_Ready_ok _ b0 (.slice a2 (p0.tasks).length c3) p0 r12 hr13 (hst.part [0, 1] rfl)) ?_
  rintro e w14 ⟨v16, rfl, hst15⟩
  refine ⟨_, rfl, ?_⟩
  have hst := hst.join (idx := [0, 1]) (rest := []) rfl hst15
  obtain ⟨l17, a18, c19, rfl⟩ := hst.len 2 rfl
  refine OW.pure 1 [(6, .slice a18 (r12).length c19)] (by kernel_rfl) ?_
  refine OW.nil rfl ?_
  refine QW.next ?_
  refine CW.seq ?_
  refine CW.seq ?_
  refine CW.region ?_
  refine OW.pure 3 [(12, .bool ((((r12).length) : Int) == 0))] (by kernel_rfl) ?_
  refine OW.nil rfl ?_
  refine QW.next ?_
  rcases Bool.eq_false_or_eq_true (((((r12).length) : Int) == 0)) with hc20 | hc20
  · have hF := ite_t hF hc20
    refine CW.cond_t rfl hc20 ?_
    refine CW.seq ?_
    refine CW.region ?_
    refine OW.pure 2 [(4, .int .i64 0), (5, .bool false)] (by kernel_rfl) ?_
    refine OW.nil rfl ?_
    refine QW.next ?_
    refine CW.ret ?_
    refine QW.then_ret ?_
    obtain rfl := Option.some.inj hF
    refine QW.ret2 rfl rfl rfl ?_
    exact ⟨(.slice a2 (p0.tasks).length c3), rfl, hst.keep [0, 1] rfl⟩
  · have hF := ite_f hF hc20
    refine CW.cond_f rfl hc20 ?_
    refine CW.skip ?_
    refine QW.next ?_
    refine CW.seq ?_
    refine CW.region ?_
    refine OW.pure 3 [(13, .int .i64 p1), (15, .int .i64 (((r12).length) : Int))] (by kernel_rfl) ?_
    obtain ⟨u23, hz24, hF⟩ := bind_some' hF
    refine OW.rem rfl rfl rfl rfl rfl (nz_ne hz24) ?_
    refine OW.pure 1 [(7, .int .i64 (p1.tmod (((r12).length) : Int)))] (by kernel_rfl) ?_
    refine OW.nil rfl ?_
    refine QW.next ?_
    refine CW.seq ?_
    refine CW.seq ?_
    refine CW.region ?_
    refine OW.pure 2 [(18, .bool (decide ((p1.tmod (((r12).length) : Int)) < 0)))] (by kernel_rfl) ?_
    refine OW.nil rfl ?_
    refine QW.next ?_
    obtain ⟨o26, ho27, hF⟩ := bind_some' hF
    refine CW.cutK (fun a w1 => Rep 31 [(0, .pointer (some ⟨b0, 0, none⟩)), (6, .slice a18 (r12).length c19), (7, .int .i64 o26)] a ∧ St w (fp [blkI b0 51 [.slice a2 (p0.tasks).length c3, .int .i64 p0.turns], rowI (.slice a2 (p0.tasks).length c3) 55 enc_kern_task 2 p0.tasks]) w1 [blkI b0 51 [.slice a2 (p0.tasks).length c3, .int .i64 p0.turns], rowI (.slice a2 (p0.tasks).length c3) 55 enc_kern_task 2 p0.tasks, rowI (.slice a18 (r12).length c19) 3 (encI .i64) 1 r12]) ?_ ?_
    · rcases Bool.eq_false_or_eq_true (decide ((p1.tmod (((r12).length) : Int)) < 0)) with hc28 | hc28
      · have ho27 := ite_t ho27 hc28
        refine CW.cond_t rfl hc28 ?_
        refine CW.region ?_
        refine OW.pure 5 [(7, .int .i64 (w64 ((p1.tmod (((r12).length) : Int)) + (((r12).length) : Int))))] (by kernel_rfl) ?_
        refine OW.nil rfl ?_
        obtain rfl := Option.some.inj ho27
        exact QW.meet (fun a ha => ⟨ha.agrees (by kernel_rfl), hst.keep [0, 1, 2] rfl⟩)
      · have ho27 := ite_f ho27 hc28
        refine CW.cond_f rfl hc28 ?_
        refine CW.skip ?_
        obtain rfl := Option.some.inj ho27
        exact QW.meet (fun a ha => ⟨ha.agrees (by kernel_rfl), hst.keep [0, 1, 2] rfl⟩)
    · rintro a w1 ⟨ha, hst⟩
      refine CW.go ?_ ha
      refine CW.seq ?_
      refine CW.region ?_
      refine OW.pure 3 [(23, .pointer (some ⟨b0, 0, none⟩)), (24, .slice a18 (r12).length c19), (25, .int .i64 o26)] (by kernel_rfl) ?_
      obtain ⟨x42, hx43, hF⟩ := bind_some' hF
      obtain ⟨g45, c46, hv44⟩ := hst.rowv 2 rfl hx43
      refine OW.idx 3 1 rfl rfl rfl rfl hv44 rfl (idx_some hx43).1 (idx_some hx43).2.1 (by kernel_rfl) (by kernel_rfl) ?_
      refine OW.ld rfl rfl rfl rfl (by kernel_rfl) (hst.rowc 2 rfl (fun _ => rfl) hx43 hv44 0 _ rfl) ?_
      obtain ⟨r47, hr48, hF⟩ := bind_some' hF
      refine OW.fn rfl rfl rfl rfl (by kernel_rfl) (kern_Kern_take_ok _ b0 (.slice a2 (p0.tasks).length c3) p0 x42 r47 hr48 (hst.part [0, 1] rfl)) ?_
      rintro e w49 ⟨u51, rfl, hst50⟩
      refine ⟨_, rfl, ?_⟩
      have hst := hst.join (idx := [0, 1]) (rest := [2]) rfl hst50
      obtain ⟨l52, a53, c54, rfl⟩ := hst.len 1 rfl
      refine OW.pure 4 [(4, .int .i64 r47.1), (5, .bool r47.2.1)] (by kernel_rfl) ?_
      refine OW.nil rfl ?_
      refine QW.next ?_
      refine CW.ret ?_
      obtain rfl := Option.some.inj hF
      refine QW.ret2 rfl rfl rfl ?_
      exact ⟨(.slice a53 (r47.2.2.tasks).length c54), rfl, hst.keep [0, 1] rfl⟩

set_option maxRecDepth 10000 in
theorem kern_Kern_Fair_ok (w : World) (b0 : Nat) (v0_0 : Value) (p0 : kern_Kern) (r : Int × Bool × kern_Kern) (hF : kern_Kern_Fair p0 = some r)
    (hst : St w (fp [blkI b0 51 [v0_0, .int .i64 p0.turns], rowI v0_0 55 enc_kern_task 2 p0.tasks]) w [blkI b0 51 [v0_0, .int .i64 p0.turns], rowI v0_0 55 enc_kern_task 2 p0.tasks]) :
    Calls Try.prog 13 [.pointer (some ⟨b0, 0, none⟩)].toArray w (fun e w' => ∃ (u0_0 : Value), e = .returned (.tuple #[.int .i64 r.1, .bool r.2.1]) ∧ St w (fp [blkI b0 51 [v0_0, .int .i64 p0.turns], rowI v0_0 55 enc_kern_task 2 p0.tasks]) w' [blkI b0 51 [u0_0, .int .i64 r.2.2.turns], rowI u0_0 55 enc_kern_task 2 r.2.2.tasks]) := by
  refine CW.start (N := 45) Try.func13 rfl rfl rfl ?_
  obtain ⟨l1, a2, c3, rfl⟩ := hst.len 1 rfl
  refine CW.seq ?_
  refine CW.region ?_
  refine OW.pure 2 [] (by kernel_rfl) ?_
  refine OW.nil rfl ?_
  refine QW.next ?_
  refine CW.seq ?_
  refine CW.region ?_
  refine OW.pure 2 [(4, .int .i64 0), (5, .bool false)] (by kernel_rfl) ?_
  refine OW.nil rfl ?_
  refine QW.next ?_
  refine CW.seq ?_
  refine CW.seq ?_
  refine CW.region ?_
  refine OW.pure 1 [(8, .pointer (some ⟨b0, 0, none⟩))] (by kernel_rfl) ?_
  obtain ⟨r12, hr13, hF⟩ := bind_some' hF
  refine OW.fn rfl rfl rfl rfl (by kernel_rfl) (kern_Kern_Ready_ok _ b0 (.slice a2 (p0.tasks).length c3) p0 r12 hr13 (hst.part [0, 1] rfl)) ?_
  rintro e w14 ⟨v16, rfl, hst15⟩
  refine ⟨_, rfl, ?_⟩
  have hst := hst.join (idx := [0, 1]) (rest := []) rfl hst15
  obtain ⟨l17, a18, c19, rfl⟩ := hst.len 2 rfl
  refine OW.pure 2 [(10, .int .i64 (((r12).length) : Int)), (11, .int .i64 0)] (by kernel_rfl) ?_
  refine OW.nil rfl ?_
  refine QW.next ?_
  obtain ⟨o125, ho126, hF⟩ := bind_some' hF
  refine CW.cutK (fun a w1 => Rep 45 [(0, .pointer (some ⟨b0, 0, none⟩)), (4, .int .i64 o125.1), (5, .bool o125.2)] a ∧ St w (fp [blkI b0 51 [.slice a2 (p0.tasks).length c3, .int .i64 p0.turns], rowI (.slice a2 (p0.tasks).length c3) 55 enc_kern_task 2 p0.tasks]) w1 [blkI b0 51 [.slice a2 (p0.tasks).length c3, .int .i64 p0.turns], rowI (.slice a2 (p0.tasks).length c3) 55 enc_kern_task 2 p0.tasks]) ?_ ?_
  · refine CW.block ?_
    refine CW.loop (fun n a w1 => ∃ (i188 : Nat) (s187 : Int × Bool), i188 + n = (r12).length ∧ Rep 45 [(0, .pointer (some ⟨b0, 0, none⟩)), (4, .int .i64 s187.1), (5, .bool s187.2), (9, .slice a18 (r12).length c19), (10, .int .i64 (((r12).length) : Int)), (11, .int .i64 (i188 : Int))] a ∧ St w (fp [blkI b0 51 [.slice a2 (p0.tasks).length c3, .int .i64 p0.turns], rowI (.slice a2 (p0.tasks).length c3) 55 enc_kern_task 2 p0.tasks]) w1 [blkI b0 51 [.slice a2 (p0.tasks).length c3, .int .i64 p0.turns], rowI (.slice a2 (p0.tasks).length c3) 55 enc_kern_task 2 p0.tasks, rowI (.slice a18 (r12).length c19) 3 (encI .i64) 1 r12] ∧ forN (kern_Kern_Fair_l1 p0 r12) (fun (s187 : Int × Bool) => (s187.1, s187.2)) n i188 s187 = some o125) ((r12).length) (fun a ha => ⟨0, (0, false), Nat.zero_add _, ha.agrees (by kernel_rfl), hst.keep [0, 1, 2] rfl, ho126⟩) ?_
    rintro n185 a w1 ⟨i188, s187, hi189, ha, hst, hl186⟩
    refine CW.go ?_ ha
    refine CW.seq ?_
    refine CW.region ?_
    refine OW.pure 1 [(12, .bool (decide ((i188 : Int) < (((r12).length) : Int))))] (by kernel_rfl) ?_
    refine OW.nil rfl ?_
    refine QW.next ?_
    refine CW.seq ?_
    rcases Bool.eq_false_or_eq_true (decide ((i188 : Int) < (((r12).length) : Int))) with hc190 | hc190
    · rcases n185 with _ | n185
      · exact (cnt0 hi189 hc190).elim
      refine CW.cond_t rfl hc190 ?_
      refine CW.skip ?_
      refine QW.next ?_
      refine CW.seq ?_
      refine CW.block ?_
      refine CW.seq ?_
      refine CW.region ?_
      obtain ⟨x196, hx197, hl186⟩ := bind_some' hl186
      obtain ⟨g199, c200, hv198⟩ := hst.rowv 2 rfl hx197
      refine OW.idx 3 1 rfl rfl rfl rfl hv198 rfl (idx_some hx197).1 (idx_some hx197).2.1 (by kernel_rfl) (by kernel_rfl) ?_
      refine OW.ld rfl rfl rfl rfl (by kernel_rfl) (hst.rowc 2 rfl (fun _ => rfl) hx197 hv198 0 _ rfl) ?_
      refine OW.pure 1 [(7, .int .i64 x196)] (by kernel_rfl) ?_
      refine OW.nil rfl ?_
      refine QW.next ?_
      refine CW.seq ?_
      obtain ⟨o216, ho217, hl186⟩ := bind_some' hl186
      refine CW.cutK (fun a w1 => Rep 45 [(0, .pointer (some ⟨b0, 0, none⟩)), (4, .int .i64 s187.1), (5, .bool s187.2), (7, .int .i64 x196), (9, .slice a18 (r12).length c19), (10, .int .i64 (((r12).length) : Int)), (11, .int .i64 (i188 : Int)), (35, .bool o216)] a ∧ St w (fp [blkI b0 51 [.slice a2 (p0.tasks).length c3, .int .i64 p0.turns], rowI (.slice a2 (p0.tasks).length c3) 55 enc_kern_task 2 p0.tasks]) w1 [blkI b0 51 [.slice a2 (p0.tasks).length c3, .int .i64 p0.turns], rowI (.slice a2 (p0.tasks).length c3) 55 enc_kern_task 2 p0.tasks, rowI (.slice a18 (r12).length c19) 3 (encI .i64) 1 r12]) ?_ ?_
      · refine CW.still (by kernel_rfl) (by kernel_rfl) ?_
        intro w218 hch219
        have hst := hst.same hch219
        refine OS.pure 3 [(17, .bool (!s187.2))] rfl (by kernel_rfl) ?_
        refine OS.split 17 rfl (fun hc220 => ?_) (fun hc220 => ?_)
        · have ho217 := ite_t ho217 hc220
          refine OS.pure 18 [(35, .bool true)] rfl (by kernel_rfl) ?_
          refine OS.fin rfl ?_
          obtain rfl := Option.some.inj ho217
          exact QW.meet (fun a ha => ⟨ha.agrees (by kernel_rfl), hst.keep [0, 1, 2] rfl⟩)
        · have ho217 := ite_f ho217 hc220
          refine OS.pure 3 [(20, .pointer (some ⟨b0, 0, none⟩))] rfl (by kernel_rfl) ?_
          refine OS.ld rfl rfl rfl rfl rfl (by kernel_rfl) (hst.blk 0 rfl rfl) ?_
          refine OS.pure 1 [(22, .int .i64 x196)] rfl (by kernel_rfl) ?_
          obtain ⟨x221, hx222, ho217⟩ := bind_some' ho217
          obtain ⟨g224, c225, hv223⟩ := hst.rowv 1 rfl hx222
          refine OS.idx 55 2 rfl rfl rfl rfl rfl hv223 rfl (idx_some hx222).1 (idx_some hx222).2.1 (by kernel_rfl) (by kernel_rfl) ?_
          refine OS.pure 1 [(24, .pointer (some ⟨g224, 0 + Int.toNat x196 * 2 + 1, none⟩))] rfl (by kernel_rfl) ?_
          refine OS.ld rfl rfl rfl rfl rfl (by kernel_rfl) (hst.rowc 1 rfl (fun _ => rfl) hx222 hv223 1 _ rfl) ?_
          refine OS.pure 3 [(28, .pointer (some ⟨b0, 0, none⟩))] rfl (by kernel_rfl) ?_
          refine OS.ld rfl rfl rfl rfl rfl (by kernel_rfl) (hst.blk 0 rfl rfl) ?_
          refine OS.pure 1 [(30, .int .i64 s187.1)] rfl (by kernel_rfl) ?_
          obtain ⟨x226, hx227, ho217⟩ := bind_some' ho217
          obtain ⟨g229, c230, hv228⟩ := hst.rowv 1 rfl hx227
          refine OS.idx 55 2 rfl rfl rfl rfl rfl hv228 rfl (idx_some hx227).1 (idx_some hx227).2.1 (by kernel_rfl) (by kernel_rfl) ?_
          refine OS.pure 1 [(32, .pointer (some ⟨g229, 0 + Int.toNat s187.1 * 2 + 1, none⟩))] rfl (by kernel_rfl) ?_
          refine OS.ld rfl rfl rfl rfl rfl (by kernel_rfl) (hst.rowc 1 rfl (fun _ => rfl) hx227 hv228 1 _ rfl) ?_
          refine OS.pure 2 [(35, .bool (decide (x221.picked < x226.picked)))] rfl (by kernel_rfl) ?_
          refine OS.fin rfl ?_
          obtain rfl := Option.some.inj ho217
          exact QW.meet (fun a ha => ⟨ha.agrees (by kernel_rfl), hst.keep [0, 1, 2] rfl⟩)
      · rintro a w1 ⟨ha, hst⟩
        refine CW.go ?_ ha
        rcases Bool.eq_false_or_eq_true (o216) with hc231 | hc231
        · have hl186 := ite_t hl186 hc231
          refine CW.cond_t rfl hc231 ?_
          refine CW.region ?_
          refine OW.pure 3 [(4, .int .i64 x196), (5, .bool true)] (by kernel_rfl) ?_
          refine OW.nil rfl ?_
          refine QW.block_normal ?_
          refine QW.next ?_
          refine CW.region ?_
          refine OW.pure 2 [(11, .int .i64 (w64 ((i188 : Int) + 1)))] (by kernel_rfl) ?_
          refine OW.nil rfl ?_
          refine QW.say 11 rfl (congrArg (Value.int .i64) (w64_cnt hc190 l17)) ?_
          exact QW.meet (fun a ha => ⟨n185, Nat.lt_succ_self _, i188 + 1, (x196, true), cnt_next hi189, ha.agrees (by kernel_rfl), hst.keep [0, 1, 2] rfl, hl186⟩)
        · have hl186 := ite_f hl186 hc231
          refine CW.cond_f rfl hc231 ?_
          refine CW.skip ?_
          refine QW.block_normal ?_
          refine QW.next ?_
          refine CW.region ?_
          refine OW.pure 2 [(11, .int .i64 (w64 ((i188 : Int) + 1)))] (by kernel_rfl) ?_
          refine OW.nil rfl ?_
          refine QW.say 11 rfl (congrArg (Value.int .i64) (w64_cnt hc190 l17)) ?_
          exact QW.meet (fun a ha => ⟨n185, Nat.lt_succ_self _, i188 + 1, (s187.1, s187.2), cnt_next hi189, ha.agrees (by kernel_rfl), hst.keep [0, 1, 2] rfl, hl186⟩)
    · rcases n185 with _ | n185
      · refine CW.cond_f rfl hc190 ?_
        refine CW.exit ?_
        refine QW.then_exit ?_
        refine QW.then_exit ?_
        refine QW.block_here ?_
        obtain rfl := Option.some.inj hl186
        exact QW.meet (fun a ha => ⟨ha.agrees (by kernel_rfl), hst.keep [0, 1] rfl⟩)
      · exact (cnt1 hi189 hc190).elim
  · rintro a w1 ⟨ha, hst⟩
    refine CW.go ?_ ha
    refine CW.seq ?_
    refine CW.seq ?_
    refine CW.region ?_
    refine OW.pure 2 [(39, .bool (!o125.2))] (by kernel_rfl) ?_
    refine OW.nil rfl ?_
    refine QW.next ?_
    rcases Bool.eq_false_or_eq_true ((!o125.2)) with hc232 | hc232
    · have hF := ite_t hF hc232
      refine CW.cond_t rfl hc232 ?_
      refine CW.seq ?_
      refine CW.region ?_
      refine OW.pure 2 [(2, .int .i64 0), (3, .bool false)] (by kernel_rfl) ?_
      refine OW.nil rfl ?_
      refine QW.next ?_
      refine CW.ret ?_
      refine QW.then_ret ?_
      obtain rfl := Option.some.inj hF
      refine QW.ret2 rfl rfl rfl ?_
      exact ⟨(.slice a2 (p0.tasks).length c3), rfl, hst.keep [0, 1] rfl⟩
    · have hF := ite_f hF hc232
      refine CW.cond_f rfl hc232 ?_
      refine CW.skip ?_
      refine QW.next ?_
      refine CW.seq ?_
      refine CW.region ?_
      refine OW.pure 2 [(40, .pointer (some ⟨b0, 0, none⟩)), (41, .int .i64 o125.1)] (by kernel_rfl) ?_
      obtain ⟨r241, hr242, hF⟩ := bind_some' hF
      refine OW.fn rfl rfl rfl rfl (by kernel_rfl) (kern_Kern_take_ok _ b0 (.slice a2 (p0.tasks).length c3) p0 o125.1 r241 hr242 (hst.part [0, 1] rfl)) ?_
      rintro e w243 ⟨u245, rfl, hst244⟩
      refine ⟨_, rfl, ?_⟩
      have hst := hst.join (idx := [0, 1]) (rest := []) rfl hst244
      obtain ⟨l246, a247, c248, rfl⟩ := hst.len 1 rfl
      refine OW.pure 4 [(2, .int .i64 r241.1), (3, .bool r241.2.1)] (by kernel_rfl) ?_
      refine OW.nil rfl ?_
      refine QW.next ?_
      refine CW.ret ?_
      obtain rfl := Option.some.inj hF
      refine QW.ret2 rfl rfl rfl ?_
      exact ⟨(.slice a247 (r241.2.2.tasks).length c248), rfl, hst.keep [0, 1] rfl⟩

set_option maxRecDepth 10000 in
theorem kern_Kern_Turns_ok (w : World) (b0 : Nat) (v0_0 : Value) (p0 : kern_Kern) (r : Int) (hF : kern_Kern_Turns p0 = some r)
    (hst : St w (fp [blkI b0 51 [v0_0, .int .i64 p0.turns], rowI v0_0 55 enc_kern_task 2 p0.tasks]) w [blkI b0 51 [v0_0, .int .i64 p0.turns], rowI v0_0 55 enc_kern_task 2 p0.tasks]) :
    Calls Try.prog 17 [.pointer (some ⟨b0, 0, none⟩)].toArray w (fun e w' => e = .returned (.int .i64 r) ∧ St w (fp [blkI b0 51 [v0_0, .int .i64 p0.turns], rowI v0_0 55 enc_kern_task 2 p0.tasks]) w' [blkI b0 51 [v0_0, .int .i64 p0.turns], rowI v0_0 55 enc_kern_task 2 p0.tasks]) := by
  refine CW.start (N := 7) Try.func17 rfl rfl rfl ?_
  obtain ⟨l1, a2, c3, rfl⟩ := hst.len 1 rfl
  refine CW.seq ?_
  refine CW.region ?_
  refine OW.pure 1 [] (by kernel_rfl) ?_
  refine OW.nil rfl ?_
  refine QW.next ?_
  refine CW.seq ?_
  refine CW.region ?_
  refine OW.pure 3 [(5, .pointer (some ⟨b0, 1, none⟩))] (by kernel_rfl) ?_
  refine OW.ld rfl rfl rfl rfl (by kernel_rfl) (hst.blk 0 rfl rfl) ?_
  refine OW.pure 1 [(2, .int .i64 p0.turns)] (by kernel_rfl) ?_
  refine OW.nil rfl ?_
  refine QW.next ?_
  refine CW.ret ?_
  obtain rfl := Option.some.inj hF
  refine QW.ret1 rfl rfl ?_
  exact ⟨rfl, hst.keep [0, 1] rfl⟩

set_option maxRecDepth 10000 in
theorem tappetlaw21_awake_ok (w : World)  (r : Bool) (hF : tappetlaw21_awake  = some r)
    (hst : St w (fp []) w []) :
    Calls Try.prog 7 [].toArray w (fun e w' => e = .returned (.bool r) ∧ St w (fp []) w' []) := by
  refine CW.start (N := 50) Try.func7 rfl rfl rfl ?_
  refine CW.seq ?_
  refine CW.region ?_
  refine OW.pure 1 [] (by kernel_rfl) ?_
  refine OW.nil rfl ?_
  refine QW.next ?_
  refine CW.seq ?_
  refine CW.region ?_
  obtain ⟨r32, hr33, hF⟩ := bind_some' hF
  refine OW.fn rfl rfl rfl rfl (by kernel_rfl) (kern_New_ok _ 3 r32 hr33 (hst.part [] rfl)) ?_
  rintro e w34 (⟨k36, b38, v39, he37, rfl, hst35⟩ | ⟨he59, rfl, hst35⟩)
  · have hF := ocase_some hF he37
    refine ⟨_, rfl, ?_⟩
    have hst := hst.join (idx := []) (rest := []) rfl hst35
    obtain ⟨l60, a61, c62, rfl⟩ := hst.len 1 rfl
    refine OW.pure 5 [(1, .pointer (some ⟨b38, 0, none⟩)), (2, .int .i64 r32.2)] (by kernel_rfl) ?_
    refine OW.nil rfl ?_
    refine QW.next ?_
    refine CW.seq ?_
    refine CW.seq ?_
    obtain ⟨o75, ho76, hF⟩ := bind_some' hF
    refine CW.cutK (fun a w1 => ∃ (v74 : Value), Rep 50 [(1, .pointer (some ⟨b38, 0, none⟩)), (22, .bool o75.2)] a ∧ St w (fp []) w1 [blkI b38 51 [v74, .int .i64 o75.1.turns], rowI v74 55 enc_kern_task 2 o75.1.tasks]) ?_ ?_
    · refine CW.region ?_
      refine OW.pure 7 [(17, .bool (r32.2 != 0))] (by kernel_rfl) ?_
      refine OW.split 17 rfl (fun hc77 => ?_) (fun hc77 => ?_)
      · have ho76 := ite_t ho76 hc77
        refine OW.pure 5 [(22, .bool true)] (by kernel_rfl) ?_
        refine OW.nil rfl ?_
        obtain rfl := Option.some.inj ho76
        exact QW.meet (fun a ha => ⟨(.slice a61 (k36.tasks).length c62), ha.agrees (by kernel_rfl), hst.keep [0, 1] rfl⟩)
      · have ho76 := ite_f ho76 hc77
        refine OW.pure 1 [(18, .pointer (some ⟨b38, 0, none⟩))] (by kernel_rfl) ?_
        refine OW.row (α := Int) (e := 3) (enc := encI .i64) (sz := 1) hst rfl rfl rfl [2, 0] rfl (fun _ => rfl) rfl rfl (fun _ => by kernel_rfl) ?_
        intro g79 w80 hst
        obtain ⟨r81, hr82, ho76⟩ := bind_some' ho76
        refine OW.fn rfl rfl rfl rfl (by kernel_rfl) (kern_Kern_Wake_ok _ b38 (.slice a61 (k36.tasks).length c62) k36 (.slice (some ⟨g79, 0, none⟩) 2 2) ([2, 0]) r81 hr82 (hst.part [0, 1] rfl) (hst.rd 2 rfl (fun _ => rfl) [0, 1] rfl (hst.len 2 rfl).1)) ?_
        rintro e w83 ⟨u85, rfl, hst84⟩
        refine ⟨_, rfl, ?_⟩
        have hst := hst.join (idx := [0, 1]) (rest := [2]) rfl hst84
        obtain ⟨l86, a87, c88, rfl⟩ := hst.len 1 rfl
        refine OW.pure 2 [(22, .bool (r81.1 != 0))] (by kernel_rfl) ?_
        refine OW.nil rfl ?_
        obtain rfl := Option.some.inj ho76
        exact QW.meet (fun a ha => ⟨(.slice a87 (r81.2.tasks).length c88), ha.agrees (by kernel_rfl), hst.keep [0, 1] rfl⟩)
    · rintro a w1 ⟨v74, ha, hst⟩
      refine CW.go ?_ ha
      obtain ⟨l90, a91, c92, rfl⟩ := hst.len 1 rfl
      rcases Bool.eq_false_or_eq_true (o75.2) with hc93 | hc93
      · have hF := ite_t hF hc93
        refine CW.cond_t rfl hc93 ?_
        refine CW.seq ?_
        refine CW.region ?_
        refine OW.pure 1 [(0, .bool false)] (by kernel_rfl) ?_
        refine OW.nil rfl ?_
        refine QW.next ?_
        refine CW.ret ?_
        refine QW.then_ret ?_
        obtain rfl := Option.some.inj hF
        refine QW.ret1 rfl rfl ?_
        exact ⟨rfl, hst.keep [] rfl⟩
      · have hF := ite_f hF hc93
        refine CW.cond_f rfl hc93 ?_
        refine CW.skip ?_
        refine QW.next ?_
        refine CW.seq ?_
        refine CW.region ?_
        refine OW.pure 1 [(24, .pointer (some ⟨b38, 0, none⟩))] (by kernel_rfl) ?_
        obtain ⟨r102, hr103, hF⟩ := bind_some' hF
        refine OW.fn rfl rfl rfl rfl (by kernel_rfl) (kern_Kern_Pick_ok _ b38 (.slice a91 (o75.1.tasks).length c92) o75.1 5 r102 hr103 (hst.part [0, 1] rfl)) ?_
        rintro e w104 ⟨u106, rfl, hst105⟩
        refine ⟨_, rfl, ?_⟩
        have hst := hst.join (idx := [0, 1]) (rest := []) rfl hst105
        obtain ⟨l107, a108, c109, rfl⟩ := hst.len 1 rfl
        refine OW.pure 5 [(3, .int .i64 r102.1), (4, .bool r102.2.1)] (by kernel_rfl) ?_
        refine OW.nil rfl ?_
        refine QW.next ?_
        refine CW.seq ?_
        refine CW.region ?_
        refine OW.pure 1 [(29, .pointer (some ⟨b38, 0, none⟩))] (by kernel_rfl) ?_
        obtain ⟨r118, hr119, hF⟩ := bind_some' hF
        refine OW.fn rfl rfl rfl rfl (by kernel_rfl) (kern_Kern_Fair_ok _ b38 (.slice a108 (r102.2.2.tasks).length c109) r102.2.2 r118 hr119 (hst.part [0, 1] rfl)) ?_
        rintro e w120 ⟨u122, rfl, hst121⟩
        refine ⟨_, rfl, ?_⟩
        have hst := hst.join (idx := [0, 1]) (rest := []) rfl hst121
        obtain ⟨l123, a124, c125, rfl⟩ := hst.len 1 rfl
        refine OW.pure 5 [(5, .int .i64 r118.1), (6, .bool r118.2.1)] (by kernel_rfl) ?_
        refine OW.nil rfl ?_
        refine QW.next ?_
        refine CW.seq ?_
        obtain ⟨o134, ho135, hF⟩ := bind_some' hF
        refine CW.cutK (fun a w1 => Rep 50 [(0, .bool o134)] a ∧ St w (fp []) w1 []) ?_ ?_
        · refine CW.region ?_
          refine OW.pure 3 [(35, .bool (r102.1 == 2))] (by kernel_rfl) ?_
          refine OW.split 35 rfl (fun hc136 => ?_) (fun hc136 => ?_)
          · have ho135 := ite_t ho135 hc136
            refine OW.pure 3 [(38, .bool r102.2.1)] (by kernel_rfl) ?_
            refine OW.split 38 rfl (fun hc137 => ?_) (fun hc137 => ?_)
            · have ho135 := ite_t ho135 hc137
              refine OW.pure 4 [(42, .bool (r118.1 == 0))] (by kernel_rfl) ?_
              refine OW.split 42 rfl (fun hc138 => ?_) (fun hc138 => ?_)
              · have ho135 := ite_t ho135 hc138
                refine OW.pure 3 [(45, .bool r118.2.1)] (by kernel_rfl) ?_
                refine OW.split 45 rfl (fun hc139 => ?_) (fun hc139 => ?_)
                · have ho135 := ite_t ho135 hc139
                  refine OW.pure 1 [(46, .pointer (some ⟨b38, 0, none⟩))] (by kernel_rfl) ?_
                  obtain ⟨r140, hr141, ho135⟩ := bind_some' ho135
                  refine OW.fn rfl rfl rfl rfl (by kernel_rfl) (kern_Kern_Turns_ok _ b38 (.slice a124 (r118.2.2.tasks).length c125) r118.2.2 r140 hr141 (hst.part [0, 1] rfl)) ?_
                  rintro e w142 ⟨rfl, hst143⟩
                  refine ⟨_, rfl, ?_⟩
                  have hst := hst.join (idx := [0, 1]) (rest := []) rfl hst143
                  refine OW.pure 3 [(0, .bool (r140 == 2))] (by kernel_rfl) ?_
                  refine OW.nil rfl ?_
                  obtain rfl := Option.some.inj ho135
                  exact QW.meet (fun a ha => ⟨ha.agrees (by kernel_rfl), hst.keep [] rfl⟩)
                · have ho135 := ite_f ho135 hc139
                  refine OW.pure 5 [(0, .bool false)] (by kernel_rfl) ?_
                  refine OW.nil rfl ?_
                  obtain rfl := Option.some.inj ho135
                  exact QW.meet (fun a ha => ⟨ha.agrees (by kernel_rfl), hst.keep [] rfl⟩)
              · have ho135 := ite_f ho135 hc138
                refine OW.pure 8 [(0, .bool false)] (by kernel_rfl) ?_
                refine OW.nil rfl ?_
                obtain rfl := Option.some.inj ho135
                exact QW.meet (fun a ha => ⟨ha.agrees (by kernel_rfl), hst.keep [] rfl⟩)
            · have ho135 := ite_f ho135 hc137
              refine OW.pure 12 [(0, .bool false)] (by kernel_rfl) ?_
              refine OW.nil rfl ?_
              obtain rfl := Option.some.inj ho135
              exact QW.meet (fun a ha => ⟨ha.agrees (by kernel_rfl), hst.keep [] rfl⟩)
          · have ho135 := ite_f ho135 hc136
            refine OW.pure 15 [(0, .bool false)] (by kernel_rfl) ?_
            refine OW.nil rfl ?_
            obtain rfl := Option.some.inj ho135
            exact QW.meet (fun a ha => ⟨ha.agrees (by kernel_rfl), hst.keep [] rfl⟩)
        · rintro a w1 ⟨ha, hst⟩
          refine CW.go ?_ ha
          refine CW.ret ?_
          obtain rfl := Option.some.inj hF
          refine QW.ret1 rfl rfl ?_
          exact ⟨rfl, hst.keep [] rfl⟩
  · have hF := ocase_none hF he59
    refine ⟨_, rfl, ?_⟩
    have hst := hst.join (idx := []) (rest := []) rfl hst35
    refine OW.pure 5 [(1, .pointer none), (2, .int .i64 r32.2)] (by kernel_rfl) ?_
    refine OW.nil rfl ?_
    refine QW.next ?_
    refine CW.seq ?_
    refine CW.seq ?_
    refine CW.region ?_
    refine OW.pure 12 [(22, .bool true)] (by kernel_rfl) ?_
    refine OW.nil rfl ?_
    refine QW.next ?_
    refine CW.cond_t rfl rfl ?_
    refine CW.seq ?_
    refine CW.region ?_
    refine OW.pure 1 [(0, .bool false)] (by kernel_rfl) ?_
    refine OW.nil rfl ?_
    refine QW.next ?_
    refine CW.ret ?_
    refine QW.then_ret ?_
    obtain rfl := Option.some.inj hF
    refine QW.ret1 rfl rfl ?_
    exact ⟨rfl, hst.keep [] rfl⟩

set_option maxRecDepth 10000 in
theorem kern_Kern_Sleep_ok (w : World) (b0 : Nat) (v0_0 : Value) (p0 : kern_Kern) (v1 : Value) (p1 : List Int) (r : Int × kern_Kern) (hF : kern_Kern_Sleep p0 p1 = some r)
    (hst : St w (fp [blkI b0 51 [v0_0, .int .i64 p0.turns], rowI v0_0 55 enc_kern_task 2 p0.tasks]) w [blkI b0 51 [v0_0, .int .i64 p0.turns], rowI v0_0 55 enc_kern_task 2 p0.tasks]) (h1 : Rd w (fp [blkI b0 51 [v0_0, .int .i64 p0.turns], rowI v0_0 55 enc_kern_task 2 p0.tasks]) v1 (encI .i64) 1 p1) :
    Calls Try.prog 10 [.pointer (some ⟨b0, 0, none⟩), v1].toArray w (fun e w' => ∃ (u0_0 : Value), e = .returned (.int .i64 r.1) ∧ St w (fp [blkI b0 51 [v0_0, .int .i64 p0.turns], rowI v0_0 55 enc_kern_task 2 p0.tasks]) w' [blkI b0 51 [u0_0, .int .i64 r.2.turns], rowI u0_0 55 enc_kern_task 2 r.2.tasks]) := by
  refine CW.start (N := 8) Try.func10 rfl rfl rfl ?_
  obtain ⟨l1, a2, c3, rfl⟩ := h1.len
  obtain ⟨l4, a5, c6, rfl⟩ := hst.len 1 rfl
  refine CW.seq ?_
  refine CW.region ?_
  refine OW.pure 1 [] (by kernel_rfl) ?_
  refine OW.nil rfl ?_
  refine QW.next ?_
  refine CW.seq ?_
  refine CW.region ?_
  refine OW.pure 2 [(5, .pointer (some ⟨b0, 0, none⟩)), (6, .slice a2 (p1).length c3)] (by kernel_rfl) ?_
  obtain ⟨r15, hr16, hF⟩ := bind_some' hF
  refine OW.fn rfl rfl rfl rfl (by kernel_rfl) (kern_Kern_turn_ok _ b0 (.slice a5 (p0.tasks).length c6) p0 0 (.slice a2 (p1).length c3) p1 r15 hr16 (hst.part [0, 1] rfl) (h1.give hst [0, 1])) ?_
  rintro e w17 ⟨u19, rfl, hst18⟩
  refine ⟨_, rfl, ?_⟩
  have hst := hst.join (idx := [0, 1]) (rest := []) rfl hst18
  obtain ⟨l20, a21, c22, rfl⟩ := hst.len 1 rfl
  refine OW.pure 1 [(4, .int .i64 r15.1)] (by kernel_rfl) ?_
  refine OW.nil rfl ?_
  refine QW.next ?_
  refine CW.ret ?_
  obtain rfl := Option.some.inj hF
  refine QW.ret1 rfl rfl ?_
  exact ⟨(.slice a21 (r15.2.tasks).length c22), rfl, hst.keep [0, 1] rfl⟩

set_option maxRecDepth 10000 in
theorem kern_Kern_End_ok (w : World) (b0 : Nat) (v0_0 : Value) (p0 : kern_Kern) (v1 : Value) (p1 : List Int) (r : Int × kern_Kern) (hF : kern_Kern_End p0 p1 = some r)
    (hst : St w (fp [blkI b0 51 [v0_0, .int .i64 p0.turns], rowI v0_0 55 enc_kern_task 2 p0.tasks]) w [blkI b0 51 [v0_0, .int .i64 p0.turns], rowI v0_0 55 enc_kern_task 2 p0.tasks]) (h1 : Rd w (fp [blkI b0 51 [v0_0, .int .i64 p0.turns], rowI v0_0 55 enc_kern_task 2 p0.tasks]) v1 (encI .i64) 1 p1) :
    Calls Try.prog 11 [.pointer (some ⟨b0, 0, none⟩), v1].toArray w (fun e w' => ∃ (u0_0 : Value), e = .returned (.int .i64 r.1) ∧ St w (fp [blkI b0 51 [v0_0, .int .i64 p0.turns], rowI v0_0 55 enc_kern_task 2 p0.tasks]) w' [blkI b0 51 [u0_0, .int .i64 r.2.turns], rowI u0_0 55 enc_kern_task 2 r.2.tasks]) := by
  refine CW.start (N := 8) Try.func11 rfl rfl rfl ?_
  obtain ⟨l1, a2, c3, rfl⟩ := h1.len
  obtain ⟨l4, a5, c6, rfl⟩ := hst.len 1 rfl
  refine CW.seq ?_
  refine CW.region ?_
  refine OW.pure 1 [] (by kernel_rfl) ?_
  refine OW.nil rfl ?_
  refine QW.next ?_
  refine CW.seq ?_
  refine CW.region ?_
  refine OW.pure 2 [(5, .pointer (some ⟨b0, 0, none⟩)), (6, .slice a2 (p1).length c3)] (by kernel_rfl) ?_
  obtain ⟨r15, hr16, hF⟩ := bind_some' hF
  refine OW.fn rfl rfl rfl rfl (by kernel_rfl) (kern_Kern_turn_ok _ b0 (.slice a5 (p0.tasks).length c6) p0 2 (.slice a2 (p1).length c3) p1 r15 hr16 (hst.part [0, 1] rfl) (h1.give hst [0, 1])) ?_
  rintro e w17 ⟨u19, rfl, hst18⟩
  refine ⟨_, rfl, ?_⟩
  have hst := hst.join (idx := [0, 1]) (rest := []) rfl hst18
  obtain ⟨l20, a21, c22, rfl⟩ := hst.len 1 rfl
  refine OW.pure 1 [(4, .int .i64 r15.1)] (by kernel_rfl) ?_
  refine OW.nil rfl ?_
  refine QW.next ?_
  refine CW.ret ?_
  obtain rfl := Option.some.inj hF
  refine QW.ret1 rfl rfl ?_
  exact ⟨(.slice a21 (r15.2.tasks).length c22), rfl, hst.keep [0, 1] rfl⟩

set_option maxRecDepth 10000 in
theorem kern_Kern_Ended_ok (w : World) (b0 : Nat) (v0_0 : Value) (p0 : kern_Kern) (r : (List Int)) (hF : kern_Kern_Ended p0 = some r)
    (hst : St w (fp [blkI b0 51 [v0_0, .int .i64 p0.turns], rowI v0_0 55 enc_kern_task 2 p0.tasks]) w [blkI b0 51 [v0_0, .int .i64 p0.turns], rowI v0_0 55 enc_kern_task 2 p0.tasks]) :
    Calls Try.prog 14 [.pointer (some ⟨b0, 0, none⟩)].toArray w (fun e w' => ∃ (x0 : Value), e = .returned (x0) ∧ St w (fp [blkI b0 51 [v0_0, .int .i64 p0.turns], rowI v0_0 55 enc_kern_task 2 p0.tasks]) w' [blkI b0 51 [v0_0, .int .i64 p0.turns], rowI v0_0 55 enc_kern_task 2 p0.tasks, rowI x0 3 (encI .i64) 1 r]) := by
  refine CW.start (N := 5) Try.func14 rfl rfl rfl ?_
  obtain ⟨l1, a2, c3, rfl⟩ := hst.len 1 rfl
  refine CW.seq ?_
  refine CW.region ?_
  refine OW.pure 1 [] (by kernel_rfl) ?_
  refine OW.nil rfl ?_
  refine QW.next ?_
  refine CW.seq ?_
  refine CW.region ?_
  refine OW.pure 1 [(3, .pointer (some ⟨b0, 0, none⟩))] (by kernel_rfl) ?_
  obtain ⟨r12, hr13, hF⟩ := bind_some' hF
  refine OW.fn rfl rfl rfl rfl (by kernel_rfl) (kern_Kern_in_ok _ b0 (.slice a2 (p0.tasks).length c3) p0 2 r12 hr13 (hst.part [0, 1] rfl)) ?_
  rintro e w14 ⟨v16, rfl, hst15⟩
  refine ⟨_, rfl, ?_⟩
  have hst := hst.join (idx := [0, 1]) (rest := []) rfl hst15
  obtain ⟨l17, a18, c19, rfl⟩ := hst.len 2 rfl
  refine OW.pure 1 [(2, .slice a18 (r12).length c19)] (by kernel_rfl) ?_
  refine OW.nil rfl ?_
  refine QW.next ?_
  refine CW.ret ?_
  obtain rfl := Option.some.inj hF
  refine QW.ret1 rfl rfl ?_
  exact ⟨(.slice a18 (r12).length c19), rfl, hst.keep [0, 1, 2] rfl⟩

set_option maxRecDepth 10000 in
theorem tappetlaw21_KernFair_ok (w : World) (fu : Nat) (p0 : Int) (v1 : Value) (p1 : List tappetlaw21_Op) (p2 : Int) (r : Bool) (hF : tappetlaw21_KernFair fu p0 p1 p2 = some r)
    (hst : St w (fp []) w []) (h1 : RdN w (fp []) v1 D_tappetlaw21_Op 4 p1) :
    Calls Try.prog 3 [.int .i64 p0, v1, .int .i64 p2].toArray w (fun e w' => e = .returned (.bool r) ∧ St w (fp []) w' []) := by
  refine CW.start (N := 178) Try.func3 rfl rfl rfl ?_
  obtain ⟨l1, a2, c3, rfl⟩ := h1.len
  refine CW.seq ?_
  refine CW.region ?_
  refine OW.pure 1 [] (by kernel_rfl) ?_
  refine OW.nil rfl ?_
  refine QW.next ?_
  refine CW.seq ?_
  refine CW.seq ?_
  refine CW.region ?_
  obtain ⟨r8, hr9, hF⟩ := bind_some' hF
  refine OW.fn rfl rfl rfl rfl (by kernel_rfl) (tappetlaw21_awake_ok _ r8 hr9 (hst.part [] rfl)) ?_
  rintro e w10 ⟨rfl, hst11⟩
  refine ⟨_, rfl, ?_⟩
  have hst := hst.join (idx := []) (rest := []) rfl hst11
  refine OW.pure 1 [(20, .bool (!r8))] (by kernel_rfl) ?_
  refine OW.nil rfl ?_
  refine QW.next ?_
  rcases Bool.eq_false_or_eq_true ((!r8)) with hc12 | hc12
  · have hF := ite_t hF hc12
    refine CW.cond_t rfl hc12 ?_
    refine CW.seq ?_
    refine CW.region ?_
    refine OW.pure 1 [(6, .bool false)] (by kernel_rfl) ?_
    refine OW.nil rfl ?_
    refine QW.next ?_
    refine CW.ret ?_
    refine QW.then_ret ?_
    obtain rfl := Option.some.inj hF
    refine QW.ret1 rfl rfl ?_
    exact ⟨rfl, hst.keep [] rfl⟩
  · have hF := ite_f hF hc12
    refine CW.cond_f rfl hc12 ?_
    refine CW.skip ?_
    refine QW.next ?_
    refine CW.seq ?_
    refine CW.region ?_
    refine OW.pure 1 [(22, .int .i64 p0)] (by kernel_rfl) ?_
    obtain ⟨r44, hr45, hF⟩ := bind_some' hF
    refine OW.fn rfl rfl rfl rfl (by kernel_rfl) (kern_New_ok _ p0 r44 hr45 (hst.part [] rfl)) ?_
    rintro e w46 (⟨k48, b50, v51, he49, rfl, hst47⟩ | ⟨he71, rfl, hst47⟩)
    · have hF := ocase_some hF he49
      refine ⟨_, rfl, ?_⟩
      have hst := hst.join (idx := []) (rest := []) rfl hst47
      obtain ⟨l72, a73, c74, rfl⟩ := hst.len 1 rfl
      refine OW.pure 5 [(7, .pointer (some ⟨b50, 0, none⟩)), (8, .int .i64 r44.2)] (by kernel_rfl) ?_
      refine OW.nil rfl ?_
      refine QW.next ?_
      refine CW.seq ?_
      refine CW.seq ?_
      refine CW.region ?_
      refine OW.pure 6 [(31, .bool (r44.2 != 0))] (by kernel_rfl) ?_
      refine OW.nil rfl ?_
      refine QW.next ?_
      rcases Bool.eq_false_or_eq_true ((r44.2 != 0)) with hc75 | hc75
      · have hF := ite_t hF hc75
        refine CW.cond_t rfl hc75 ?_
        refine CW.seq ?_
        refine CW.region ?_
        refine OW.pure 7 [(6, .bool false)] (by kernel_rfl) ?_
        refine OW.nil rfl ?_
        refine QW.next ?_
        refine CW.ret ?_
        refine QW.then_ret ?_
        obtain rfl := Option.some.inj hF
        refine QW.ret1 rfl rfl ?_
        exact ⟨rfl, hst.keep [] rfl⟩
      · have hF := ite_f hF hc75
        refine CW.cond_f rfl hc75 ?_
        refine CW.skip ?_
        refine QW.next ?_
        refine CW.seq ?_
        refine CW.seq ?_
        refine CW.region ?_
        refine OW.pure 1 [(9, .int .i64 0)] (by kernel_rfl) ?_
        refine OW.nil rfl ?_
        refine QW.next ?_
        obtain ⟨o596, ho597, hF⟩ := bind_some' hF
        refine CW.cutK (fun a w1 => ∃ (v595 : Value), Rep 178 [(0, .int .i64 p0), (1, .slice a2 (p1).length c3), (2, .int .i64 p2), (7, .pointer (some ⟨b50, 0, none⟩))] a ∧ St w (fp []) w1 [blkI b50 51 [v595, .int .i64 o596.turns], rowI v595 55 enc_kern_task 2 o596.tasks]) ?_ ?_
        · refine CW.block ?_
          refine CW.loop (fun n a w1 => ∃ (i943 : Nat) (s941 : kern_Kern) (v942 : Value), i943 + n = (p1).length ∧ Rep 178 [(0, .int .i64 p0), (1, .slice a2 (p1).length c3), (2, .int .i64 p2), (7, .pointer (some ⟨b50, 0, none⟩)), (9, .int .i64 (i943 : Int))] a ∧ St w (fp []) w1 [blkI b50 51 [v942, .int .i64 s941.turns], rowI v942 55 enc_kern_task 2 s941.tasks] ∧ forN (tappetlaw21_KernFair_l1 p1) (fun (s941 : kern_Kern) => s941) n i943 s941 = some o596) ((p1).length) (fun a ha => ⟨0, k48, (.slice a73 (k48.tasks).length c74), Nat.zero_add _, ha.agrees (by kernel_rfl), hst.keep [0, 1] rfl, ho597⟩) ?_
          rintro n939 a w1 ⟨i943, s941, v942, hi944, ha, hst, hl940⟩
          refine CW.go ?_ ha
          obtain ⟨l945, a946, c947, rfl⟩ := hst.len 1 rfl
          refine CW.seq ?_
          refine CW.seq ?_
          refine CW.region ?_
          refine OW.pure 4 [(41, .bool (decide ((i943 : Int) < (((p1).length) : Int))))] (by kernel_rfl) ?_
          refine OW.nil rfl ?_
          refine QW.next ?_
          rcases Bool.eq_false_or_eq_true (decide ((i943 : Int) < (((p1).length) : Int))) with hc948 | hc948
          · rcases n939 with _ | n939
            · exact (cnt0 hi944 hc948).elim
            refine CW.cond_t rfl hc948 ?_
            refine CW.skip ?_
            refine QW.next ?_
            refine CW.seq ?_
            refine CW.block ?_
            refine CW.seq ?_
            refine CW.region ?_
            refine OW.pure 2 [(44, .slice a2 (p1).length c3), (45, .int .i64 (i943 : Int))] (by kernel_rfl) ?_
            obtain ⟨x989, hx990, hl940⟩ := bind_some' hl940
            obtain ⟨g992, o993, c994, cs995, hv991, hd996, hl997⟩ := h1.formv hx990
            obtain ⟨v998, v999, rfl, h1018, h1019⟩ := hd996
            obtain ⟨l1020, a1021, c1022, rfl⟩ := h1018.len
            obtain ⟨l1023, a1024, c1025, rfl⟩ := h1019.len
            refine OW.idx 31 4 rfl rfl rfl rfl hv991 rfl (idx_some hx990).1 (idx_some hx990).2.1 (by kernel_rfl) (by kernel_rfl) ?_
            refine OW.ldN (cs := [.int .i64 x989.Kind, .int .i64 x989.Choice, .slice a1021 (x989.Tasks).length c1022, .slice a1024 (x989.Ready).length c1025]) rfl rfl rfl rfl (by kernel_rfl) (by kernel_rfl) (fun q u hu => hl997 q u hu _ _ hst) ?_
            refine OW.alloc hst rfl rfl rfl [.int .i64 0, .int .i64 0, .slice none 0 0, .slice none 0 0] (by kernel_rfl) ?_
            intro b1026 w1027 hst
            refine OW.stB hst 2 rfl rfl rfl rfl rfl (by kernel_rfl) rfl rfl [.int .i64 x989.Kind, .int .i64 x989.Choice, .slice a1021 (x989.Tasks).length c1022, .slice a1024 (x989.Ready).length c1025] rfl ?_
            intro w1028 hst
            refine OW.nil rfl ?_
            refine QW.next ?_
            refine CW.seq ?_
            refine CW.region ?_
            refine OW.pure 1 [(48, .pointer (some ⟨b1026, 0, none⟩))] (by kernel_rfl) ?_
            refine OW.ld rfl rfl rfl rfl (by kernel_rfl) (hst.blk 2 rfl rfl) ?_
            refine OW.nil rfl ?_
            refine QW.next ?_
            refine CW.block ?_
            refine CW.seq ?_
            refine CW.region ?_
            refine OW.pure 2 [(52, .bool (x989.Kind == 0))] (by kernel_rfl) ?_
            refine OW.nil rfl ?_
            refine QW.next ?_
            rcases Bool.eq_false_or_eq_true ((x989.Kind == 0)) with hc1029 | hc1029
            · have hl940 := ite_t hl940 hc1029
              refine CW.cond_t rfl hc1029 ?_
              refine CW.region ?_
              refine OW.pure 2 [(54, .pointer (some ⟨b50, 0, none⟩)), (55, .pointer (some ⟨b1026, 2, none⟩))] (by kernel_rfl) ?_
              refine OW.ld rfl rfl rfl rfl (by kernel_rfl) (hst.blk 2 rfl rfl) ?_
              obtain ⟨r1038, hr1039, hl940⟩ := bind_some' hl940
              refine OW.fn rfl rfl rfl rfl (by kernel_rfl) (kern_Kern_Wake_ok _ b50 (.slice a946 (s941.tasks).length c947) s941 (.slice a1021 (x989.Tasks).length c1022) x989.Tasks r1038 hr1039 (hst.part [0, 1] rfl) (h1018.give hst [0, 1])) ?_
              rintro e w1040 ⟨u1042, rfl, hst1041⟩
              refine ⟨_, rfl, ?_⟩
              have hst := hst.join (idx := [0, 1]) (rest := [2]) rfl hst1041
              obtain ⟨l1043, a1044, c1045, rfl⟩ := hst.len 1 rfl
              refine OW.nil rfl ?_
              refine QW.block_normal ?_
              refine QW.block_normal ?_
              refine QW.next ?_
              refine CW.region ?_
              refine OW.pure 3 [(9, .int .i64 (w64 ((i943 : Int) + 1)))] (by kernel_rfl) ?_
              refine OW.nil rfl ?_
              refine QW.say 9 rfl (congrArg (Value.int .i64) (w64_cnt hc948 l1)) ?_
              exact QW.meet (fun a ha => ⟨n939, Nat.lt_succ_self _, i943 + 1, r1038.2, (.slice a1044 (r1038.2.tasks).length c1045), cnt_next hi944, ha.agrees (by kernel_rfl), hst.keep [0, 1] rfl, hl940⟩)
            · have hl940 := ite_f hl940 hc1029
              refine CW.cond_f rfl hc1029 ?_
              refine CW.seq ?_
              refine CW.region ?_
              refine OW.pure 2 [(58, .bool (x989.Kind == 1))] (by kernel_rfl) ?_
              refine OW.nil rfl ?_
              refine QW.next ?_
              rcases Bool.eq_false_or_eq_true ((x989.Kind == 1)) with hc1047 | hc1047
              · have hl940 := ite_t hl940 hc1047
                refine CW.cond_t rfl hc1047 ?_
                refine CW.region ?_
                refine OW.pure 2 [(60, .pointer (some ⟨b50, 0, none⟩)), (61, .pointer (some ⟨b1026, 2, none⟩))] (by kernel_rfl) ?_
                refine OW.ld rfl rfl rfl rfl (by kernel_rfl) (hst.blk 2 rfl rfl) ?_
                obtain ⟨r1056, hr1057, hl940⟩ := bind_some' hl940
                refine OW.fn rfl rfl rfl rfl (by kernel_rfl) (kern_Kern_Sleep_ok _ b50 (.slice a946 (s941.tasks).length c947) s941 (.slice a1021 (x989.Tasks).length c1022) x989.Tasks r1056 hr1057 (hst.part [0, 1] rfl) (h1018.give hst [0, 1])) ?_
                rintro e w1058 ⟨u1060, rfl, hst1059⟩
                refine ⟨_, rfl, ?_⟩
                have hst := hst.join (idx := [0, 1]) (rest := [2]) rfl hst1059
                obtain ⟨l1061, a1062, c1063, rfl⟩ := hst.len 1 rfl
                refine OW.nil rfl ?_
                refine QW.block_normal ?_
                refine QW.block_normal ?_
                refine QW.next ?_
                refine CW.region ?_
                refine OW.pure 3 [(9, .int .i64 (w64 ((i943 : Int) + 1)))] (by kernel_rfl) ?_
                refine OW.nil rfl ?_
                refine QW.say 9 rfl (congrArg (Value.int .i64) (w64_cnt hc948 l1)) ?_
                exact QW.meet (fun a ha => ⟨n939, Nat.lt_succ_self _, i943 + 1, r1056.2, (.slice a1062 (r1056.2.tasks).length c1063), cnt_next hi944, ha.agrees (by kernel_rfl), hst.keep [0, 1] rfl, hl940⟩)
              · have hl940 := ite_f hl940 hc1047
                refine CW.cond_f rfl hc1047 ?_
                refine CW.seq ?_
                refine CW.region ?_
                refine OW.pure 2 [(64, .bool (x989.Kind == 2))] (by kernel_rfl) ?_
                refine OW.nil rfl ?_
                refine QW.next ?_
                rcases Bool.eq_false_or_eq_true ((x989.Kind == 2)) with hc1065 | hc1065
                · have hl940 := ite_t hl940 hc1065
                  refine CW.cond_t rfl hc1065 ?_
                  refine CW.region ?_
                  refine OW.pure 2 [(66, .pointer (some ⟨b50, 0, none⟩)), (67, .pointer (some ⟨b1026, 2, none⟩))] (by kernel_rfl) ?_
                  refine OW.ld rfl rfl rfl rfl (by kernel_rfl) (hst.blk 2 rfl rfl) ?_
                  obtain ⟨r1074, hr1075, hl940⟩ := bind_some' hl940
                  refine OW.fn rfl rfl rfl rfl (by kernel_rfl) (kern_Kern_End_ok _ b50 (.slice a946 (s941.tasks).length c947) s941 (.slice a1021 (x989.Tasks).length c1022) x989.Tasks r1074 hr1075 (hst.part [0, 1] rfl) (h1018.give hst [0, 1])) ?_
                  rintro e w1076 ⟨u1078, rfl, hst1077⟩
                  refine ⟨_, rfl, ?_⟩
                  have hst := hst.join (idx := [0, 1]) (rest := [2]) rfl hst1077
                  obtain ⟨l1079, a1080, c1081, rfl⟩ := hst.len 1 rfl
                  refine OW.nil rfl ?_
                  refine QW.block_normal ?_
                  refine QW.block_normal ?_
                  refine QW.next ?_
                  refine CW.region ?_
                  refine OW.pure 3 [(9, .int .i64 (w64 ((i943 : Int) + 1)))] (by kernel_rfl) ?_
                  refine OW.nil rfl ?_
                  refine QW.say 9 rfl (congrArg (Value.int .i64) (w64_cnt hc948 l1)) ?_
                  exact QW.meet (fun a ha => ⟨n939, Nat.lt_succ_self _, i943 + 1, r1074.2, (.slice a1080 (r1074.2.tasks).length c1081), cnt_next hi944, ha.agrees (by kernel_rfl), hst.keep [0, 1] rfl, hl940⟩)
                · have hl940 := ite_f hl940 hc1065
                  refine CW.cond_f rfl hc1065 ?_
                  refine CW.seq ?_
                  refine CW.region ?_
                  refine OW.pure 2 [(70, .bool (x989.Kind == 4))] (by kernel_rfl) ?_
                  refine OW.nil rfl ?_
                  refine QW.next ?_
                  rcases Bool.eq_false_or_eq_true ((x989.Kind == 4)) with hc1083 | hc1083
                  · have hl940 := ite_t hl940 hc1083
                    refine CW.cond_t rfl hc1083 ?_
                    refine CW.region ?_
                    refine OW.pure 2 [(72, .pointer (some ⟨b50, 0, none⟩)), (73, .pointer (some ⟨b1026, 1, none⟩))] (by kernel_rfl) ?_
                    refine OW.ld rfl rfl rfl rfl (by kernel_rfl) (hst.blk 2 rfl rfl) ?_
                    obtain ⟨r1092, hr1093, hl940⟩ := bind_some' hl940
                    refine OW.fn rfl rfl rfl rfl (by kernel_rfl) (kern_Kern_Pick_ok _ b50 (.slice a946 (s941.tasks).length c947) s941 x989.Choice r1092 hr1093 (hst.part [0, 1] rfl)) ?_
                    rintro e w1094 ⟨u1096, rfl, hst1095⟩
                    refine ⟨_, rfl, ?_⟩
                    have hst := hst.join (idx := [0, 1]) (rest := [2]) rfl hst1095
                    obtain ⟨l1097, a1098, c1099, rfl⟩ := hst.len 1 rfl
                    refine OW.nil rfl ?_
                    refine QW.block_normal ?_
                    refine QW.block_normal ?_
                    refine QW.next ?_
                    refine CW.region ?_
                    refine OW.pure 3 [(9, .int .i64 (w64 ((i943 : Int) + 1)))] (by kernel_rfl) ?_
                    refine OW.nil rfl ?_
                    refine QW.say 9 rfl (congrArg (Value.int .i64) (w64_cnt hc948 l1)) ?_
                    exact QW.meet (fun a ha => ⟨n939, Nat.lt_succ_self _, i943 + 1, r1092.2.2, (.slice a1098 (r1092.2.2.tasks).length c1099), cnt_next hi944, ha.agrees (by kernel_rfl), hst.keep [0, 1] rfl, hl940⟩)
                  · have hl940 := ite_f hl940 hc1083
                    refine CW.cond_f rfl hc1083 ?_
                    refine CW.region ?_
                    refine OW.pure 1 [(50, .pointer (some ⟨b50, 0, none⟩))] (by kernel_rfl) ?_
                    obtain ⟨r1109, hr1110, hl940⟩ := bind_some' hl940
                    refine OW.fn rfl rfl rfl rfl (by kernel_rfl) (kern_Kern_Fair_ok _ b50 (.slice a946 (s941.tasks).length c947) s941 r1109 hr1110 (hst.part [0, 1] rfl)) ?_
                    rintro e w1111 ⟨u1113, rfl, hst1112⟩
                    refine ⟨_, rfl, ?_⟩
                    have hst := hst.join (idx := [0, 1]) (rest := [2]) rfl hst1112
                    obtain ⟨l1114, a1115, c1116, rfl⟩ := hst.len 1 rfl
                    refine OW.nil rfl ?_
                    refine QW.block_normal ?_
                    refine QW.block_normal ?_
                    refine QW.next ?_
                    refine CW.region ?_
                    refine OW.pure 3 [(9, .int .i64 (w64 ((i943 : Int) + 1)))] (by kernel_rfl) ?_
                    refine OW.nil rfl ?_
                    refine QW.say 9 rfl (congrArg (Value.int .i64) (w64_cnt hc948 l1)) ?_
                    exact QW.meet (fun a ha => ⟨n939, Nat.lt_succ_self _, i943 + 1, r1109.2.2, (.slice a1115 (r1109.2.2.tasks).length c1116), cnt_next hi944, ha.agrees (by kernel_rfl), hst.keep [0, 1] rfl, hl940⟩)
          · rcases n939 with _ | n939
            · refine CW.cond_f rfl hc948 ?_
              refine CW.exit ?_
              refine QW.then_exit ?_
              refine QW.then_exit ?_
              refine QW.block_here ?_
              obtain rfl := Option.some.inj hl940
              exact QW.meet (fun a ha => ⟨(.slice a946 (s941.tasks).length c947), ha.agrees (by kernel_rfl), hst.keep [0, 1] rfl⟩)
            · exact (cnt1 hi944 hc948).elim
        · rintro a w1 ⟨v595, ha, hst⟩
          refine CW.go ?_ ha
          obtain ⟨l1120, a1121, c1122, rfl⟩ := hst.len 1 rfl
          refine CW.seq ?_
          refine CW.seq ?_
          refine CW.region ?_
          refine OW.pure 2 [(76, .pointer (some ⟨b50, 0, none⟩)), (77, .int .i64 p2)] (by kernel_rfl) ?_
          refine OW.row (α := Int) (e := 3) (enc := encI .i64) (sz := 1) hst rfl rfl rfl [p2] rfl (fun _ => rfl) rfl rfl (fun _ => by kernel_rfl) ?_
          intro g1133 w1134 hst
          obtain ⟨r1135, hr1136, hF⟩ := bind_some' hF
          refine OW.fn rfl rfl rfl rfl (by kernel_rfl) (kern_Kern_Wake_ok _ b50 (.slice a1121 (o596.tasks).length c1122) o596 (.slice (some ⟨g1133, 0, none⟩) 1 1) ([p2]) r1135 hr1136 (hst.part [0, 1] rfl) (hst.rd 2 rfl (fun _ => rfl) [0, 1] rfl (hst.len 2 rfl).1)) ?_
          rintro e w1137 ⟨u1139, rfl, hst1138⟩
          refine ⟨_, rfl, ?_⟩
          have hst := hst.join (idx := [0, 1]) (rest := [2]) rfl hst1138
          obtain ⟨l1140, a1141, c1142, rfl⟩ := hst.len 1 rfl
          refine OW.pure 1 [(80, .bool (r1135.1 != 0))] (by kernel_rfl) ?_
          refine OW.nil rfl ?_
          refine QW.next ?_
          rcases Bool.eq_false_or_eq_true ((r1135.1 != 0)) with hc1143 | hc1143
          · have hF := ite_t hF hc1143
            refine CW.cond_t rfl hc1143 ?_
            refine CW.seq ?_
            obtain ⟨o1154, ho1155, hF⟩ := bind_some' hF
            refine CW.cutK (fun a w1 => Rep 178 [(6, .bool o1154)] a ∧ St w (fp []) w1 []) ?_ ?_
            · refine CW.region ?_
              refine OW.pure 3 [(83, .bool (decide (p2 < 0)))] (by kernel_rfl) ?_
              refine OW.split 83 rfl (fun hc1156 => ?_) (fun hc1156 => ?_)
              · have ho1155 := ite_t ho1155 hc1156
                refine OW.pure 11 [(6, .bool true)] (by kernel_rfl) ?_
                refine OW.nil rfl ?_
                obtain rfl := Option.some.inj ho1155
                exact QW.meet (fun a ha => ⟨ha.agrees (by kernel_rfl), hst.keep [] rfl⟩)
              · have ho1155 := ite_f ho1155 hc1156
                refine OW.pure 5 [(88, .bool (decide (p2 ≥ p0)))] (by kernel_rfl) ?_
                refine OW.split 88 rfl (fun hc1157 => ?_) (fun hc1157 => ?_)
                · have ho1155 := ite_t ho1155 hc1157
                  refine OW.pure 6 [(6, .bool true)] (by kernel_rfl) ?_
                  refine OW.nil rfl ?_
                  obtain rfl := Option.some.inj ho1155
                  exact QW.meet (fun a ha => ⟨ha.agrees (by kernel_rfl), hst.keep [] rfl⟩)
                · have ho1155 := ite_f ho1155 hc1157
                  refine OW.pure 1 [(89, .pointer (some ⟨b50, 0, none⟩))] (by kernel_rfl) ?_
                  obtain ⟨r1158, hr1159, ho1155⟩ := bind_some' ho1155
                  refine OW.fn rfl rfl rfl rfl (by kernel_rfl) (kern_Kern_Ended_ok _ b50 (.slice a1141 (r1135.2.tasks).length c1142) r1135.2 r1158 hr1159 (hst.part [0, 1] rfl)) ?_
                  rintro e w1160 ⟨v1162, rfl, hst1161⟩
                  refine ⟨_, rfl, ?_⟩
                  have hst := hst.join (idx := [0, 1]) (rest := [2]) rfl hst1161
                  obtain ⟨l1163, a1164, c1165, rfl⟩ := hst.len 2 rfl
                  refine OW.pure 4 [(6, .bool (decide ((((r1158).length) : Int) > 0)))] (by kernel_rfl) ?_
                  refine OW.nil rfl ?_
                  obtain rfl := Option.some.inj ho1155
                  exact QW.meet (fun a ha => ⟨ha.agrees (by kernel_rfl), hst.keep [] rfl⟩)
            · rintro a w1 ⟨ha, hst⟩
              refine CW.go ?_ ha
              refine CW.ret ?_
              refine QW.then_ret ?_
              obtain rfl := Option.some.inj hF
              refine QW.ret1 rfl rfl ?_
              exact ⟨rfl, hst.keep [] rfl⟩
          · have hF := ite_f hF hc1143
            refine CW.cond_f rfl hc1143 ?_
            refine CW.skip ?_
            refine QW.next ?_
            refine CW.seq ?_
            refine CW.region ?_
            refine OW.pure 1 [(11, .bool false)] (by kernel_rfl) ?_
            refine OW.nil rfl ?_
            refine QW.next ?_
            refine CW.seq ?_
            refine CW.seq ?_
            refine CW.region ?_
            refine OW.pure 1 [(12, .int .i64 0)] (by kernel_rfl) ?_
            refine OW.nil rfl ?_
            refine QW.next ?_
            obtain ⟨o6299, ho6300, hF⟩ := bind_some' hF
            refine CW.cutK (fun a w1 => ∃ (t6301 : Bool), o6299 = .inl t6301 ∧ Rep 178 [(11, .bool t6301)] a ∧ St w (fp []) w1 []) ?_ ?_
            · refine CW.block ?_
              refine CW.loop (fun n a w1 => ∃ (s9722 : kern_Kern × Bool × Int) (v9723 : Value), Rep 178 [(0, .int .i64 p0), (1, .slice a2 (p1).length c3), (2, .int .i64 p2), (7, .pointer (some ⟨b50, 0, none⟩)), (11, .bool s9722.2.1), (12, .int .i64 s9722.2.2)] a ∧ St w (fp []) w1 [blkI b50 51 [v9723, .int .i64 s9722.1.turns], rowI v9723 55 enc_kern_task 2 s9722.1.tasks] ∧ loop (tappetlaw21_KernFair_l2 fu p0 p1 p2) n s9722 = some o6299) fu (fun a ha => ⟨(r1135.2, false, 0), (.slice a1141 (r1135.2.tasks).length c1142), ha.agrees (by kernel_rfl), hst.keep [0, 1] rfl, ho6300⟩) ?_
              rintro n9720 a w1 ⟨s9722, v9723, ha, hst, hl9721⟩
              rcases n9720 with _ | n9720
              · exact (loop_zero hl9721).elim
              refine CW.go ?_ ha
              obtain ⟨l9724, a9725, c9726, rfl⟩ := hst.len 1 rfl
              refine CW.seq ?_
              refine CW.seq ?_
              refine CW.region ?_
              refine OW.pure 3 [(96, .bool (decide (s9722.2.2 < p0)))] (by kernel_rfl) ?_
              refine OW.nil rfl ?_
              refine QW.next ?_
              rcases Bool.eq_false_or_eq_true (decide (s9722.2.2 < p0)) with hc9727 | hc9727
              · have hl9721 := ite_t hl9721 hc9727
                refine CW.cond_t rfl hc9727 ?_
                refine CW.skip ?_
                refine QW.next ?_
                refine CW.seq ?_
                refine CW.block ?_
                refine CW.seq ?_
                refine CW.region ?_
                refine OW.pure 1 [(99, .pointer (some ⟨b50, 0, none⟩))] (by kernel_rfl) ?_
                obtain ⟨r9736, hr9737, hl9721⟩ := bind_some' hl9721
                refine OW.fn rfl rfl rfl rfl (by kernel_rfl) (kern_Kern_Ready_ok _ b50 (.slice a9725 (s9722.1.tasks).length c9726) s9722.1 r9736 hr9737 (hst.part [0, 1] rfl)) ?_
                rintro e w9738 ⟨v9740, rfl, hst9739⟩
                refine ⟨_, rfl, ?_⟩
                have hst := hst.join (idx := [0, 1]) (rest := []) rfl hst9739
                obtain ⟨l9741, a9742, c9743, rfl⟩ := hst.len 2 rfl
                refine OW.pure 1 [(13, .slice a9742 (r9736).length c9743)] (by kernel_rfl) ?_
                refine OW.nil rfl ?_
                refine QW.next ?_
                refine CW.seq ?_
                refine CW.region ?_
                refine OW.pure 1 [(102, .pointer (some ⟨b50, 0, none⟩))] (by kernel_rfl) ?_
                obtain ⟨r9752, hr9753, hl9721⟩ := bind_some' hl9721
                refine OW.fn rfl rfl rfl rfl (by kernel_rfl) (kern_Kern_Fair_ok _ b50 (.slice a9725 (s9722.1.tasks).length c9726) s9722.1 r9752 hr9753 (hst.part [0, 1] rfl)) ?_
                rintro e w9754 ⟨u9756, rfl, hst9755⟩
                refine ⟨_, rfl, ?_⟩
                have hst := hst.join (idx := [0, 1]) (rest := [2]) rfl hst9755
                obtain ⟨l9757, a9758, c9759, rfl⟩ := hst.len 1 rfl
                refine OW.pure 5 [(14, .int .i64 r9752.1), (15, .bool r9752.2.1)] (by kernel_rfl) ?_
                refine OW.nil rfl ?_
                refine QW.next ?_
                refine CW.seq ?_
                refine CW.region ?_
                refine OW.pure 1 [(16, .bool false)] (by kernel_rfl) ?_
                refine OW.nil rfl ?_
                refine QW.next ?_
                refine CW.seq ?_
                refine CW.seq ?_
                refine CW.region ?_
                refine OW.pure 1 [(17, .int .i64 0)] (by kernel_rfl) ?_
                refine OW.nil rfl ?_
                refine QW.next ?_
                obtain ⟨o9791, ho9792, hl9721⟩ := bind_some' hl9721
                refine CW.cutK (fun a w1 => Rep 178 [(0, .int .i64 p0), (1, .slice a2 (p1).length c3), (2, .int .i64 p2), (7, .pointer (some ⟨b50, 0, none⟩)), (11, .bool s9722.2.1), (12, .int .i64 s9722.2.2), (14, .int .i64 r9752.1), (15, .bool r9752.2.1), (16, .bool o9791)] a ∧ St w (fp []) w1 [blkI b50 51 [.slice a9758 (r9752.2.2.tasks).length c9759, .int .i64 r9752.2.2.turns], rowI (.slice a9758 (r9752.2.2.tasks).length c9759) 55 enc_kern_task 2 r9752.2.2.tasks]) ?_ ?_
                · refine CW.block ?_
                  refine CW.loop (fun n a w1 => ∃ (i9815 : Nat) (s9814 : Bool), i9815 + n = (r9736).length ∧ Rep 178 [(0, .int .i64 p0), (1, .slice a2 (p1).length c3), (2, .int .i64 p2), (7, .pointer (some ⟨b50, 0, none⟩)), (11, .bool s9722.2.1), (12, .int .i64 s9722.2.2), (13, .slice a9742 (r9736).length c9743), (14, .int .i64 r9752.1), (15, .bool r9752.2.1), (16, .bool s9814), (17, .int .i64 (i9815 : Int))] a ∧ St w (fp []) w1 [blkI b50 51 [.slice a9758 (r9752.2.2.tasks).length c9759, .int .i64 r9752.2.2.turns], rowI (.slice a9758 (r9752.2.2.tasks).length c9759) 55 enc_kern_task 2 r9752.2.2.tasks, rowI (.slice a9742 (r9736).length c9743) 3 (encI .i64) 1 r9736] ∧ forN (tappetlaw21_KernFair_l3 r9736 r9752) (fun (s9814 : Bool) => s9814) n i9815 s9814 = some o9791) ((r9736).length) (fun a ha => ⟨0, false, Nat.zero_add _, ha.agrees (by kernel_rfl), hst.keep [0, 1, 2] rfl, ho9792⟩) ?_
                  rintro n9812 a w1 ⟨i9815, s9814, hi9816, ha, hst, hl9813⟩
                  refine CW.go ?_ ha
                  refine CW.seq ?_
                  refine CW.seq ?_
                  refine CW.region ?_
                  refine OW.pure 4 [(109, .bool (decide ((i9815 : Int) < (((r9736).length) : Int))))] (by kernel_rfl) ?_
                  refine OW.nil rfl ?_
                  refine QW.next ?_
                  rcases Bool.eq_false_or_eq_true (decide ((i9815 : Int) < (((r9736).length) : Int))) with hc9817 | hc9817
                  · rcases n9812 with _ | n9812
                    · exact (cnt0 hi9816 hc9817).elim
                    refine CW.cond_t rfl hc9817 ?_
                    refine CW.skip ?_
                    refine QW.next ?_
                    refine CW.seq ?_
                    refine CW.block ?_
                    refine CW.region ?_
                    refine OW.pure 2 [(113, .bool s9814)] (by kernel_rfl) ?_
                    refine OW.split 113 rfl (fun hc9818 => ?_) (fun hc9818 => ?_)
                    · have hl9813 := ite_t hl9813 hc9818
                      refine OW.pure 8 [(16, .bool true)] (by kernel_rfl) ?_
                      refine OW.nil rfl ?_
                      refine QW.block_normal ?_
                      refine QW.next ?_
                      refine CW.region ?_
                      refine OW.pure 3 [(17, .int .i64 (w64 ((i9815 : Int) + 1)))] (by kernel_rfl) ?_
                      refine OW.nil rfl ?_
                      refine QW.say 17 rfl (congrArg (Value.int .i64) (w64_cnt hc9817 l9741)) ?_
                      exact QW.meet (fun a ha => ⟨n9812, Nat.lt_succ_self _, i9815 + 1, true, cnt_next hi9816, ha.agrees (by kernel_rfl), hst.keep [0, 1, 2] rfl, hl9813⟩)
                    · have hl9813 := ite_f hl9813 hc9818
                      refine OW.pure 2 [(114, .slice a9742 (r9736).length c9743), (115, .int .i64 (i9815 : Int))] (by kernel_rfl) ?_
                      obtain ⟨x9819, hx9820, hl9813⟩ := bind_some' hl9813
                      obtain ⟨g9822, c9823, hv9821⟩ := hst.rowv 2 rfl hx9820
                      refine OW.idx 3 1 rfl rfl rfl rfl hv9821 rfl (idx_some hx9820).1 (idx_some hx9820).2.1 (by kernel_rfl) (by kernel_rfl) ?_
                      refine OW.ld rfl rfl rfl rfl (by kernel_rfl) (hst.rowc 2 rfl (fun _ => rfl) hx9820 hv9821 0 _ rfl) ?_
                      refine OW.pure 4 [(16, .bool (x9819 == r9752.1))] (by kernel_rfl) ?_
                      refine OW.nil rfl ?_
                      refine QW.block_normal ?_
                      refine QW.next ?_
                      refine CW.region ?_
                      refine OW.pure 3 [(17, .int .i64 (w64 ((i9815 : Int) + 1)))] (by kernel_rfl) ?_
                      refine OW.nil rfl ?_
                      refine QW.say 17 rfl (congrArg (Value.int .i64) (w64_cnt hc9817 l9741)) ?_
                      exact QW.meet (fun a ha => ⟨n9812, Nat.lt_succ_self _, i9815 + 1, (x9819 == r9752.1), cnt_next hi9816, ha.agrees (by kernel_rfl), hst.keep [0, 1, 2] rfl, hl9813⟩)
                  · rcases n9812 with _ | n9812
                    · refine CW.cond_f rfl hc9817 ?_
                      refine CW.exit ?_
                      refine QW.then_exit ?_
                      refine QW.then_exit ?_
                      refine QW.block_here ?_
                      obtain rfl := Option.some.inj hl9813
                      exact QW.meet (fun a ha => ⟨ha.agrees (by kernel_rfl), hst.keep [0, 1] rfl⟩)
                    · exact (cnt1 hi9816 hc9817).elim
                · rintro a w1 ⟨ha, hst⟩
                  refine CW.go ?_ ha
                  refine CW.seq ?_
                  refine CW.seq ?_
                  refine CW.cutK (fun a w1 => Rep 178 [(0, .int .i64 p0), (1, .slice a2 (p1).length c3), (2, .int .i64 p2), (7, .pointer (some ⟨b50, 0, none⟩)), (11, .bool s9722.2.1), (12, .int .i64 s9722.2.2), (14, .int .i64 r9752.1), (126, .bool ((!r9752.2.1) || (!o9791)))] a ∧ St w (fp []) w1 [blkI b50 51 [.slice a9758 (r9752.2.2.tasks).length c9759, .int .i64 r9752.2.2.turns], rowI (.slice a9758 (r9752.2.2.tasks).length c9759) 55 enc_kern_task 2 r9752.2.2.tasks]) ?_ ?_
                  · refine CW.region ?_
                    refine OW.pure 3 [(123, .bool (!r9752.2.1))] (by kernel_rfl) ?_
                    refine OW.split 123 rfl (fun hc9824 => ?_) (fun hc9824 => ?_)
                    · refine OW.pure 3 [(126, .bool true)] (by kernel_rfl) ?_
                      refine OW.nil rfl ?_
                      refine QW.say 126 (v := .bool ((!r9752.2.1) || (!o9791))) rfl (by first | (rw [hc9824]; done) | (rw [hc9824]; rfl) | simp [hc9824]) ?_
                      exact QW.meet (fun a ha => ⟨ha.agrees (by kernel_rfl), hst.keep [0, 1] rfl⟩)
                    · refine OW.pure 3 [(126, .bool (!o9791))] (by kernel_rfl) ?_
                      refine OW.nil rfl ?_
                      refine QW.say 126 (v := .bool ((!r9752.2.1) || (!o9791))) rfl (by first | (rw [hc9824]; done) | (rw [hc9824]; rfl) | simp [hc9824]) ?_
                      exact QW.meet (fun a ha => ⟨ha.agrees (by kernel_rfl), hst.keep [0, 1] rfl⟩)
                  · rintro a w1 ⟨ha, hst⟩
                    refine CW.go ?_ ha
                    rcases Bool.eq_false_or_eq_true (((!r9752.2.1) || (!o9791))) with hc9825 | hc9825
                    · have hl9721 := ite_t hl9721 hc9825
                      refine CW.cond_t rfl hc9825 ?_
                      refine CW.seq ?_
                      refine CW.region ?_
                      refine OW.pure 1 [(6, .bool false)] (by kernel_rfl) ?_
                      refine OW.nil rfl ?_
                      refine QW.next ?_
                      refine CW.ret ?_
                      refine QW.then_ret ?_
                      refine QW.block_ret ?_
                      refine QW.then_ret ?_
                      refine QW.then_ret ?_
                      refine QW.block_ret ?_
                      refine QW.then_ret ?_
                      obtain rfl := Option.some.inj hl9721
                      obtain rfl := Option.some.inj hF
                      refine QW.ret1 rfl rfl ?_
                      exact ⟨rfl, hst.keep [] rfl⟩
                    · have hl9721 := ite_f hl9721 hc9825
                      refine CW.cond_f rfl hc9825 ?_
                      refine CW.skip ?_
                      refine QW.next ?_
                      refine CW.seq ?_
                      refine CW.cutK (fun a w1 => Rep 178 [(0, .int .i64 p0), (1, .slice a2 (p1).length c3), (2, .int .i64 p2), (7, .pointer (some ⟨b50, 0, none⟩)), (11, .bool (s9722.2.1 || (r9752.1 == p2))), (12, .int .i64 s9722.2.2), (14, .int .i64 r9752.1)] a ∧ St w (fp []) w1 [blkI b50 51 [.slice a9758 (r9752.2.2.tasks).length c9759, .int .i64 r9752.2.2.turns], rowI (.slice a9758 (r9752.2.2.tasks).length c9759) 55 enc_kern_task 2 r9752.2.2.tasks]) ?_ ?_
                      · refine CW.region ?_
                        refine OW.pure 2 [(128, .bool s9722.2.1)] (by kernel_rfl) ?_
                        refine OW.split 128 rfl (fun hc9826 => ?_) (fun hc9826 => ?_)
                        · refine OW.pure 5 [(11, .bool true)] (by kernel_rfl) ?_
                          refine OW.nil rfl ?_
                          refine QW.say 11 (v := .bool (s9722.2.1 || (r9752.1 == p2))) rfl (by first | (rw [hc9826]; done) | (rw [hc9826]; rfl) | simp [hc9826]) ?_
                          exact QW.meet (fun a ha => ⟨ha.agrees (by kernel_rfl), hst.keep [0, 1] rfl⟩)
                        · refine OW.pure 5 [(11, .bool (r9752.1 == p2))] (by kernel_rfl) ?_
                          refine OW.nil rfl ?_
                          refine QW.say 11 (v := .bool (s9722.2.1 || (r9752.1 == p2))) rfl (by first | (rw [hc9826]; done) | (rw [hc9826]; rfl) | simp [hc9826]) ?_
                          exact QW.meet (fun a ha => ⟨ha.agrees (by kernel_rfl), hst.keep [0, 1] rfl⟩)
                      · rintro a w1 ⟨ha, hst⟩
                        refine CW.go ?_ ha
                        refine CW.seq ?_
                        refine CW.cutK (fun a w1 => Rep 178 [(0, .int .i64 p0), (1, .slice a2 (p1).length c3), (2, .int .i64 p2), (7, .pointer (some ⟨b50, 0, none⟩)), (11, .bool (s9722.2.1 || (r9752.1 == p2))), (12, .int .i64 s9722.2.2), (14, .int .i64 r9752.1), (141, .bool (decide (s9722.2.2 < (((p1).length) : Int)) && (r9752.1 != p2)))] a ∧ St w (fp []) w1 [blkI b50 51 [.slice a9758 (r9752.2.2.tasks).length c9759, .int .i64 r9752.2.2.turns], rowI (.slice a9758 (r9752.2.2.tasks).length c9759) 55 enc_kern_task 2 r9752.2.2.tasks]) ?_ ?_
                        · refine CW.region ?_
                          refine OW.pure 5 [(137, .bool (decide (s9722.2.2 < (((p1).length) : Int))))] (by kernel_rfl) ?_
                          refine OW.split 137 rfl (fun hc9827 => ?_) (fun hc9827 => ?_)
                          · refine OW.pure 4 [(141, .bool (r9752.1 != p2))] (by kernel_rfl) ?_
                            refine OW.nil rfl ?_
                            refine QW.say 141 (v := .bool (decide (s9722.2.2 < (((p1).length) : Int)) && (r9752.1 != p2))) rfl (by first | (rw [hc9827]; done) | (rw [hc9827]; rfl) | simp [hc9827]) ?_
                            exact QW.meet (fun a ha => ⟨ha.agrees (by kernel_rfl), hst.keep [0, 1] rfl⟩)
                          · refine OW.pure 4 [(141, .bool false)] (by kernel_rfl) ?_
                            refine OW.nil rfl ?_
                            refine QW.say 141 (v := .bool (decide (s9722.2.2 < (((p1).length) : Int)) && (r9752.1 != p2))) rfl (by first | (rw [hc9827]; done) | (rw [hc9827]; rfl) | simp [hc9827]) ?_
                            exact QW.meet (fun a ha => ⟨ha.agrees (by kernel_rfl), hst.keep [0, 1] rfl⟩)
                        · rintro a w1 ⟨ha, hst⟩
                          refine CW.go ?_ ha
                          rcases Bool.eq_false_or_eq_true ((decide (s9722.2.2 < (((p1).length) : Int)) && (r9752.1 != p2))) with hc9828 | hc9828
                          · have hl9721 := ite_t hl9721 hc9828
                            refine CW.cond_t rfl hc9828 ?_
                            refine CW.seq ?_
                            refine CW.region ?_
                            refine OW.pure 2 [(142, .pointer (some ⟨b50, 0, none⟩)), (143, .int .i64 r9752.1)] (by kernel_rfl) ?_
                            refine OW.row (α := Int) (e := 3) (enc := encI .i64) (sz := 1) hst rfl rfl rfl [r9752.1] rfl (fun _ => rfl) rfl rfl (fun _ => by kernel_rfl) ?_
                            intro g9839 w9840 hst
                            obtain ⟨r9841, hr9842, hl9721⟩ := bind_some' hl9721
                            refine OW.fn rfl rfl rfl rfl (by kernel_rfl) (kern_Kern_Sleep_ok _ b50 (.slice a9758 (r9752.2.2.tasks).length c9759) r9752.2.2 (.slice (some ⟨g9839, 0, none⟩) 1 1) ([r9752.1]) r9841 hr9842 (hst.part [0, 1] rfl) (hst.rd 2 rfl (fun _ => rfl) [0, 1] rfl (hst.len 2 rfl).1)) ?_
                            rintro e w9843 ⟨u9845, rfl, hst9844⟩
                            refine ⟨_, rfl, ?_⟩
                            have hst := hst.join (idx := [0, 1]) (rest := [2]) rfl hst9844
                            obtain ⟨l9846, a9847, c9848, rfl⟩ := hst.len 1 rfl
                            refine OW.nil rfl ?_
                            refine QW.next ?_
                            refine CW.seq ?_
                            refine CW.region ?_
                            refine OW.pure 1 [(18, .int .i64 0)] (by kernel_rfl) ?_
                            refine OW.nil rfl ?_
                            refine QW.next ?_
                            obtain ⟨o10637, ho10638, hl9721⟩ := bind_some' hl9721
                            refine CW.cutQ (fun a w1 => ∃ (v10636 : Value), Rep 178 [(0, .int .i64 p0), (1, .slice a2 (p1).length c3), (2, .int .i64 p2), (7, .pointer (some ⟨b50, 0, none⟩)), (11, .bool (s9722.2.1 || (r9752.1 == p2))), (12, .int .i64 s9722.2.2)] a ∧ St w (fp []) w1 [blkI b50 51 [v10636, .int .i64 o10637.turns], rowI v10636 55 enc_kern_task 2 o10637.tasks]) ?_ ?_
                            · refine CW.block ?_
                              refine CW.loop (fun n a w1 => ∃ (s11164 : kern_Kern × Int) (v11165 : Value), Rep 178 [(0, .int .i64 p0), (1, .slice a2 (p1).length c3), (2, .int .i64 p2), (7, .pointer (some ⟨b50, 0, none⟩)), (11, .bool (s9722.2.1 || (r9752.1 == p2))), (12, .int .i64 s9722.2.2), (18, .int .i64 s11164.2)] a ∧ St w (fp []) w1 [blkI b50 51 [v11165, .int .i64 s11164.1.turns], rowI v11165 55 enc_kern_task 2 s11164.1.tasks] ∧ loop (tappetlaw21_KernFair_l4 p1 p2 s9722) n s11164 = some o10637) fu (fun a ha => ⟨(r9841.2, 0), (.slice a9847 (r9841.2.tasks).length c9848), ha.agrees (by kernel_rfl), hst.keep [0, 1] rfl, ho10638⟩) ?_
                              rintro n11162 a w1 ⟨s11164, v11165, ha, hst, hl11163⟩
                              rcases n11162 with _ | n11162
                              · exact (loop_zero hl11163).elim
                              refine CW.go ?_ ha
                              obtain ⟨l11166, a11167, c11168, rfl⟩ := hst.len 1 rfl
                              refine CW.seq ?_
                              refine CW.seq ?_
                              refine CW.region ?_
                              refine OW.pure 3 [(146, .int .i64 s11164.2), (147, .slice a2 (p1).length c3), (148, .int .i64 s9722.2.2)] (by kernel_rfl) ?_
                              obtain ⟨x11206, hx11207, hl11163⟩ := bind_some' hl11163
                              obtain ⟨g11209, o11210, c11211, cs11212, hv11208, hd11213, hl11214⟩ := h1.formv hx11207
                              obtain ⟨v11215, v11216, rfl, h11235, h11236⟩ := hd11213
                              obtain ⟨l11237, a11238, c11239, rfl⟩ := h11235.len
                              obtain ⟨l11240, a11241, c11242, rfl⟩ := h11236.len
                              refine OW.idx 31 4 rfl rfl rfl rfl hv11208 rfl (idx_some hx11207).1 (idx_some hx11207).2.1 (by kernel_rfl) (by kernel_rfl) ?_
                              refine OW.pure 1 [(150, .pointer (some ⟨g11209, o11210 + Int.toNat s9722.2.2 * 4 + 2, none⟩))] (by kernel_rfl) ?_
                              refine OW.ld rfl rfl rfl rfl (by kernel_rfl) (hl11214 2 _ rfl _ _ hst) ?_
                              refine OW.pure 2 [(153, .bool (decide (s11164.2 < (((x11206.Tasks).length) : Int))))] (by kernel_rfl) ?_
                              refine OW.nil rfl ?_
                              refine QW.next ?_
                              rcases Bool.eq_false_or_eq_true (decide (s11164.2 < (((x11206.Tasks).length) : Int))) with hc11243 | hc11243
                              · have hl11163 := ite_t hl11163 hc11243
                                refine CW.cond_t rfl hc11243 ?_
                                refine CW.skip ?_
                                refine QW.next ?_
                                refine CW.seq ?_
                                refine CW.block ?_
                                refine CW.seq ?_
                                refine CW.region ?_
                                refine OW.pure 2 [(156, .slice a2 (p1).length c3), (157, .int .i64 s9722.2.2)] (by kernel_rfl) ?_
                                obtain ⟨g11286, o11287, c11288, cs11289, hv11285, hd11290, hl11291⟩ := h1.formv hx11207
                                obtain ⟨v11292, v11293, rfl, h11312, h11313⟩ := hd11290
                                obtain ⟨l11314, a11315, c11316, rfl⟩ := h11312.len
                                obtain ⟨l11317, a11318, c11319, rfl⟩ := h11313.len
                                refine OW.idx 31 4 rfl rfl rfl rfl hv11285 rfl (idx_some hx11207).1 (idx_some hx11207).2.1 (by kernel_rfl) (by kernel_rfl) ?_
                                refine OW.pure 1 [(159, .pointer (some ⟨g11286, o11287 + Int.toNat s9722.2.2 * 4 + 2, none⟩))] (by kernel_rfl) ?_
                                refine OW.ld rfl rfl rfl rfl (by kernel_rfl) (hl11291 2 _ rfl _ _ hst) ?_
                                refine OW.pure 1 [(161, .int .i64 s11164.2)] (by kernel_rfl) ?_
                                obtain ⟨x11320, hx11321, hl11163⟩ := bind_some' hl11163
                                obtain ⟨g11323, o11324, c11325, hv11322⟩ := h11312.formv (fun _ => ⟨_, rfl⟩) hx11321
                                refine OW.idx 3 1 rfl rfl rfl rfl hv11322 rfl (idx_some hx11321).1 (idx_some hx11321).2.1 (by kernel_rfl) (by kernel_rfl) ?_
                                refine OW.ld rfl rfl rfl rfl (by kernel_rfl) (h11312.cellv hst hx11321 hv11322 0 _ rfl) ?_
                                refine OW.pure 2 [(165, .bool (x11320 != p2))] (by kernel_rfl) ?_
                                refine OW.nil rfl ?_
                                refine QW.next ?_
                                rcases Bool.eq_false_or_eq_true ((x11320 != p2)) with hc11326 | hc11326
                                · have hl11163 := ite_t hl11163 hc11326
                                  refine CW.cond_t rfl hc11326 ?_
                                  refine CW.region ?_
                                  refine OW.pure 3 [(166, .pointer (some ⟨b50, 0, none⟩)), (167, .slice a2 (p1).length c3), (168, .int .i64 s9722.2.2)] (by kernel_rfl) ?_
                                  obtain ⟨g11377, o11378, c11379, cs11380, hv11376, hd11381, hl11382⟩ := h1.formv hx11207
                                  obtain ⟨v11383, v11384, rfl, h11403, h11404⟩ := hd11381
                                  obtain ⟨l11405, a11406, c11407, rfl⟩ := h11403.len
                                  obtain ⟨l11408, a11409, c11410, rfl⟩ := h11404.len
                                  refine OW.idx 31 4 rfl rfl rfl rfl hv11376 rfl (idx_some hx11207).1 (idx_some hx11207).2.1 (by kernel_rfl) (by kernel_rfl) ?_
                                  refine OW.pure 1 [(170, .pointer (some ⟨g11377, o11378 + Int.toNat s9722.2.2 * 4 + 2, none⟩))] (by kernel_rfl) ?_
                                  refine OW.ld rfl rfl rfl rfl (by kernel_rfl) (hl11382 2 _ rfl _ _ hst) ?_
                                  refine OW.pure 1 [(172, .int .i64 s11164.2)] (by kernel_rfl) ?_
                                  obtain ⟨g11412, o11413, c11414, hv11411⟩ := h11403.formv (fun _ => ⟨_, rfl⟩) hx11321
                                  refine OW.idx 3 1 rfl rfl rfl rfl hv11411 rfl (idx_some hx11321).1 (idx_some hx11321).2.1 (by kernel_rfl) (by kernel_rfl) ?_
                                  refine OW.ld rfl rfl rfl rfl (by kernel_rfl) (h11403.cellv hst hx11321 hv11411 0 _ rfl) ?_
                                  refine OW.row (α := Int) (e := 3) (enc := encI .i64) (sz := 1) hst rfl rfl rfl [x11320] rfl (fun _ => rfl) rfl rfl (fun _ => by kernel_rfl) ?_
                                  intro g11415 w11416 hst
                                  obtain ⟨r11417, hr11418, hl11163⟩ := bind_some' hl11163
                                  refine OW.fn rfl rfl rfl rfl (by kernel_rfl) (kern_Kern_Wake_ok _ b50 (.slice a11167 (s11164.1.tasks).length c11168) s11164.1 (.slice (some ⟨g11415, 0, none⟩) 1 1) ([x11320]) r11417 hr11418 (hst.part [0, 1] rfl) (hst.rd 2 rfl (fun _ => rfl) [0, 1] rfl (hst.len 2 rfl).1)) ?_
                                  rintro e w11419 ⟨u11421, rfl, hst11420⟩
                                  refine ⟨_, rfl, ?_⟩
                                  have hst := hst.join (idx := [0, 1]) (rest := [2]) rfl hst11420
                                  obtain ⟨l11422, a11423, c11424, rfl⟩ := hst.len 1 rfl
                                  refine OW.nil rfl ?_
                                  refine QW.block_normal ?_
                                  refine QW.next ?_
                                  refine CW.region ?_
                                  refine OW.pure 3 [(18, .int .i64 (w64 (s11164.2 + 1)))] (by kernel_rfl) ?_
                                  refine OW.nil rfl ?_
                                  exact QW.meet (fun a ha => ⟨n11162, Nat.lt_succ_self _, (r11417.2, w64 (s11164.2 + 1)), (.slice a11423 (r11417.2.tasks).length c11424), ha.agrees (by kernel_rfl), hst.keep [0, 1] rfl, hl11163⟩)
                                · have hl11163 := ite_f hl11163 hc11326
                                  refine CW.cond_f rfl hc11326 ?_
                                  refine CW.skip ?_
                                  refine QW.block_normal ?_
                                  refine QW.next ?_
                                  refine CW.region ?_
                                  refine OW.pure 3 [(18, .int .i64 (w64 (s11164.2 + 1)))] (by kernel_rfl) ?_
                                  refine OW.nil rfl ?_
                                  exact QW.meet (fun a ha => ⟨n11162, Nat.lt_succ_self _, (s11164.1, w64 (s11164.2 + 1)), (.slice a11167 (s11164.1.tasks).length c11168), ha.agrees (by kernel_rfl), hst.keep [0, 1] rfl, hl11163⟩)
                              · have hl11163 := ite_f hl11163 hc11243
                                refine CW.cond_f rfl hc11243 ?_
                                refine CW.exit ?_
                                refine QW.then_exit ?_
                                refine QW.then_exit ?_
                                refine QW.block_here ?_
                                obtain rfl := Option.some.inj hl11163
                                exact QW.meet (fun a ha => ⟨(.slice a11167 (s11164.1.tasks).length c11168), ha.agrees (by kernel_rfl), hst.keep [0, 1] rfl⟩)
                            · rintro a w1 ⟨v10636, ha, hst⟩
                              refine QW.go ?_ ha
                              obtain ⟨l11429, a11430, c11431, rfl⟩ := hst.len 1 rfl
                              refine QW.block_normal ?_
                              refine QW.next ?_
                              refine CW.region ?_
                              refine OW.pure 3 [(12, .int .i64 (w64 (s9722.2.2 + 1)))] (by kernel_rfl) ?_
                              refine OW.nil rfl ?_
                              exact QW.meet (fun a ha => ⟨n9720, Nat.lt_succ_self _, (o10637, (s9722.2.1 || (r9752.1 == p2)), w64 (s9722.2.2 + 1)), (.slice a11430 (o10637.tasks).length c11431), ha.agrees (by kernel_rfl), hst.keep [0, 1] rfl, hl9721⟩)
                          · have hl9721 := ite_f hl9721 hc9828
                            refine CW.cond_f rfl hc9828 ?_
                            refine CW.skip ?_
                            refine QW.block_normal ?_
                            refine QW.next ?_
                            refine CW.region ?_
                            refine OW.pure 3 [(12, .int .i64 (w64 (s9722.2.2 + 1)))] (by kernel_rfl) ?_
                            refine OW.nil rfl ?_
                            exact QW.meet (fun a ha => ⟨n9720, Nat.lt_succ_self _, (r9752.2.2, (s9722.2.1 || (r9752.1 == p2)), w64 (s9722.2.2 + 1)), (.slice a9758 (r9752.2.2.tasks).length c9759), ha.agrees (by kernel_rfl), hst.keep [0, 1] rfl, hl9721⟩)
              · have hl9721 := ite_f hl9721 hc9727
                refine CW.cond_f rfl hc9727 ?_
                refine CW.exit ?_
                refine QW.then_exit ?_
                refine QW.then_exit ?_
                refine QW.block_here ?_
                obtain rfl := Option.some.inj hl9721
                exact QW.meet (fun a ha => ⟨s9722.2.1, rfl, ha.agrees (by kernel_rfl), hst.keep [] rfl⟩)
            · rintro a w1 ⟨t6301, rfl, ha, hst⟩
              refine CW.go ?_ ha
              refine CW.seq ?_
              refine CW.region ?_
              refine OW.pure 2 [(6, .bool t6301)] (by kernel_rfl) ?_
              refine OW.nil rfl ?_
              refine QW.next ?_
              refine CW.ret ?_
              obtain rfl := Option.some.inj hF
              refine QW.ret1 rfl rfl ?_
              exact ⟨rfl, hst.keep [] rfl⟩
    · have hF := ocase_none hF he71
      refine ⟨_, rfl, ?_⟩
      have hst := hst.join (idx := []) (rest := []) rfl hst47
      refine OW.pure 5 [(7, .pointer none), (8, .int .i64 r44.2)] (by kernel_rfl) ?_
      refine OW.nil rfl ?_
      refine QW.next ?_
      refine CW.seq ?_
      refine CW.seq ?_
      refine CW.region ?_
      refine OW.pure 6 [(31, .bool true)] (by kernel_rfl) ?_
      refine OW.nil rfl ?_
      refine QW.next ?_
      refine CW.cond_t rfl rfl ?_
      refine CW.seq ?_
      refine CW.region ?_
      refine OW.pure 7 [(6, .bool (r44.2 == 2))] (by kernel_rfl) ?_
      refine OW.nil rfl ?_
      refine QW.next ?_
      refine CW.ret ?_
      refine QW.then_ret ?_
      obtain rfl := Option.some.inj hF
      refine QW.ret1 rfl rfl ?_
      exact ⟨rfl, hst.keep [] rfl⟩

set_option maxRecDepth 10000 in
theorem kern_Kern_Set_ok (w : World) (b0 : Nat) (v0_0 : Value) (p0 : kern_Kern) (v1 : Value) (p1 : List Bool) (r : Int × kern_Kern) (hF : kern_Kern_Set p0 p1 = some r)
    (hst : St w (fp [blkI b0 51 [v0_0, .int .i64 p0.turns], rowI v0_0 55 enc_kern_task 2 p0.tasks]) w [blkI b0 51 [v0_0, .int .i64 p0.turns], rowI v0_0 55 enc_kern_task 2 p0.tasks]) (h1 : Rd w (fp [blkI b0 51 [v0_0, .int .i64 p0.turns], rowI v0_0 55 enc_kern_task 2 p0.tasks]) v1 encB 1 p1) :
    Calls Try.prog 16 [.pointer (some ⟨b0, 0, none⟩), v1].toArray w (fun e w' => ∃ (u0_0 : Value), e = .returned (.int .i64 r.1) ∧ St w (fp [blkI b0 51 [v0_0, .int .i64 p0.turns], rowI v0_0 55 enc_kern_task 2 p0.tasks]) w' [blkI b0 51 [u0_0, .int .i64 r.2.turns], rowI u0_0 55 enc_kern_task 2 r.2.tasks]) := by
  refine CW.start (N := 49) Try.func16 rfl rfl rfl ?_
  obtain ⟨l1, a2, c3, rfl⟩ := h1.len
  obtain ⟨l4, a5, c6, rfl⟩ := hst.len 1 rfl
  refine CW.seq ?_
  refine CW.region ?_
  refine OW.pure 1 [] (by kernel_rfl) ?_
  refine OW.nil rfl ?_
  refine QW.next ?_
  refine CW.seq ?_
  refine CW.seq ?_
  refine CW.region ?_
  refine OW.pure 5 [(8, .int .i64 (((p1).length) : Int)), (11, .pointer (some ⟨b0, 0, none⟩))] (by kernel_rfl) ?_
  refine OW.ld rfl rfl rfl rfl (by kernel_rfl) (hst.blk 0 rfl rfl) ?_
  refine OW.pure 2 [(14, .bool ((((p1).length) : Int) != (((p0.tasks).length) : Int)))] (by kernel_rfl) ?_
  refine OW.nil rfl ?_
  refine QW.next ?_
  rcases Bool.eq_false_or_eq_true (((((p1).length) : Int) != (((p0.tasks).length) : Int))) with hc7 | hc7
  · have hF := ite_t hF hc7
    refine CW.cond_t rfl hc7 ?_
    refine CW.seq ?_
    refine CW.region ?_
    refine OW.pure 1 [(4, .int .i64 2)] (by kernel_rfl) ?_
    refine OW.nil rfl ?_
    refine QW.next ?_
    refine CW.ret ?_
    refine QW.then_ret ?_
    obtain rfl := Option.some.inj hF
    refine QW.ret1 rfl rfl ?_
    exact ⟨(.slice a5 (p0.tasks).length c6), rfl, hst.keep [0, 1] rfl⟩
  · have hF := ite_f hF hc7
    refine CW.cond_f rfl hc7 ?_
    refine CW.skip ?_
    refine QW.next ?_
    refine CW.seq ?_
    refine CW.seq ?_
    refine CW.region ?_
    refine OW.pure 3 [(15, .slice a2 (p1).length c3), (16, .int .i64 (((p1).length) : Int)), (17, .int .i64 0)] (by kernel_rfl) ?_
    refine OW.nil rfl ?_
    refine QW.next ?_
    obtain ⟨o154, ho155, hF⟩ := bind_some' hF
    refine CW.cutK (fun a w1 => ∃ (v153 : Value), Rep 49 [] a ∧ St w (fp [blkI b0 51 [.slice a5 (p0.tasks).length c6, .int .i64 p0.turns], rowI (.slice a5 (p0.tasks).length c6) 55 enc_kern_task 2 p0.tasks]) w1 [blkI b0 51 [v153, .int .i64 p0.turns], rowI v153 55 enc_kern_task 2 o154]) ?_ ?_
    · refine CW.block ?_
      refine CW.loop (fun n a w1 => ∃ (i253 : Nat) (s251 : (List kern_task)) (v252 : Value), i253 + n = (p1).length ∧ Rep 49 [(0, .pointer (some ⟨b0, 0, none⟩)), (15, .slice a2 (p1).length c3), (16, .int .i64 (((p1).length) : Int)), (17, .int .i64 (i253 : Int))] a ∧ St w (fp [blkI b0 51 [.slice a5 (p0.tasks).length c6, .int .i64 p0.turns], rowI (.slice a5 (p0.tasks).length c6) 55 enc_kern_task 2 p0.tasks]) w1 [blkI b0 51 [v252, .int .i64 p0.turns], rowI v252 55 enc_kern_task 2 s251] ∧ forN (kern_Kern_Set_l1 p1) (fun (s251 : (List kern_task)) => s251) n i253 s251 = some o154) ((p1).length) (fun a ha => ⟨0, p0.tasks, (.slice a5 (p0.tasks).length c6), Nat.zero_add _, ha.agrees (by kernel_rfl), hst.keep [0, 1] rfl, ho155⟩) ?_
      rintro n249 a w1 ⟨i253, s251, v252, hi254, ha, hst, hl250⟩
      refine CW.go ?_ ha
      obtain ⟨l255, a256, c257, rfl⟩ := hst.len 1 rfl
      refine CW.seq ?_
      refine CW.region ?_
      refine OW.pure 1 [(18, .bool (decide ((i253 : Int) < (((p1).length) : Int))))] (by kernel_rfl) ?_
      refine OW.nil rfl ?_
      refine QW.next ?_
      refine CW.seq ?_
      rcases Bool.eq_false_or_eq_true (decide ((i253 : Int) < (((p1).length) : Int))) with hc258 | hc258
      · rcases n249 with _ | n249
        · exact (cnt0 hi254 hc258).elim
        refine CW.cond_t rfl hc258 ?_
        refine CW.skip ?_
        refine QW.next ?_
        refine CW.seq ?_
        refine CW.block ?_
        refine CW.seq ?_
        refine CW.region ?_
        refine OW.pure 1 [(19, .int .i64 (i253 : Int))] (by kernel_rfl) ?_
        obtain ⟨x265, hx266, hl250⟩ := bind_some' hl250
        obtain ⟨g268, o269, c270, hv267⟩ := h1.formv (fun _ => ⟨_, rfl⟩) hx266
        refine OW.idx 4 1 rfl rfl rfl rfl hv267 rfl (idx_some hx266).1 (idx_some hx266).2.1 (by kernel_rfl) (by kernel_rfl) ?_
        refine OW.ld rfl rfl rfl rfl (by kernel_rfl) (h1.cellv hst hx266 hv267 0 _ rfl) ?_
        refine OW.pure 2 [(5, .int .i64 (i253 : Int)), (6, .bool x265)] (by kernel_rfl) ?_
        refine OW.nil rfl ?_
        refine QW.next ?_
        refine CW.block ?_
        refine CW.seq ?_
        refine CW.region ?_
        refine OW.pure 3 [(32, .pointer (some ⟨b0, 0, none⟩))] (by kernel_rfl) ?_
        refine OW.ld rfl rfl rfl rfl (by kernel_rfl) (hst.blk 0 rfl rfl) ?_
        refine OW.pure 1 [(34, .int .i64 (i253 : Int))] (by kernel_rfl) ?_
        obtain ⟨x276, hx277, hl250⟩ := bind_some' hl250
        obtain ⟨g279, c280, hv278⟩ := hst.rowv 1 rfl hx277
        refine OW.idx 55 2 rfl rfl rfl rfl hv278 rfl (idx_some hx277).1 (idx_some hx277).2.1 (by kernel_rfl) (by kernel_rfl) ?_
        refine OW.pure 1 [(36, .pointer (some ⟨g279, 0 + Int.toNat (i253 : Int) * 2, none⟩))] (by kernel_rfl) ?_
        refine OW.ld rfl rfl rfl rfl (by kernel_rfl) (hst.rowc 1 rfl (fun _ => rfl) hx277 hv278 0 _ rfl) ?_
        refine OW.pure 2 [(29, .bool (x276.mode_ == 2))] (by kernel_rfl) ?_
        refine OW.nil rfl ?_
        refine QW.next ?_
        rcases Bool.eq_false_or_eq_true ((x276.mode_ == 2)) with hc281 | hc281
        · have hl250 := ite_t hl250 hc281
          refine CW.cond_t rfl hc281 ?_
          refine CW.skip ?_
          refine QW.block_normal ?_
          refine QW.block_normal ?_
          refine QW.next ?_
          refine CW.region ?_
          refine OW.pure 2 [(17, .int .i64 (w64 ((i253 : Int) + 1)))] (by kernel_rfl) ?_
          refine OW.nil rfl ?_
          refine QW.say 17 rfl (congrArg (Value.int .i64) (w64_cnt hc258 l1)) ?_
          exact QW.meet (fun a ha => ⟨n249, Nat.lt_succ_self _, i253 + 1, s251, (.slice a256 (s251).length c257), cnt_next hi254, ha.agrees (by kernel_rfl), hst.keep [0, 1] rfl, hl250⟩)
        · have hl250 := ite_f hl250 hc281
          refine CW.cond_f rfl hc281 ?_
          refine CW.seq ?_
          refine CW.region ?_
          refine OW.pure 2 [(39, .bool x265)] (by kernel_rfl) ?_
          refine OW.nil rfl ?_
          refine QW.next ?_
          rcases Bool.eq_false_or_eq_true (x265) with hc283 | hc283
          · have hl250 := ite_t hl250 hc283
            refine CW.cond_t rfl hc283 ?_
            refine CW.region ?_
            refine OW.pure 3 [(43, .pointer (some ⟨b0, 0, none⟩))] (by kernel_rfl) ?_
            refine OW.ld rfl rfl rfl rfl (by kernel_rfl) (hst.blk 0 rfl rfl) ?_
            refine OW.pure 1 [(45, .int .i64 (i253 : Int))] (by kernel_rfl) ?_
            obtain ⟨g289, c290, hv288⟩ := hst.rowv 1 rfl hx277
            refine OW.idx 55 2 rfl rfl rfl rfl hv288 rfl (idx_some hx277).1 (idx_some hx277).2.1 (by kernel_rfl) (by kernel_rfl) ?_
            refine OW.pure 1 [(47, .pointer (some ⟨g289, 0 + Int.toNat (i253 : Int) * 2, none⟩))] (by kernel_rfl) ?_
            refine OW.stR hst 1 rfl hv288 (fun _ => rfl) rfl rfl hx277 0 rfl rfl rfl (by kernel_rfl) rfl rfl (kern_task.mk 1 x276.picked) rfl ?_
            intro w291 hst
            refine OW.nil rfl ?_
            refine QW.block_normal ?_
            refine QW.block_normal ?_
            refine QW.next ?_
            refine CW.region ?_
            refine OW.pure 2 [(17, .int .i64 (w64 ((i253 : Int) + 1)))] (by kernel_rfl) ?_
            refine OW.nil rfl ?_
            refine QW.say 17 rfl (congrArg (Value.int .i64) (w64_cnt hc258 l1)) ?_
            exact QW.meet (fun a ha => ⟨n249, Nat.lt_succ_self _, i253 + 1, (s251.set (Int.toNat (i253 : Int)) (kern_task.mk 1 x276.picked)), (.slice a256 (s251).length c257), cnt_next hi254, ha.agrees (by kernel_rfl), hst.keep [0, 1] rfl, hl250⟩)
          · have hl250 := ite_f hl250 hc283
            refine CW.cond_f rfl hc283 ?_
            refine CW.region ?_
            refine OW.pure 3 [(24, .pointer (some ⟨b0, 0, none⟩))] (by kernel_rfl) ?_
            refine OW.ld rfl rfl rfl rfl (by kernel_rfl) (hst.blk 0 rfl rfl) ?_
            refine OW.pure 1 [(26, .int .i64 (i253 : Int))] (by kernel_rfl) ?_
            obtain ⟨g298, c299, hv297⟩ := hst.rowv 1 rfl hx277
            refine OW.idx 55 2 rfl rfl rfl rfl hv297 rfl (idx_some hx277).1 (idx_some hx277).2.1 (by kernel_rfl) (by kernel_rfl) ?_
            refine OW.pure 1 [(28, .pointer (some ⟨g298, 0 + Int.toNat (i253 : Int) * 2, none⟩))] (by kernel_rfl) ?_
            refine OW.stR hst 1 rfl hv297 (fun _ => rfl) rfl rfl hx277 0 rfl rfl rfl (by kernel_rfl) rfl rfl (kern_task.mk 0 x276.picked) rfl ?_
            intro w300 hst
            refine OW.nil rfl ?_
            refine QW.block_normal ?_
            refine QW.block_normal ?_
            refine QW.next ?_
            refine CW.region ?_
            refine OW.pure 2 [(17, .int .i64 (w64 ((i253 : Int) + 1)))] (by kernel_rfl) ?_
            refine OW.nil rfl ?_
            refine QW.say 17 rfl (congrArg (Value.int .i64) (w64_cnt hc258 l1)) ?_
            exact QW.meet (fun a ha => ⟨n249, Nat.lt_succ_self _, i253 + 1, (s251.set (Int.toNat (i253 : Int)) (kern_task.mk 0 x276.picked)), (.slice a256 (s251).length c257), cnt_next hi254, ha.agrees (by kernel_rfl), hst.keep [0, 1] rfl, hl250⟩)
      · rcases n249 with _ | n249
        · refine CW.cond_f rfl hc258 ?_
          refine CW.exit ?_
          refine QW.then_exit ?_
          refine QW.then_exit ?_
          refine QW.block_here ?_
          obtain rfl := Option.some.inj hl250
          exact QW.meet (fun a ha => ⟨(.slice a256 (s251).length c257), ha.agrees (by kernel_rfl), hst.keep [0, 1] rfl⟩)
        · exact (cnt1 hi254 hc258).elim
    · rintro a w1 ⟨v153, ha, hst⟩
      refine CW.go ?_ ha
      obtain ⟨l304, a305, c306, rfl⟩ := hst.len 1 rfl
      refine CW.seq ?_
      refine CW.region ?_
      refine OW.pure 1 [(4, .int .i64 0)] (by kernel_rfl) ?_
      refine OW.nil rfl ?_
      refine QW.next ?_
      refine CW.ret ?_
      obtain rfl := Option.some.inj hF
      refine QW.ret1 rfl rfl ?_
      exact ⟨(.slice a305 (o154).length c306), rfl, hst.keep [0, 1] rfl⟩

set_option maxRecDepth 10000 in
theorem tappetlaw21_KernPicks_ok (w : World) (fu : Nat) (p0 : Int) (v1 : Value) (p1 : List Bool) (p2 : Int) (r : Bool) (hF : tappetlaw21_KernPicks fu p0 p1 p2 = some r)
    (hst : St w (fp []) w []) (h1 : Rd w (fp []) v1 encB 1 p1) :
    Calls Try.prog 4 [.int .i64 p0, v1, .int .i64 p2].toArray w (fun e w' => e = .returned (.bool r) ∧ St w (fp []) w' []) := by
  refine CW.start (N := 179) Try.func4 rfl rfl rfl ?_
  obtain ⟨l1, a2, c3, rfl⟩ := h1.len
  refine CW.seq ?_
  refine CW.region ?_
  refine OW.pure 1 [] (by kernel_rfl) ?_
  refine OW.nil rfl ?_
  refine QW.next ?_
  refine CW.seq ?_
  refine CW.seq ?_
  refine CW.region ?_
  obtain ⟨r8, hr9, hF⟩ := bind_some' hF
  refine OW.fn rfl rfl rfl rfl (by kernel_rfl) (tappetlaw21_awake_ok _ r8 hr9 (hst.part [] rfl)) ?_
  rintro e w10 ⟨rfl, hst11⟩
  refine ⟨_, rfl, ?_⟩
  have hst := hst.join (idx := []) (rest := []) rfl hst11
  refine OW.pure 1 [(22, .bool (!r8))] (by kernel_rfl) ?_
  refine OW.nil rfl ?_
  refine QW.next ?_
  rcases Bool.eq_false_or_eq_true ((!r8)) with hc12 | hc12
  · have hF := ite_t hF hc12
    refine CW.cond_t rfl hc12 ?_
    refine CW.seq ?_
    refine CW.region ?_
    refine OW.pure 1 [(6, .bool false)] (by kernel_rfl) ?_
    refine OW.nil rfl ?_
    refine QW.next ?_
    refine CW.ret ?_
    refine QW.then_ret ?_
    obtain rfl := Option.some.inj hF
    refine QW.ret1 rfl rfl ?_
    exact ⟨rfl, hst.keep [] rfl⟩
  · have hF := ite_f hF hc12
    refine CW.cond_f rfl hc12 ?_
    refine CW.skip ?_
    refine QW.next ?_
    refine CW.seq ?_
    refine CW.region ?_
    refine OW.pure 1 [(24, .int .i64 p0)] (by kernel_rfl) ?_
    obtain ⟨r44, hr45, hF⟩ := bind_some' hF
    refine OW.fn rfl rfl rfl rfl (by kernel_rfl) (kern_New_ok _ p0 r44 hr45 (hst.part [] rfl)) ?_
    rintro e w46 (⟨k48, b50, v51, he49, rfl, hst47⟩ | ⟨he71, rfl, hst47⟩)
    · have hF := ocase_some hF he49
      refine ⟨_, rfl, ?_⟩
      have hst := hst.join (idx := []) (rest := []) rfl hst47
      obtain ⟨l72, a73, c74, rfl⟩ := hst.len 1 rfl
      refine OW.pure 5 [(7, .pointer (some ⟨b50, 0, none⟩)), (8, .int .i64 r44.2)] (by kernel_rfl) ?_
      refine OW.nil rfl ?_
      refine QW.next ?_
      refine CW.seq ?_
      refine CW.seq ?_
      refine CW.region ?_
      refine OW.pure 6 [(33, .bool (r44.2 != 0))] (by kernel_rfl) ?_
      refine OW.nil rfl ?_
      refine QW.next ?_
      rcases Bool.eq_false_or_eq_true ((r44.2 != 0)) with hc75 | hc75
      · have hF := ite_t hF hc75
        refine CW.cond_t rfl hc75 ?_
        refine CW.seq ?_
        refine CW.region ?_
        refine OW.pure 7 [(6, .bool false)] (by kernel_rfl) ?_
        refine OW.nil rfl ?_
        refine QW.next ?_
        refine CW.ret ?_
        refine QW.then_ret ?_
        obtain rfl := Option.some.inj hF
        refine QW.ret1 rfl rfl ?_
        exact ⟨rfl, hst.keep [] rfl⟩
      · have hF := ite_f hF hc75
        refine CW.cond_f rfl hc75 ?_
        refine CW.skip ?_
        refine QW.next ?_
        refine CW.seq ?_
        refine CW.seq ?_
        refine CW.region ?_
        refine OW.pure 1 [(40, .pointer (some ⟨b50, 0, none⟩))] (by kernel_rfl) ?_
        refine OW.row (α := Bool) (e := 4) (enc := encB) (sz := 1) hst rfl rfl rfl [] rfl (fun _ => rfl) rfl rfl (fun _ => by kernel_rfl) ?_
        intro g93 w94 hst
        refine OW.pure 1 [(42, .slice a2 (p1).length c3)] (by kernel_rfl) ?_
        obtain ⟨u95, hr96, hF⟩ := bind_some' hF
        refine OW.app hst 2 rfl (fun _ => rfl) (fun _ => rfl) rfl rfl rfl rfl rfl rfl (by kernel_rfl) el4 (h1.on hst) (room_le hr96) ?_
        intro v97 w98 hst
        obtain ⟨l99, a100, c101, rfl⟩ := hst.len 2 rfl
        obtain ⟨r102, hr103, hF⟩ := bind_some' hF
        refine OW.fn rfl rfl rfl rfl (by kernel_rfl) (kern_Kern_Set_ok _ b50 (.slice a73 (k48.tasks).length c74) k48 (.slice a100 ((([] : List Bool) ++ p1)).length c101) (([] : List Bool) ++ p1) r102 hr103 (hst.part [0, 1] rfl) (hst.rd 2 rfl (fun _ => rfl) [0, 1] rfl (hst.len 2 rfl).1)) ?_
        rintro e w104 ⟨u106, rfl, hst105⟩
        refine ⟨_, rfl, ?_⟩
        have hst := hst.join (idx := [0, 1]) (rest := [2]) rfl hst105
        obtain ⟨l107, a108, c109, rfl⟩ := hst.len 1 rfl
        refine OW.pure 1 [(45, .bool (r102.1 != 0))] (by kernel_rfl) ?_
        refine OW.nil rfl ?_
        refine QW.next ?_
        rcases Bool.eq_false_or_eq_true ((r102.1 != 0)) with hc110 | hc110
        · have hF := ite_t hF hc110
          refine CW.cond_t rfl hc110 ?_
          refine CW.seq ?_
          obtain ⟨o120, ho121, hF⟩ := bind_some' hF
          refine CW.cutK (fun a w1 => Rep 179 [(6, .bool o120)] a ∧ St w (fp []) w1 []) ?_ ?_
          · refine CW.region ?_
            refine OW.pure 5 [(50, .bool ((((p1).length) : Int) != p0))] (by kernel_rfl) ?_
            refine OW.split 50 rfl (fun hc122 => ?_) (fun hc122 => ?_)
            · have ho121 := ite_t ho121 hc122
              refine OW.pure 1 [(51, .pointer (some ⟨b50, 0, none⟩))] (by kernel_rfl) ?_
              obtain ⟨r123, hr124, ho121⟩ := bind_some' ho121
              refine OW.fn rfl rfl rfl rfl (by kernel_rfl) (kern_Kern_Ready_ok _ b50 (.slice a108 (r102.2.tasks).length c109) r102.2 r123 hr124 (hst.part [0, 1] rfl)) ?_
              rintro e w125 ⟨v127, rfl, hst126⟩
              refine ⟨_, rfl, ?_⟩
              have hst := hst.join (idx := [0, 1]) (rest := [2]) rfl hst126
              obtain ⟨l128, a129, c130, rfl⟩ := hst.len 2 rfl
              refine OW.pure 4 [(6, .bool ((((r123).length) : Int) == 0))] (by kernel_rfl) ?_
              refine OW.nil rfl ?_
              obtain rfl := Option.some.inj ho121
              exact QW.meet (fun a ha => ⟨ha.agrees (by kernel_rfl), hst.keep [] rfl⟩)
            · have ho121 := ite_f ho121 hc122
              refine OW.pure 6 [(6, .bool false)] (by kernel_rfl) ?_
              refine OW.nil rfl ?_
              obtain rfl := Option.some.inj ho121
              exact QW.meet (fun a ha => ⟨ha.agrees (by kernel_rfl), hst.keep [] rfl⟩)
          · rintro a w1 ⟨ha, hst⟩
            refine CW.go ?_ ha
            refine CW.ret ?_
            refine QW.then_ret ?_
            obtain rfl := Option.some.inj hF
            refine QW.ret1 rfl rfl ?_
            exact ⟨rfl, hst.keep [] rfl⟩
        · have hF := ite_f hF hc110
          refine CW.cond_f rfl hc110 ?_
          refine CW.skip ?_
          refine QW.next ?_
          refine CW.seq ?_
          refine CW.region ?_
          refine OW.pure 1 [(56, .pointer (some ⟨b50, 0, none⟩))] (by kernel_rfl) ?_
          obtain ⟨r139, hr140, hF⟩ := bind_some' hF
          refine OW.fn rfl rfl rfl rfl (by kernel_rfl) (kern_Kern_Ready_ok _ b50 (.slice a108 (r102.2.tasks).length c109) r102.2 r139 hr140 (hst.part [0, 1] rfl)) ?_
          rintro e w141 ⟨v143, rfl, hst142⟩
          refine ⟨_, rfl, ?_⟩
          have hst := hst.join (idx := [0, 1]) (rest := [2]) rfl hst142
          obtain ⟨l144, a145, c146, rfl⟩ := hst.len 2 rfl
          refine OW.pure 1 [(9, .slice a145 (r139).length c146)] (by kernel_rfl) ?_
          refine OW.nil rfl ?_
          refine QW.next ?_
          refine CW.seq ?_
          refine CW.region ?_
          refine OW.pure 1 [(10, .int .i64 0)] (by kernel_rfl) ?_
          refine OW.nil rfl ?_
          refine QW.next ?_
          refine CW.seq ?_
          refine CW.seq ?_
          refine CW.region ?_
          refine OW.pure 1 [(11, .int .i64 0)] (by kernel_rfl) ?_
          refine OW.nil rfl ?_
          refine QW.next ?_
          obtain ⟨o240, ho241, hF⟩ := bind_some' hF
          refine CW.cutK (fun a w1 => ∃ (t242 : Int), o240 = .inl t242 ∧ Rep 179 [(2, .int .i64 p2), (7, .pointer (some ⟨b50, 0, none⟩)), (9, .slice a145 (r139).length c146), (10, .int .i64 t242)] a ∧ St w (fp []) w1 [blkI b50 51 [.slice a108 (r102.2.tasks).length c109, .int .i64 r102.2.turns], rowI (.slice a108 (r102.2.tasks).length c109) 55 enc_kern_task 2 r102.2.tasks, rowI (.slice a145 (r139).length c146) 3 (encI .i64) 1 r139]) ?_ ?_
          · refine CW.block ?_
            refine CW.loop (fun n a w1 => ∃ (i305 : Nat) (s304 : Int), i305 + n = (p1).length ∧ Rep 179 [(1, .slice a2 (p1).length c3), (2, .int .i64 p2), (7, .pointer (some ⟨b50, 0, none⟩)), (9, .slice a145 (r139).length c146), (10, .int .i64 s304), (11, .int .i64 (i305 : Int))] a ∧ St w (fp []) w1 [blkI b50 51 [.slice a108 (r102.2.tasks).length c109, .int .i64 r102.2.turns], rowI (.slice a108 (r102.2.tasks).length c109) 55 enc_kern_task 2 r102.2.tasks, rowI (.slice a145 (r139).length c146) 3 (encI .i64) 1 r139] ∧ forN (tappetlaw21_KernPicks_l1 p1 r139) (fun (s304 : Int) => (.inl s304)) n i305 s304 = some o240) ((p1).length) (fun a ha => ⟨0, 0, Nat.zero_add _, ha.agrees (by kernel_rfl), hst.keep [0, 1, 2] rfl, ho241⟩) ?_
            rintro n302 a w1 ⟨i305, s304, hi306, ha, hst, hl303⟩
            refine CW.go ?_ ha
            refine CW.seq ?_
            refine CW.seq ?_
            refine CW.region ?_
            refine OW.pure 4 [(61, .bool (decide ((i305 : Int) < (((p1).length) : Int))))] (by kernel_rfl) ?_
            refine OW.nil rfl ?_
            refine QW.next ?_
            rcases Bool.eq_false_or_eq_true (decide ((i305 : Int) < (((p1).length) : Int))) with hc307 | hc307
            · rcases n302 with _ | n302
              · exact (cnt0 hi306 hc307).elim
              refine CW.cond_t rfl hc307 ?_
              refine CW.skip ?_
              refine QW.next ?_
              refine CW.seq ?_
              refine CW.block ?_
              refine CW.seq ?_
              refine CW.region ?_
              refine OW.pure 2 [(64, .slice a2 (p1).length c3), (65, .int .i64 (i305 : Int))] (by kernel_rfl) ?_
              obtain ⟨x314, hx315, hl303⟩ := bind_some' hl303
              obtain ⟨g317, o318, c319, hv316⟩ := h1.formv (fun _ => ⟨_, rfl⟩) hx315
              refine OW.idx 4 1 rfl rfl rfl rfl hv316 rfl (idx_some hx315).1 (idx_some hx315).2.1 (by kernel_rfl) (by kernel_rfl) ?_
              refine OW.ld rfl rfl rfl rfl (by kernel_rfl) (h1.cellv hst hx315 hv316 0 _ rfl) ?_
              refine OW.nil rfl ?_
              refine QW.next ?_
              rcases Bool.eq_false_or_eq_true (x314) with hc320 | hc320
              · have hl303 := ite_t hl303 hc320
                refine CW.cond_t rfl hc320 ?_
                refine CW.seq ?_
                refine CW.seq ?_
                obtain ⟨o327, ho328, hl303⟩ := bind_some' hl303
                refine CW.cutK (fun a w1 => Rep 179 [(1, .slice a2 (p1).length c3), (2, .int .i64 p2), (7, .pointer (some ⟨b50, 0, none⟩)), (9, .slice a145 (r139).length c146), (10, .int .i64 s304), (11, .int .i64 (i305 : Int)), (79, .bool o327)] a ∧ St w (fp []) w1 [blkI b50 51 [.slice a108 (r102.2.tasks).length c109, .int .i64 r102.2.turns], rowI (.slice a108 (r102.2.tasks).length c109) 55 enc_kern_task 2 r102.2.tasks, rowI (.slice a145 (r139).length c146) 3 (encI .i64) 1 r139]) ?_ ?_
                · refine CW.region ?_
                  refine OW.pure 5 [(72, .bool (decide (s304 ≥ (((r139).length) : Int))))] (by kernel_rfl) ?_
                  refine OW.split 72 rfl (fun hc329 => ?_) (fun hc329 => ?_)
                  · have ho328 := ite_t ho328 hc329
                    refine OW.pure 7 [(79, .bool true)] (by kernel_rfl) ?_
                    refine OW.nil rfl ?_
                    obtain rfl := Option.some.inj ho328
                    exact QW.meet (fun a ha => ⟨ha.agrees (by kernel_rfl), hst.keep [0, 1, 2] rfl⟩)
                  · have ho328 := ite_f ho328 hc329
                    refine OW.pure 2 [(73, .slice a145 (r139).length c146), (74, .int .i64 s304)] (by kernel_rfl) ?_
                    obtain ⟨x330, hx331, ho328⟩ := bind_some' ho328
                    obtain ⟨g333, c334, hv332⟩ := hst.rowv 2 rfl hx331
                    refine OW.idx 3 1 rfl rfl rfl rfl hv332 rfl (idx_some hx331).1 (idx_some hx331).2.1 (by kernel_rfl) (by kernel_rfl) ?_
                    refine OW.ld rfl rfl rfl rfl (by kernel_rfl) (hst.rowc 2 rfl (fun _ => rfl) hx331 hv332 0 _ rfl) ?_
                    refine OW.pure 3 [(79, .bool (x330 != (i305 : Int)))] (by kernel_rfl) ?_
                    refine OW.nil rfl ?_
                    obtain rfl := Option.some.inj ho328
                    exact QW.meet (fun a ha => ⟨ha.agrees (by kernel_rfl), hst.keep [0, 1, 2] rfl⟩)
                · rintro a w1 ⟨ha, hst⟩
                  refine CW.go ?_ ha
                  rcases Bool.eq_false_or_eq_true (o327) with hc335 | hc335
                  · have hl303 := ite_t hl303 hc335
                    refine CW.cond_t rfl hc335 ?_
                    refine CW.seq ?_
                    refine CW.region ?_
                    refine OW.pure 1 [(6, .bool false)] (by kernel_rfl) ?_
                    refine OW.nil rfl ?_
                    refine QW.next ?_
                    refine CW.ret ?_
                    refine QW.then_ret ?_
                    refine QW.block_ret ?_
                    refine QW.then_ret ?_
                    refine QW.then_ret ?_
                    refine QW.block_ret ?_
                    refine QW.then_ret ?_
                    obtain rfl := Option.some.inj hl303
                    obtain rfl := Option.some.inj hF
                    refine QW.ret1 rfl rfl ?_
                    exact ⟨rfl, hst.keep [] rfl⟩
                  · have hl303 := ite_f hl303 hc335
                    refine CW.cond_f rfl hc335 ?_
                    refine CW.skip ?_
                    refine QW.next ?_
                    refine CW.region ?_
                    refine OW.pure 3 [(10, .int .i64 (w64 (s304 + 1)))] (by kernel_rfl) ?_
                    refine OW.nil rfl ?_
                    refine QW.block_normal ?_
                    refine QW.next ?_
                    refine CW.region ?_
                    refine OW.pure 3 [(11, .int .i64 (w64 ((i305 : Int) + 1)))] (by kernel_rfl) ?_
                    refine OW.nil rfl ?_
                    refine QW.say 11 rfl (congrArg (Value.int .i64) (w64_cnt hc307 l1)) ?_
                    exact QW.meet (fun a ha => ⟨n302, Nat.lt_succ_self _, i305 + 1, (w64 (s304 + 1)), cnt_next hi306, ha.agrees (by kernel_rfl), hst.keep [0, 1, 2] rfl, hl303⟩)
              · have hl303 := ite_f hl303 hc320
                refine CW.cond_f rfl hc320 ?_
                refine CW.skip ?_
                refine QW.block_normal ?_
                refine QW.next ?_
                refine CW.region ?_
                refine OW.pure 3 [(11, .int .i64 (w64 ((i305 : Int) + 1)))] (by kernel_rfl) ?_
                refine OW.nil rfl ?_
                refine QW.say 11 rfl (congrArg (Value.int .i64) (w64_cnt hc307 l1)) ?_
                exact QW.meet (fun a ha => ⟨n302, Nat.lt_succ_self _, i305 + 1, s304, cnt_next hi306, ha.agrees (by kernel_rfl), hst.keep [0, 1, 2] rfl, hl303⟩)
            · rcases n302 with _ | n302
              · refine CW.cond_f rfl hc307 ?_
                refine CW.exit ?_
                refine QW.then_exit ?_
                refine QW.then_exit ?_
                refine QW.block_here ?_
                obtain rfl := Option.some.inj hl303
                exact QW.meet (fun a ha => ⟨s304, rfl, ha.agrees (by kernel_rfl), hst.keep [0, 1, 2] rfl⟩)
              · exact (cnt1 hi306 hc307).elim
          · rintro a w1 ⟨t242, rfl, ha, hst⟩
            refine CW.go ?_ ha
            refine CW.seq ?_
            refine CW.seq ?_
            refine CW.region ?_
            refine OW.pure 4 [(85, .bool (t242 != (((r139).length) : Int)))] (by kernel_rfl) ?_
            refine OW.nil rfl ?_
            refine QW.next ?_
            rcases Bool.eq_false_or_eq_true ((t242 != (((r139).length) : Int))) with hc336 | hc336
            · have hF := ite_t hF hc336
              refine CW.cond_t rfl hc336 ?_
              refine CW.seq ?_
              refine CW.region ?_
              refine OW.pure 1 [(6, .bool false)] (by kernel_rfl) ?_
              refine OW.nil rfl ?_
              refine QW.next ?_
              refine CW.ret ?_
              refine QW.then_ret ?_
              obtain rfl := Option.some.inj hF
              refine QW.ret1 rfl rfl ?_
              exact ⟨rfl, hst.keep [] rfl⟩
            · have hF := ite_f hF hc336
              refine CW.cond_f rfl hc336 ?_
              refine CW.skip ?_
              refine QW.next ?_
              refine CW.seq ?_
              refine CW.seq ?_
              refine CW.region ?_
              refine OW.pure 1 [(12, .int .i64 0)] (by kernel_rfl) ?_
              refine OW.nil rfl ?_
              refine QW.next ?_
              obtain ⟨o545, ho546, hF⟩ := bind_some' hF
              refine CW.cutK (fun a w1 => ∃ (t547 : kern_Kern) (v544 : Value), o545 = .inl t547 ∧ Rep 179 [(2, .int .i64 p2), (7, .pointer (some ⟨b50, 0, none⟩)), (9, .slice a145 (r139).length c146), (10, .int .i64 t242)] a ∧ St w (fp []) w1 [blkI b50 51 [v544, .int .i64 t547.turns], rowI v544 55 enc_kern_task 2 t547.tasks, rowI (.slice a145 (r139).length c146) 3 (encI .i64) 1 r139]) ?_ ?_
              · refine CW.block ?_
                refine CW.loop (fun n a w1 => ∃ (s687 : kern_Kern × Int) (v688 : Value), Rep 179 [(2, .int .i64 p2), (7, .pointer (some ⟨b50, 0, none⟩)), (9, .slice a145 (r139).length c146), (10, .int .i64 t242), (12, .int .i64 s687.2)] a ∧ St w (fp []) w1 [blkI b50 51 [v688, .int .i64 s687.1.turns], rowI v688 55 enc_kern_task 2 s687.1.tasks, rowI (.slice a145 (r139).length c146) 3 (encI .i64) 1 r139] ∧ loop (tappetlaw21_KernPicks_l2 r139 t242) n s687 = some o545) fu (fun a ha => ⟨(r102.2, 0), (.slice a108 (r102.2.tasks).length c109), ha.agrees (by kernel_rfl), hst.keep [0, 1, 2] rfl, ho546⟩) ?_
                rintro n685 a w1 ⟨s687, v688, ha, hst, hl686⟩
                rcases n685 with _ | n685
                · exact (loop_zero hl686).elim
                refine CW.go ?_ ha
                obtain ⟨l689, a690, c691, rfl⟩ := hst.len 1 rfl
                refine CW.seq ?_
                refine CW.seq ?_
                refine CW.region ?_
                refine OW.pure 3 [(88, .bool (decide (s687.2 < t242)))] (by kernel_rfl) ?_
                refine OW.nil rfl ?_
                refine QW.next ?_
                rcases Bool.eq_false_or_eq_true (decide (s687.2 < t242)) with hc692 | hc692
                · have hl686 := ite_t hl686 hc692
                  refine CW.cond_t rfl hc692 ?_
                  refine CW.skip ?_
                  refine QW.next ?_
                  refine CW.seq ?_
                  refine CW.block ?_
                  refine CW.seq ?_
                  refine CW.region ?_
                  refine OW.pure 2 [(92, .pointer (some ⟨b50, 0, none⟩)), (93, .int .i64 s687.2)] (by kernel_rfl) ?_
                  obtain ⟨r701, hr702, hl686⟩ := bind_some' hl686
                  refine OW.fn rfl rfl rfl rfl (by kernel_rfl) (kern_Kern_Pick_ok _ b50 (.slice a690 (s687.1.tasks).length c691) s687.1 s687.2 r701 hr702 (hst.part [0, 1] rfl)) ?_
                  rintro e w703 ⟨u705, rfl, hst704⟩
                  refine ⟨_, rfl, ?_⟩
                  have hst := hst.join (idx := [0, 1]) (rest := [2]) rfl hst704
                  obtain ⟨l706, a707, c708, rfl⟩ := hst.len 1 rfl
                  refine OW.pure 5 [(13, .int .i64 r701.1), (14, .bool r701.2.1)] (by kernel_rfl) ?_
                  refine OW.nil rfl ?_
                  refine QW.next ?_
                  refine CW.seq ?_
                  refine CW.region ?_
                  refine OW.pure 4 [(98, .pointer (some ⟨b50, 0, none⟩)), (101, .int .i64 (w64 (s687.2 - t242)))] (by kernel_rfl) ?_
                  obtain ⟨r717, hr718, hl686⟩ := bind_some' hl686
                  refine OW.fn rfl rfl rfl rfl (by kernel_rfl) (kern_Kern_Pick_ok _ b50 (.slice a707 (r701.2.2.tasks).length c708) r701.2.2 (w64 (s687.2 - t242)) r717 hr718 (hst.part [0, 1] rfl)) ?_
                  rintro e w719 ⟨u721, rfl, hst720⟩
                  refine ⟨_, rfl, ?_⟩
                  have hst := hst.join (idx := [0, 1]) (rest := [2]) rfl hst720
                  obtain ⟨l722, a723, c724, rfl⟩ := hst.len 1 rfl
                  refine OW.pure 5 [(15, .int .i64 r717.1), (16, .bool r717.2.1)] (by kernel_rfl) ?_
                  refine OW.nil rfl ?_
                  refine QW.next ?_
                  refine CW.seq ?_
                  obtain ⟨o741, ho742, hl686⟩ := bind_some' hl686
                  refine CW.cutK (fun a w1 => Rep 179 [(2, .int .i64 p2), (7, .pointer (some ⟨b50, 0, none⟩)), (9, .slice a145 (r139).length c146), (10, .int .i64 t242), (12, .int .i64 s687.2), (126, .bool o741)] a ∧ St w (fp []) w1 [blkI b50 51 [.slice a723 (r717.2.2.tasks).length c724, .int .i64 r717.2.2.turns], rowI (.slice a723 (r717.2.2.tasks).length c724) 55 enc_kern_task 2 r717.2.2.tasks, rowI (.slice a145 (r139).length c146) 3 (encI .i64) 1 r139]) ?_ ?_
                  · refine CW.region ?_
                    refine OW.pure 3 [(105, .int .i64 r701.1), (106, .slice a145 (r139).length c146), (107, .int .i64 s687.2)] (by kernel_rfl) ?_
                    obtain ⟨x743, hx744, ho742⟩ := bind_some' ho742
                    obtain ⟨g746, c747, hv745⟩ := hst.rowv 2 rfl hx744
                    refine OW.idx 3 1 rfl rfl rfl rfl hv745 rfl (idx_some hx744).1 (idx_some hx744).2.1 (by kernel_rfl) (by kernel_rfl) ?_
                    refine OW.ld rfl rfl rfl rfl (by kernel_rfl) (hst.rowc 2 rfl (fun _ => rfl) hx744 hv745 0 _ rfl) ?_
                    refine OW.pure 2 [(111, .bool (r701.1 != x743))] (by kernel_rfl) ?_
                    refine OW.split 111 rfl (fun hc748 => ?_) (fun hc748 => ?_)
                    · have ho742 := ite_t ho742 hc748
                      refine OW.pure 15 [(126, .bool true)] (by kernel_rfl) ?_
                      refine OW.nil rfl ?_
                      obtain rfl := Option.some.inj ho742
                      exact QW.meet (fun a ha => ⟨ha.agrees (by kernel_rfl), hst.keep [0, 1, 2] rfl⟩)
                    · have ho742 := ite_f ho742 hc748
                      refine OW.pure 4 [(115, .bool (!r701.2.1))] (by kernel_rfl) ?_
                      refine OW.split 115 rfl (fun hc749 => ?_) (fun hc749 => ?_)
                      · have ho742 := ite_t ho742 hc749
                        refine OW.pure 11 [(126, .bool true)] (by kernel_rfl) ?_
                        refine OW.nil rfl ?_
                        obtain rfl := Option.some.inj ho742
                        exact QW.meet (fun a ha => ⟨ha.agrees (by kernel_rfl), hst.keep [0, 1, 2] rfl⟩)
                      · have ho742 := ite_f ho742 hc749
                        refine OW.pure 3 [(116, .int .i64 r717.1), (117, .slice a145 (r139).length c146), (118, .int .i64 s687.2)] (by kernel_rfl) ?_
                        obtain ⟨g751, c752, hv750⟩ := hst.rowv 2 rfl hx744
                        refine OW.idx 3 1 rfl rfl rfl rfl hv750 rfl (idx_some hx744).1 (idx_some hx744).2.1 (by kernel_rfl) (by kernel_rfl) ?_
                        refine OW.ld rfl rfl rfl rfl (by kernel_rfl) (hst.rowc 2 rfl (fun _ => rfl) hx744 hv750 0 _ rfl) ?_
                        refine OW.pure 3 [(123, .bool (r717.1 != x743))] (by kernel_rfl) ?_
                        refine OW.split 123 rfl (fun hc753 => ?_) (fun hc753 => ?_)
                        · have ho742 := ite_t ho742 hc753
                          refine OW.pure 3 [(126, .bool true)] (by kernel_rfl) ?_
                          refine OW.nil rfl ?_
                          obtain rfl := Option.some.inj ho742
                          exact QW.meet (fun a ha => ⟨ha.agrees (by kernel_rfl), hst.keep [0, 1, 2] rfl⟩)
                        · have ho742 := ite_f ho742 hc753
                          refine OW.pure 3 [(126, .bool (!r717.2.1))] (by kernel_rfl) ?_
                          refine OW.nil rfl ?_
                          obtain rfl := Option.some.inj ho742
                          exact QW.meet (fun a ha => ⟨ha.agrees (by kernel_rfl), hst.keep [0, 1, 2] rfl⟩)
                  · rintro a w1 ⟨ha, hst⟩
                    refine CW.go ?_ ha
                    rcases Bool.eq_false_or_eq_true (o741) with hc754 | hc754
                    · have hl686 := ite_t hl686 hc754
                      refine CW.cond_t rfl hc754 ?_
                      refine CW.seq ?_
                      refine CW.region ?_
                      refine OW.pure 1 [(6, .bool false)] (by kernel_rfl) ?_
                      refine OW.nil rfl ?_
                      refine QW.next ?_
                      refine CW.ret ?_
                      refine QW.block_ret ?_
                      refine QW.then_ret ?_
                      refine QW.then_ret ?_
                      refine QW.block_ret ?_
                      refine QW.then_ret ?_
                      obtain rfl := Option.some.inj hl686
                      obtain rfl := Option.some.inj hF
                      refine QW.ret1 rfl rfl ?_
                      exact ⟨rfl, hst.keep [] rfl⟩
                    · have hl686 := ite_f hl686 hc754
                      refine CW.cond_f rfl hc754 ?_
                      refine CW.skip ?_
                      refine QW.block_normal ?_
                      refine QW.next ?_
                      refine CW.region ?_
                      refine OW.pure 3 [(12, .int .i64 (w64 (s687.2 + 1)))] (by kernel_rfl) ?_
                      refine OW.nil rfl ?_
                      exact QW.meet (fun a ha => ⟨n685, Nat.lt_succ_self _, (r717.2.2, w64 (s687.2 + 1)), (.slice a723 (r717.2.2.tasks).length c724), ha.agrees (by kernel_rfl), hst.keep [0, 1, 2] rfl, hl686⟩)
                · have hl686 := ite_f hl686 hc692
                  refine CW.cond_f rfl hc692 ?_
                  refine CW.exit ?_
                  refine QW.then_exit ?_
                  refine QW.then_exit ?_
                  refine QW.block_here ?_
                  obtain rfl := Option.some.inj hl686
                  exact QW.meet (fun a ha => ⟨s687.1, (.slice a690 (s687.1.tasks).length c691), rfl, ha.agrees (by kernel_rfl), hst.keep [0, 1, 2] rfl⟩)
              · rintro a w1 ⟨t547, v544, rfl, ha, hst⟩
                refine CW.go ?_ ha
                obtain ⟨l758, a759, c760, rfl⟩ := hst.len 1 rfl
                refine CW.seq ?_
                refine CW.region ?_
                refine OW.pure 2 [(128, .pointer (some ⟨b50, 0, none⟩)), (129, .int .i64 p2)] (by kernel_rfl) ?_
                obtain ⟨r769, hr770, hF⟩ := bind_some' hF
                refine OW.fn rfl rfl rfl rfl (by kernel_rfl) (kern_Kern_Pick_ok _ b50 (.slice a759 (t547.tasks).length c760) t547 p2 r769 hr770 (hst.part [0, 1] rfl)) ?_
                rintro e w771 ⟨u773, rfl, hst772⟩
                refine ⟨_, rfl, ?_⟩
                have hst := hst.join (idx := [0, 1]) (rest := [2]) rfl hst772
                obtain ⟨l774, a775, c776, rfl⟩ := hst.len 1 rfl
                refine OW.pure 5 [(17, .int .i64 r769.1), (18, .bool r769.2.1)] (by kernel_rfl) ?_
                refine OW.nil rfl ?_
                refine QW.next ?_
                refine CW.seq ?_
                refine CW.seq ?_
                refine CW.cutK (fun a w1 => Rep 179 [(7, .pointer (some ⟨b50, 0, none⟩)), (9, .slice a145 (r139).length c146), (10, .int .i64 t242), (144, .bool ((!(r769.2.1 == decide (t242 > 0))) || ((t242 == 0) && (r769.1 != 0))))] a ∧ St w (fp []) w1 [blkI b50 51 [.slice a775 (r769.2.2.tasks).length c776, .int .i64 r769.2.2.turns], rowI (.slice a775 (r769.2.2.tasks).length c776) 55 enc_kern_task 2 r769.2.2.tasks, rowI (.slice a145 (r139).length c146) 3 (encI .i64) 1 r139]) ?_ ?_
                · refine CW.region ?_
                  refine OW.pure 5 [(137, .bool (!(r769.2.1 == decide (t242 > 0))))] (by kernel_rfl) ?_
                  refine OW.split 137 rfl (fun hc777 => ?_) (fun hc777 => ?_)
                  · refine OW.pure 7 [(144, .bool true)] (by kernel_rfl) ?_
                    refine OW.nil rfl ?_
                    refine QW.say 144 (v := .bool ((!(r769.2.1 == decide (t242 > 0))) || ((t242 == 0) && (r769.1 != 0)))) rfl (by first | (rw [hc777]; done) | (rw [hc777]; rfl) | simp [hc777]) ?_
                    exact QW.meet (fun a ha => ⟨ha.agrees (by kernel_rfl), hst.keep [0, 1, 2] rfl⟩)
                  · refine OW.pure 3 [(140, .bool (t242 == 0))] (by kernel_rfl) ?_
                    refine OW.split 140 rfl (fun hc778 => ?_) (fun hc778 => ?_)
                    · refine OW.pure 4 [(144, .bool (r769.1 != 0))] (by kernel_rfl) ?_
                      refine OW.nil rfl ?_
                      refine QW.say 144 (v := .bool ((!(r769.2.1 == decide (t242 > 0))) || ((t242 == 0) && (r769.1 != 0)))) rfl (by first | (rw [hc777, hc778]; done) | (rw [hc777, hc778]; rfl) | simp [hc777, hc778]) ?_
                      exact QW.meet (fun a ha => ⟨ha.agrees (by kernel_rfl), hst.keep [0, 1, 2] rfl⟩)
                    · refine OW.pure 4 [(144, .bool false)] (by kernel_rfl) ?_
                      refine OW.nil rfl ?_
                      refine QW.say 144 (v := .bool ((!(r769.2.1 == decide (t242 > 0))) || ((t242 == 0) && (r769.1 != 0)))) rfl (by first | (rw [hc777, hc778]; done) | (rw [hc777, hc778]; rfl) | simp [hc777, hc778]) ?_
                      exact QW.meet (fun a ha => ⟨ha.agrees (by kernel_rfl), hst.keep [0, 1, 2] rfl⟩)
                · rintro a w1 ⟨ha, hst⟩
                  refine CW.go ?_ ha
                  rcases Bool.eq_false_or_eq_true (((!(r769.2.1 == decide (t242 > 0))) || ((t242 == 0) && (r769.1 != 0)))) with hc779 | hc779
                  · have hF := ite_t hF hc779
                    refine CW.cond_t rfl hc779 ?_
                    refine CW.seq ?_
                    refine CW.region ?_
                    refine OW.pure 1 [(6, .bool false)] (by kernel_rfl) ?_
                    refine OW.nil rfl ?_
                    refine QW.next ?_
                    refine CW.ret ?_
                    refine QW.then_ret ?_
                    obtain rfl := Option.some.inj hF
                    refine QW.ret1 rfl rfl ?_
                    exact ⟨rfl, hst.keep [] rfl⟩
                  · have hF := ite_f hF hc779
                    refine CW.cond_f rfl hc779 ?_
                    refine CW.skip ?_
                    refine QW.next ?_
                    refine CW.seq ?_
                    refine CW.seq ?_
                    refine CW.region ?_
                    refine OW.pure 1 [(19, .int .i64 0)] (by kernel_rfl) ?_
                    refine OW.nil rfl ?_
                    refine QW.next ?_
                    obtain ⟨o838, ho839, hF⟩ := bind_some' hF
                    refine CW.cutK (fun a w1 => ∃ (v837 : Value), Rep 179 [(7, .pointer (some ⟨b50, 0, none⟩)), (9, v837), (10, .int .i64 t242)] a ∧ St w (fp []) w1 [blkI b50 51 [.slice a775 (r769.2.2.tasks).length c776, .int .i64 r769.2.2.turns], rowI (.slice a775 (r769.2.2.tasks).length c776) 55 enc_kern_task 2 r769.2.2.tasks, rowI v837 3 (encI .i64) 1 o838]) ?_ ?_
                    · refine CW.block ?_
                      refine CW.loop (fun n a w1 => ∃ (s879 : (List Int) × Int) (v880 : Value), Rep 179 [(7, .pointer (some ⟨b50, 0, none⟩)), (9, v880), (10, .int .i64 t242), (19, .int .i64 s879.2)] a ∧ St w (fp []) w1 [blkI b50 51 [.slice a775 (r769.2.2.tasks).length c776, .int .i64 r769.2.2.turns], rowI (.slice a775 (r769.2.2.tasks).length c776) 55 enc_kern_task 2 r769.2.2.tasks, rowI v880 3 (encI .i64) 1 s879.1] ∧ loop (tappetlaw21_KernPicks_l3 t242) n s879 = some o838) fu (fun a ha => ⟨(r139, 0), (.slice a145 (r139).length c146), ha.agrees (by kernel_rfl), hst.keep [0, 1, 2] rfl, ho839⟩) ?_
                      rintro n877 a w1 ⟨s879, v880, ha, hst, hl878⟩
                      rcases n877 with _ | n877
                      · exact (loop_zero hl878).elim
                      refine CW.go ?_ ha
                      obtain ⟨l881, a882, c883, rfl⟩ := hst.len 2 rfl
                      refine CW.seq ?_
                      refine CW.seq ?_
                      refine CW.region ?_
                      refine OW.pure 3 [(147, .bool (decide (s879.2 < t242)))] (by kernel_rfl) ?_
                      refine OW.nil rfl ?_
                      refine QW.next ?_
                      rcases Bool.eq_false_or_eq_true (decide (s879.2 < t242)) with hc884 | hc884
                      · have hl878 := ite_t hl878 hc884
                        refine CW.cond_t rfl hc884 ?_
                        refine CW.skip ?_
                        refine QW.next ?_
                        refine CW.seq ?_
                        refine CW.block ?_
                        refine CW.region ?_
                        refine OW.pure 2 [(150, .slice a882 (s879.1).length c883), (151, .int .i64 s879.2)] (by kernel_rfl) ?_
                        obtain ⟨x891, hx892, hl878⟩ := bind_some' hl878
                        obtain ⟨g894, c895, hv893⟩ := hst.rowv 2 rfl hx892
                        refine OW.idx 3 1 rfl rfl rfl rfl hv893 rfl (idx_some hx892).1 (idx_some hx892).2.1 (by kernel_rfl) (by kernel_rfl) ?_
                        refine OW.stR hst 2 rfl hv893 (fun _ => rfl) rfl rfl hx892 0 rfl rfl rfl (by kernel_rfl) rfl rfl (-3) rfl ?_
                        intro w896 hst
                        refine OW.nil rfl ?_
                        refine QW.block_normal ?_
                        refine QW.next ?_
                        refine CW.region ?_
                        refine OW.pure 3 [(19, .int .i64 (w64 (s879.2 + 1)))] (by kernel_rfl) ?_
                        refine OW.nil rfl ?_
                        exact QW.meet (fun a ha => ⟨n877, Nat.lt_succ_self _, ((s879.1.set (Int.toNat s879.2) (-3)), w64 (s879.2 + 1)), (.slice a882 (s879.1).length c883), ha.agrees (by kernel_rfl), hst.keep [0, 1, 2] rfl, hl878⟩)
                      · have hl878 := ite_f hl878 hc884
                        refine CW.cond_f rfl hc884 ?_
                        refine CW.exit ?_
                        refine QW.then_exit ?_
                        refine QW.then_exit ?_
                        refine QW.block_here ?_
                        obtain rfl := Option.some.inj hl878
                        exact QW.meet (fun a ha => ⟨(.slice a882 (s879.1).length c883), ha.agrees (by kernel_rfl), hst.keep [0, 1, 2] rfl⟩)
                    · rintro a w1 ⟨v837, ha, hst⟩
                      refine CW.go ?_ ha
                      obtain ⟨l900, a901, c902, rfl⟩ := hst.len 2 rfl
                      refine CW.seq ?_
                      refine CW.region ?_
                      refine OW.pure 1 [(153, .slice a901 (o838).length c902)] (by kernel_rfl) ?_
                      refine OW.row (α := Int) (e := 3) (enc := encI .i64) (sz := 1) hst rfl rfl rfl [1] rfl (fun _ => rfl) rfl rfl (fun _ => by kernel_rfl) ?_
                      intro g912 w913 hst
                      obtain ⟨u914, hr915, hF⟩ := bind_some' hF
                      refine OW.app hst 2 rfl (fun _ => rfl) (fun _ => rfl) rfl rfl rfl rfl rfl rfl (by kernel_rfl) el3 (hst.rd 3 rfl (fun _ => rfl) [] rfl (hst.len 3 rfl).1) (room_le hr915) ?_
                      intro v916 w917 hst
                      obtain ⟨l918, a919, c920, rfl⟩ := hst.len 2 rfl
                      refine OW.pure 1 [(9, .slice a919 ((o838 ++ [1])).length c920)] (by kernel_rfl) ?_
                      refine OW.nil rfl ?_
                      refine QW.next ?_
                      refine CW.seq ?_
                      refine CW.region ?_
                      refine OW.pure 1 [(20, .int .i64 0)] (by kernel_rfl) ?_
                      refine OW.nil rfl ?_
                      refine QW.next ?_
                      refine CW.seq ?_
                      refine CW.seq ?_
                      refine CW.region ?_
                      refine OW.pure 2 [(157, .bool (decide (t242 > 0)))] (by kernel_rfl) ?_
                      refine OW.nil rfl ?_
                      refine QW.next ?_
                      obtain ⟨o922, ho923, hF⟩ := bind_some' hF
                      refine CW.cutK (fun a w1 => Rep 179 [(7, .pointer (some ⟨b50, 0, none⟩)), (9, .slice a919 ((o838 ++ [1])).length c920), (10, .int .i64 t242), (20, .int .i64 o922)] a ∧ St w (fp []) w1 [blkI b50 51 [.slice a775 (r769.2.2.tasks).length c776, .int .i64 r769.2.2.turns], rowI (.slice a775 (r769.2.2.tasks).length c776) 55 enc_kern_task 2 r769.2.2.tasks, rowI (.slice a919 ((o838 ++ [1])).length c920) 3 (encI .i64) 1 (o838 ++ [1])]) ?_ ?_
                      · rcases Bool.eq_false_or_eq_true (decide (t242 > 0)) with hc924 | hc924
                        · have ho923 := ite_t ho923 hc924
                          refine CW.cond_t rfl hc924 ?_
                          refine CW.region ?_
                          refine OW.pure 1 [(20, .int .i64 1)] (by kernel_rfl) ?_
                          refine OW.nil rfl ?_
                          obtain rfl := Option.some.inj ho923
                          exact QW.meet (fun a ha => ⟨ha.agrees (by kernel_rfl), hst.keep [0, 1, 2] rfl⟩)
                        · have ho923 := ite_f ho923 hc924
                          refine CW.cond_f rfl hc924 ?_
                          refine CW.skip ?_
                          obtain rfl := Option.some.inj ho923
                          exact QW.meet (fun a ha => ⟨ha.agrees (by kernel_rfl), hst.keep [0, 1, 2] rfl⟩)
                      · rintro a w1 ⟨ha, hst⟩
                        refine CW.go ?_ ha
                        refine CW.seq ?_
                        obtain ⟨o947, ho948, hF⟩ := bind_some' hF
                        refine CW.cutK (fun a w1 => Rep 179 [(6, .bool o947)] a ∧ St w (fp []) w1 []) ?_ ?_
                        · refine CW.region ?_
                          refine OW.pure 1 [(158, .pointer (some ⟨b50, 0, none⟩))] (by kernel_rfl) ?_
                          obtain ⟨r949, hr950, ho948⟩ := bind_some' ho948
                          refine OW.fn rfl rfl rfl rfl (by kernel_rfl) (kern_Kern_Ready_ok _ b50 (.slice a775 (r769.2.2.tasks).length c776) r769.2.2 r949 hr950 (hst.part [0, 1] rfl)) ?_
                          rintro e w951 ⟨v953, rfl, hst952⟩
                          refine ⟨_, rfl, ?_⟩
                          have hst := hst.join (idx := [0, 1]) (rest := [2]) rfl hst952
                          obtain ⟨l954, a955, c956, rfl⟩ := hst.len 2 rfl
                          refine OW.pure 4 [(163, .bool ((((r949).length) : Int) == t242))] (by kernel_rfl) ?_
                          refine OW.split 163 rfl (fun hc957 => ?_) (fun hc957 => ?_)
                          · have ho948 := ite_t ho948 hc957
                            refine OW.pure 7 [(170, .bool (((((o838 ++ [1])).length) : Int) == (w64 (t242 + 1))))] (by kernel_rfl) ?_
                            refine OW.split 170 rfl (fun hc958 => ?_) (fun hc958 => ?_)
                            · have ho948 := ite_t ho948 hc958
                              refine OW.pure 1 [(171, .pointer (some ⟨b50, 0, none⟩))] (by kernel_rfl) ?_
                              obtain ⟨r959, hr960, ho948⟩ := bind_some' ho948
                              refine OW.fn rfl rfl rfl rfl (by kernel_rfl) (kern_Kern_Turns_ok _ b50 (.slice a775 (r769.2.2.tasks).length c776) r769.2.2 r959 hr960 (hst.part [0, 1] rfl)) ?_
                              rintro e w961 ⟨rfl, hst962⟩
                              refine ⟨_, rfl, ?_⟩
                              have hst := hst.join (idx := [0, 1]) (rest := [2, 3]) rfl hst962
                              refine OW.pure 7 [(6, .bool (r959 == (w64 ((w64 (2 * t242)) + o922))))] (by kernel_rfl) ?_
                              refine OW.nil rfl ?_
                              obtain rfl := Option.some.inj ho948
                              exact QW.meet (fun a ha => ⟨ha.agrees (by kernel_rfl), hst.keep [] rfl⟩)
                            · have ho948 := ite_f ho948 hc958
                              refine OW.pure 9 [(6, .bool false)] (by kernel_rfl) ?_
                              refine OW.nil rfl ?_
                              obtain rfl := Option.some.inj ho948
                              exact QW.meet (fun a ha => ⟨ha.agrees (by kernel_rfl), hst.keep [] rfl⟩)
                          · have ho948 := ite_f ho948 hc957
                            refine OW.pure 16 [(6, .bool false)] (by kernel_rfl) ?_
                            refine OW.nil rfl ?_
                            obtain rfl := Option.some.inj ho948
                            exact QW.meet (fun a ha => ⟨ha.agrees (by kernel_rfl), hst.keep [] rfl⟩)
                        · rintro a w1 ⟨ha, hst⟩
                          refine CW.go ?_ ha
                          refine CW.ret ?_
                          obtain rfl := Option.some.inj hF
                          refine QW.ret1 rfl rfl ?_
                          exact ⟨rfl, hst.keep [] rfl⟩
    · have hF := ocase_none hF he71
      refine ⟨_, rfl, ?_⟩
      have hst := hst.join (idx := []) (rest := []) rfl hst47
      refine OW.pure 5 [(7, .pointer none), (8, .int .i64 r44.2)] (by kernel_rfl) ?_
      refine OW.nil rfl ?_
      refine QW.next ?_
      refine CW.seq ?_
      refine CW.seq ?_
      refine CW.region ?_
      refine OW.pure 6 [(33, .bool true)] (by kernel_rfl) ?_
      refine OW.nil rfl ?_
      refine QW.next ?_
      refine CW.cond_t rfl rfl ?_
      refine CW.seq ?_
      refine CW.region ?_
      refine OW.pure 7 [(6, .bool (r44.2 == 2))] (by kernel_rfl) ?_
      refine OW.nil rfl ?_
      refine QW.next ?_
      refine CW.ret ?_
      refine QW.then_ret ?_
      obtain rfl := Option.some.inj hF
      refine QW.ret1 rfl rfl ?_
      exact ⟨rfl, hst.keep [] rfl⟩

set_option maxRecDepth 10000 in
theorem tappetlaw21_KernAgain_ok (w : World) (fu : Nat) (p0 : Int) (v1 : Value) (p1 : List Bool) (p2 : Int) (r : Bool) (hF : tappetlaw21_KernAgain fu p0 p1 p2 = some r)
    (hst : St w (fp []) w []) (h1 : Rd w (fp []) v1 encB 1 p1) :
    Calls Try.prog 5 [.int .i64 p0, v1, .int .i64 p2].toArray w (fun e w' => e = .returned (.bool r) ∧ St w (fp []) w' []) := by
  refine CW.start (N := 140) Try.func5 rfl rfl rfl ?_
  obtain ⟨l1, a2, c3, rfl⟩ := h1.len
  refine CW.seq ?_
  refine CW.region ?_
  refine OW.pure 1 [] (by kernel_rfl) ?_
  refine OW.nil rfl ?_
  refine QW.next ?_
  refine CW.seq ?_
  refine CW.seq ?_
  refine CW.region ?_
  obtain ⟨r8, hr9, hF⟩ := bind_some' hF
  refine OW.fn rfl rfl rfl rfl (by kernel_rfl) (tappetlaw21_awake_ok _ r8 hr9 (hst.part [] rfl)) ?_
  rintro e w10 ⟨rfl, hst11⟩
  refine ⟨_, rfl, ?_⟩
  have hst := hst.join (idx := []) (rest := []) rfl hst11
  refine OW.pure 1 [(23, .bool (!r8))] (by kernel_rfl) ?_
  refine OW.nil rfl ?_
  refine QW.next ?_
  rcases Bool.eq_false_or_eq_true ((!r8)) with hc12 | hc12
  · have hF := ite_t hF hc12
    refine CW.cond_t rfl hc12 ?_
    refine CW.seq ?_
    refine CW.region ?_
    refine OW.pure 1 [(6, .bool false)] (by kernel_rfl) ?_
    refine OW.nil rfl ?_
    refine QW.next ?_
    refine CW.ret ?_
    refine QW.then_ret ?_
    obtain rfl := Option.some.inj hF
    refine QW.ret1 rfl rfl ?_
    exact ⟨rfl, hst.keep [] rfl⟩
  · have hF := ite_f hF hc12
    refine CW.cond_f rfl hc12 ?_
    refine CW.skip ?_
    refine QW.next ?_
    refine CW.seq ?_
    refine CW.region ?_
    refine OW.pure 1 [(25, .int .i64 p0)] (by kernel_rfl) ?_
    obtain ⟨r44, hr45, hF⟩ := bind_some' hF
    refine OW.fn rfl rfl rfl rfl (by kernel_rfl) (kern_New_ok _ p0 r44 hr45 (hst.part [] rfl)) ?_
    rintro e w46 (⟨k48, b50, v51, he49, rfl, hst47⟩ | ⟨he71, rfl, hst47⟩)
    · have hF := ocase_some hF he49
      refine ⟨_, rfl, ?_⟩
      have hst := hst.join (idx := []) (rest := []) rfl hst47
      obtain ⟨l72, a73, c74, rfl⟩ := hst.len 1 rfl
      refine OW.pure 5 [(7, .pointer (some ⟨b50, 0, none⟩)), (8, .int .i64 r44.2)] (by kernel_rfl) ?_
      refine OW.nil rfl ?_
      refine QW.next ?_
      refine CW.seq ?_
      refine CW.region ?_
      refine OW.pure 1 [(30, .int .i64 p0)] (by kernel_rfl) ?_
      obtain ⟨r106, hr107, hF⟩ := bind_some' hF
      refine OW.fn rfl rfl rfl rfl (by kernel_rfl) (kern_New_ok _ p0 r106 hr107 (hst.part [] rfl)) ?_
      rintro e w108 (⟨k110, b112, v113, he111, rfl, hst109⟩ | ⟨he133, rfl, hst109⟩)
      · have hF := ocase_some hF he111
        refine ⟨_, rfl, ?_⟩
        have hst := hst.join (idx := []) (rest := [0, 1]) rfl hst109
        obtain ⟨l134, a135, c136, rfl⟩ := hst.len 1 rfl
        refine OW.pure 5 [(9, .pointer (some ⟨b112, 0, none⟩)), (10, .int .i64 r106.2)] (by kernel_rfl) ?_
        refine OW.nil rfl ?_
        refine QW.next ?_
        refine CW.seq ?_
        refine CW.seq ?_
        refine CW.region ?_
        refine OW.pure 6 [(39, .bool false)] (by kernel_rfl) ?_
        refine OW.nil rfl ?_
        refine QW.next ?_
        refine CW.cond_f rfl rfl ?_
        refine CW.skip ?_
        refine QW.next ?_
        refine CW.seq ?_
        refine CW.seq ?_
        obtain ⟨o164, ho165, hF⟩ := bind_some' hF
        refine CW.cutK (fun a w1 => ∃ (v162 : Value) (v163 : Value), Rep 140 [(0, .int .i64 p0), (1, .slice a2 (p1).length c3), (2, .int .i64 p2), (7, .pointer (some ⟨b50, 0, none⟩)), (9, .pointer (some ⟨b112, 0, none⟩)), (63, .bool o164.2.2)] a ∧ St w (fp []) w1 [blkI b50 51 [v162, .int .i64 o164.1.turns], rowI v162 55 enc_kern_task 2 o164.1.tasks, blkI b112 51 [v163, .int .i64 o164.2.1.turns], rowI v163 55 enc_kern_task 2 o164.2.1.tasks]) ?_ ?_
        · refine CW.region ?_
          refine OW.pure 2 [(54, .pointer (some ⟨b50, 0, none⟩)), (55, .slice a2 (p1).length c3)] (by kernel_rfl) ?_
          obtain ⟨r166, hr167, ho165⟩ := bind_some' ho165
          refine OW.fn rfl rfl rfl rfl (by kernel_rfl) (kern_Kern_Set_ok _ b50 (.slice a73 (k48.tasks).length c74) k48 (.slice a2 (p1).length c3) p1 r166 hr167 (hst.part [2, 3] rfl) (h1.give hst [2, 3])) ?_
          rintro e w168 ⟨u170, rfl, hst169⟩
          refine ⟨_, rfl, ?_⟩
          have hst := hst.join (idx := [2, 3]) (rest := [0, 1]) rfl hst169
          obtain ⟨l171, a172, c173, rfl⟩ := hst.len 1 rfl
          refine OW.pure 2 [(58, .bool (r166.1 != 0))] (by kernel_rfl) ?_
          refine OW.split 58 rfl (fun hc174 => ?_) (fun hc174 => ?_)
          · have ho165 := ite_t ho165 hc174
            refine OW.pure 5 [(63, .bool true)] (by kernel_rfl) ?_
            refine OW.nil rfl ?_
            obtain rfl := Option.some.inj ho165
            exact QW.meet (fun a ha => ⟨(.slice a172 (r166.2.tasks).length c173), (.slice a135 (k110.tasks).length c136), ha.agrees (by kernel_rfl), hst.keep [0, 1, 2, 3] rfl⟩)
          · have ho165 := ite_f ho165 hc174
            refine OW.pure 2 [(59, .pointer (some ⟨b112, 0, none⟩)), (60, .slice a2 (p1).length c3)] (by kernel_rfl) ?_
            obtain ⟨r177, hr178, ho165⟩ := bind_some' ho165
            refine OW.fn rfl rfl rfl rfl (by kernel_rfl) (kern_Kern_Set_ok _ b112 (.slice a135 (k110.tasks).length c136) k110 (.slice a2 (p1).length c3) p1 r177 hr178 (hst.part [2, 3] rfl) (h1.give hst [2, 3])) ?_
            rintro e w179 ⟨u181, rfl, hst180⟩
            refine ⟨_, rfl, ?_⟩
            have hst := hst.join (idx := [2, 3]) (rest := [0, 1]) rfl hst180
            obtain ⟨l182, a183, c184, rfl⟩ := hst.len 1 rfl
            refine OW.pure 2 [(63, .bool (r177.1 != 0))] (by kernel_rfl) ?_
            refine OW.nil rfl ?_
            obtain rfl := Option.some.inj ho165
            exact QW.meet (fun a ha => ⟨(.slice a172 (r166.2.tasks).length c173), (.slice a183 (r177.2.tasks).length c184), ha.agrees (by kernel_rfl), hst.keep [2, 3, 0, 1] rfl⟩)
        · rintro a w1 ⟨v162, v163, ha, hst⟩
          refine CW.go ?_ ha
          obtain ⟨l187, a188, c189, rfl⟩ := hst.len 1 rfl
          obtain ⟨l190, a191, c192, rfl⟩ := hst.len 3 rfl
          rcases Bool.eq_false_or_eq_true (o164.2.2) with hc193 | hc193
          · have hF := ite_t hF hc193
            refine CW.cond_t rfl hc193 ?_
            refine CW.seq ?_
            refine CW.region ?_
            refine OW.pure 5 [(6, .bool ((((p1).length) : Int) != p0))] (by kernel_rfl) ?_
            refine OW.nil rfl ?_
            refine QW.next ?_
            refine CW.ret ?_
            refine QW.then_ret ?_
            obtain rfl := Option.some.inj hF
            refine QW.ret1 rfl rfl ?_
            exact ⟨rfl, hst.keep [] rfl⟩
          · have hF := ite_f hF hc193
            refine CW.cond_f rfl hc193 ?_
            refine CW.skip ?_
            refine QW.next ?_
            refine CW.seq ?_
            refine CW.region ?_
            refine OW.pure 1 [(68, .pointer (some ⟨b50, 0, none⟩))] (by kernel_rfl) ?_
            obtain ⟨r202, hr203, hF⟩ := bind_some' hF
            refine OW.fn rfl rfl rfl rfl (by kernel_rfl) (kern_Kern_Ready_ok _ b50 (.slice a188 (o164.1.tasks).length c189) o164.1 r202 hr203 (hst.part [0, 1] rfl)) ?_
            rintro e w204 ⟨v206, rfl, hst205⟩
            refine ⟨_, rfl, ?_⟩
            have hst := hst.join (idx := [0, 1]) (rest := [2, 3]) rfl hst205
            obtain ⟨l207, a208, c209, rfl⟩ := hst.len 2 rfl
            refine OW.pure 1 [(11, .slice a208 (r202).length c209)] (by kernel_rfl) ?_
            refine OW.nil rfl ?_
            refine QW.next ?_
            refine CW.seq ?_
            refine CW.seq ?_
            refine CW.region ?_
            refine OW.pure 3 [(72, .bool ((((r202).length) : Int) == 0))] (by kernel_rfl) ?_
            refine OW.nil rfl ?_
            refine QW.next ?_
            rcases Bool.eq_false_or_eq_true (((((r202).length) : Int) == 0)) with hc210 | hc210
            · have hF := ite_t hF hc210
              refine CW.cond_t rfl hc210 ?_
              refine CW.seq ?_
              refine CW.region ?_
              refine OW.pure 1 [(6, .bool true)] (by kernel_rfl) ?_
              refine OW.nil rfl ?_
              refine QW.next ?_
              refine CW.ret ?_
              refine QW.then_ret ?_
              obtain rfl := Option.some.inj hF
              refine QW.ret1 rfl rfl ?_
              exact ⟨rfl, hst.keep [] rfl⟩
            · have hF := ite_f hF hc210
              refine CW.cond_f rfl hc210 ?_
              refine CW.skip ?_
              refine QW.next ?_
              refine CW.seq ?_
              refine CW.seq ?_
              refine CW.region ?_
              refine OW.pure 1 [(12, .int .i64 0)] (by kernel_rfl) ?_
              refine OW.nil rfl ?_
              refine QW.next ?_
              obtain ⟨o337, ho338, hF⟩ := bind_some' hF
              refine CW.cutK (fun a w1 => ∃ (t339 : Unit), o337 = .inl t339 ∧ Rep 140 [(2, .int .i64 p2), (9, .pointer (some ⟨b112, 0, none⟩)), (11, .slice a208 (r202).length c209)] a ∧ St w (fp []) w1 [blkI b112 51 [.slice a191 (o164.2.1.tasks).length c192, .int .i64 o164.2.1.turns], rowI (.slice a191 (o164.2.1.tasks).length c192) 55 enc_kern_task 2 o164.2.1.tasks, rowI (.slice a208 (r202).length c209) 3 (encI .i64) 1 r202]) ?_ ?_
              · refine CW.block ?_
                refine CW.loop (fun n a w1 => ∃ (s423 : kern_Kern × Int) (v424 : Value), Rep 140 [(2, .int .i64 p2), (7, .pointer (some ⟨b50, 0, none⟩)), (9, .pointer (some ⟨b112, 0, none⟩)), (11, .slice a208 (r202).length c209), (12, .int .i64 s423.2)] a ∧ St w (fp []) w1 [blkI b50 51 [v424, .int .i64 s423.1.turns], rowI v424 55 enc_kern_task 2 s423.1.tasks, blkI b112 51 [.slice a191 (o164.2.1.tasks).length c192, .int .i64 o164.2.1.turns], rowI (.slice a191 (o164.2.1.tasks).length c192) 55 enc_kern_task 2 o164.2.1.tasks, rowI (.slice a208 (r202).length c209) 3 (encI .i64) 1 r202] ∧ loop (tappetlaw21_KernAgain_l1 r202) n s423 = some o337) fu (fun a ha => ⟨(o164.1, 0), (.slice a188 (o164.1.tasks).length c189), ha.agrees (by kernel_rfl), hst.keep [0, 1, 3, 4, 2] rfl, ho338⟩) ?_
                rintro n421 a w1 ⟨s423, v424, ha, hst, hl422⟩
                rcases n421 with _ | n421
                · exact (loop_zero hl422).elim
                refine CW.go ?_ ha
                obtain ⟨l425, a426, c427, rfl⟩ := hst.len 1 rfl
                refine CW.seq ?_
                refine CW.seq ?_
                refine CW.region ?_
                refine OW.pure 5 [(77, .bool (decide (s423.2 < (w64 (3 * (((r202).length) : Int))))))] (by kernel_rfl) ?_
                refine OW.nil rfl ?_
                refine QW.next ?_
                rcases Bool.eq_false_or_eq_true (decide (s423.2 < (w64 (3 * (((r202).length) : Int))))) with hc428 | hc428
                · have hl422 := ite_t hl422 hc428
                  refine CW.cond_t rfl hc428 ?_
                  refine CW.skip ?_
                  refine QW.next ?_
                  refine CW.seq ?_
                  refine CW.block ?_
                  refine CW.seq ?_
                  refine CW.region ?_
                  refine OW.pure 1 [(81, .pointer (some ⟨b50, 0, none⟩))] (by kernel_rfl) ?_
                  obtain ⟨r437, hr438, hl422⟩ := bind_some' hl422
                  refine OW.fn rfl rfl rfl rfl (by kernel_rfl) (kern_Kern_Fair_ok _ b50 (.slice a426 (s423.1.tasks).length c427) s423.1 r437 hr438 (hst.part [0, 1] rfl)) ?_
                  rintro e w439 ⟨u441, rfl, hst440⟩
                  refine ⟨_, rfl, ?_⟩
                  have hst := hst.join (idx := [0, 1]) (rest := [2, 3, 4]) rfl hst440
                  obtain ⟨l442, a443, c444, rfl⟩ := hst.len 1 rfl
                  refine OW.pure 5 [(13, .int .i64 r437.1), (14, .bool r437.2.1)] (by kernel_rfl) ?_
                  refine OW.nil rfl ?_
                  refine QW.next ?_
                  refine CW.seq ?_
                  obtain ⟨o453, ho454, hl422⟩ := bind_some' hl422
                  refine CW.cutK (fun a w1 => Rep 140 [(2, .int .i64 p2), (7, .pointer (some ⟨b50, 0, none⟩)), (9, .pointer (some ⟨b112, 0, none⟩)), (11, .slice a208 (r202).length c209), (12, .int .i64 s423.2), (97, .bool o453)] a ∧ St w (fp []) w1 [blkI b50 51 [.slice a443 (r437.2.2.tasks).length c444, .int .i64 r437.2.2.turns], rowI (.slice a443 (r437.2.2.tasks).length c444) 55 enc_kern_task 2 r437.2.2.tasks, blkI b112 51 [.slice a191 (o164.2.1.tasks).length c192, .int .i64 o164.2.1.turns], rowI (.slice a191 (o164.2.1.tasks).length c192) 55 enc_kern_task 2 o164.2.1.tasks, rowI (.slice a208 (r202).length c209) 3 (encI .i64) 1 r202]) ?_ ?_
                  · refine CW.region ?_
                    refine OW.pure 3 [(87, .bool (!r437.2.1))] (by kernel_rfl) ?_
                    refine OW.split 87 rfl (fun hc455 => ?_) (fun hc455 => ?_)
                    · have ho454 := ite_t ho454 hc455
                      refine OW.pure 10 [(97, .bool true)] (by kernel_rfl) ?_
                      refine OW.nil rfl ?_
                      obtain rfl := Option.some.inj ho454
                      exact QW.meet (fun a ha => ⟨ha.agrees (by kernel_rfl), hst.keep [0, 1, 2, 3, 4] rfl⟩)
                    · have ho454 := ite_f ho454 hc455
                      refine OW.pure 5 [(88, .int .i64 r437.1), (89, .slice a208 (r202).length c209), (90, .int .i64 s423.2), (92, .int .i64 (((r202).length) : Int))] (by kernel_rfl) ?_
                      obtain ⟨u456, hz457, ho454⟩ := bind_some' ho454
                      refine OW.rem rfl rfl rfl rfl rfl (nz_ne hz457) ?_
                      obtain ⟨x458, hx459, ho454⟩ := bind_some' ho454
                      obtain ⟨g461, c462, hv460⟩ := hst.rowv 4 rfl hx459
                      refine OW.idx 3 1 rfl rfl rfl rfl hv460 rfl (idx_some hx459).1 (idx_some hx459).2.1 (by kernel_rfl) (by kernel_rfl) ?_
                      refine OW.ld rfl rfl rfl rfl (by kernel_rfl) (hst.rowc 4 rfl (fun _ => rfl) hx459 hv460 0 _ rfl) ?_
                      refine OW.pure 2 [(97, .bool (r437.1 != x458))] (by kernel_rfl) ?_
                      refine OW.nil rfl ?_
                      obtain rfl := Option.some.inj ho454
                      exact QW.meet (fun a ha => ⟨ha.agrees (by kernel_rfl), hst.keep [0, 1, 2, 3, 4] rfl⟩)
                  · rintro a w1 ⟨ha, hst⟩
                    refine CW.go ?_ ha
                    rcases Bool.eq_false_or_eq_true (o453) with hc463 | hc463
                    · have hl422 := ite_t hl422 hc463
                      refine CW.cond_t rfl hc463 ?_
                      refine CW.seq ?_
                      refine CW.region ?_
                      refine OW.pure 1 [(6, .bool false)] (by kernel_rfl) ?_
                      refine OW.nil rfl ?_
                      refine QW.next ?_
                      refine CW.ret ?_
                      refine QW.block_ret ?_
                      refine QW.then_ret ?_
                      refine QW.then_ret ?_
                      refine QW.block_ret ?_
                      refine QW.then_ret ?_
                      obtain rfl := Option.some.inj hl422
                      obtain rfl := Option.some.inj hF
                      refine QW.ret1 rfl rfl ?_
                      exact ⟨rfl, hst.keep [] rfl⟩
                    · have hl422 := ite_f hl422 hc463
                      refine CW.cond_f rfl hc463 ?_
                      refine CW.skip ?_
                      refine QW.block_normal ?_
                      refine QW.next ?_
                      refine CW.region ?_
                      refine OW.pure 3 [(12, .int .i64 (w64 (s423.2 + 1)))] (by kernel_rfl) ?_
                      refine OW.nil rfl ?_
                      exact QW.meet (fun a ha => ⟨n421, Nat.lt_succ_self _, (r437.2.2, w64 (s423.2 + 1)), (.slice a443 (r437.2.2.tasks).length c444), ha.agrees (by kernel_rfl), hst.keep [0, 1, 2, 3, 4] rfl, hl422⟩)
                · have hl422 := ite_f hl422 hc428
                  refine CW.cond_f rfl hc428 ?_
                  refine CW.exit ?_
                  refine QW.then_exit ?_
                  refine QW.then_exit ?_
                  refine QW.block_here ?_
                  obtain rfl := Option.some.inj hl422
                  exact QW.meet (fun a ha => ⟨(), rfl, ha.agrees (by kernel_rfl), hst.keep [2, 3, 4] rfl⟩)
              · rintro a w1 ⟨t339, rfl, ha, hst⟩
                refine CW.go ?_ ha
                refine CW.seq ?_
                refine CW.region ?_
                refine OW.pure 3 [(98, .int .i64 p2), (100, .int .i64 (((r202).length) : Int))] (by kernel_rfl) ?_
                obtain ⟨u468, hz469, hF⟩ := bind_some' hF
                refine OW.rem rfl rfl rfl rfl rfl (nz_ne hz469) ?_
                refine OW.pure 1 [(15, .int .i64 (p2.tmod (((r202).length) : Int)))] (by kernel_rfl) ?_
                refine OW.nil rfl ?_
                refine QW.next ?_
                refine CW.seq ?_
                refine CW.region ?_
                refine OW.pure 2 [(103, .pointer (some ⟨b112, 0, none⟩)), (104, .int .i64 p2)] (by kernel_rfl) ?_
                obtain ⟨r478, hr479, hF⟩ := bind_some' hF
                refine OW.fn rfl rfl rfl rfl (by kernel_rfl) (kern_Kern_Pick_ok _ b112 (.slice a191 (o164.2.1.tasks).length c192) o164.2.1 p2 r478 hr479 (hst.part [0, 1] rfl)) ?_
                rintro e w480 ⟨u482, rfl, hst481⟩
                refine ⟨_, rfl, ?_⟩
                have hst := hst.join (idx := [0, 1]) (rest := [2]) rfl hst481
                obtain ⟨l483, a484, c485, rfl⟩ := hst.len 1 rfl
                refine OW.pure 5 [(16, .int .i64 r478.1), (17, .bool r478.2.1)] (by kernel_rfl) ?_
                refine OW.nil rfl ?_
                refine QW.next ?_
                refine CW.seq ?_
                refine CW.region ?_
                refine OW.pure 2 [(109, .pointer (some ⟨b112, 0, none⟩)), (110, .int .i64 (p2.tmod (((r202).length) : Int)))] (by kernel_rfl) ?_
                obtain ⟨r494, hr495, hF⟩ := bind_some' hF
                refine OW.fn rfl rfl rfl rfl (by kernel_rfl) (kern_Kern_Pick_ok _ b112 (.slice a484 (r478.2.2.tasks).length c485) r478.2.2 (p2.tmod (((r202).length) : Int)) r494 hr495 (hst.part [0, 1] rfl)) ?_
                rintro e w496 ⟨u498, rfl, hst497⟩
                refine ⟨_, rfl, ?_⟩
                have hst := hst.join (idx := [0, 1]) (rest := [2]) rfl hst497
                obtain ⟨l499, a500, c501, rfl⟩ := hst.len 1 rfl
                refine OW.pure 5 [(18, .int .i64 r494.1), (19, .bool r494.2.1)] (by kernel_rfl) ?_
                refine OW.nil rfl ?_
                refine QW.next ?_
                refine CW.seq ?_
                refine CW.region ?_
                refine OW.pure 5 [(115, .pointer (some ⟨b112, 0, none⟩)), (119, .int .i64 (w64 ((p2.tmod (((r202).length) : Int)) + (((r202).length) : Int))))] (by kernel_rfl) ?_
                obtain ⟨r510, hr511, hF⟩ := bind_some' hF
                refine OW.fn rfl rfl rfl rfl (by kernel_rfl) (kern_Kern_Pick_ok _ b112 (.slice a500 (r494.2.2.tasks).length c501) r494.2.2 (w64 ((p2.tmod (((r202).length) : Int)) + (((r202).length) : Int))) r510 hr511 (hst.part [0, 1] rfl)) ?_
                rintro e w512 ⟨u514, rfl, hst513⟩
                refine ⟨_, rfl, ?_⟩
                have hst := hst.join (idx := [0, 1]) (rest := [2]) rfl hst513
                obtain ⟨l515, a516, c517, rfl⟩ := hst.len 1 rfl
                refine OW.pure 5 [(20, .int .i64 r510.1), (21, .bool r510.2.1)] (by kernel_rfl) ?_
                refine OW.nil rfl ?_
                refine QW.next ?_
                refine CW.seq ?_
                refine CW.cutK (fun a w1 => Rep 140 [(6, .bool ((((r478.2.1 && r494.2.1) && r510.2.1) && (r478.1 == r494.1)) && (r494.1 == r510.1)))] a ∧ St w (fp []) w1 []) ?_ ?_
                · refine CW.region ?_
                  refine OW.pure 2 [(124, .bool r478.2.1)] (by kernel_rfl) ?_
                  refine OW.split 124 rfl (fun hc518 => ?_) (fun hc518 => ?_)
                  · refine OW.pure 3 [(127, .bool r494.2.1)] (by kernel_rfl) ?_
                    refine OW.split 127 rfl (fun hc519 => ?_) (fun hc519 => ?_)
                    · refine OW.pure 3 [(130, .bool r510.2.1)] (by kernel_rfl) ?_
                      refine OW.split 130 rfl (fun hc520 => ?_) (fun hc520 => ?_)
                      · refine OW.pure 5 [(135, .bool (r478.1 == r494.1))] (by kernel_rfl) ?_
                        refine OW.split 135 rfl (fun hc521 => ?_) (fun hc521 => ?_)
                        · refine OW.pure 5 [(6, .bool (r494.1 == r510.1))] (by kernel_rfl) ?_
                          refine OW.nil rfl ?_
                          refine QW.say 6 (v := .bool ((((r478.2.1 && r494.2.1) && r510.2.1) && (r478.1 == r494.1)) && (r494.1 == r510.1))) rfl (by first | (rw [hc518, hc519, hc520, hc521]; done) | (rw [hc518, hc519, hc520, hc521]; rfl) | simp [hc518, hc519, hc520, hc521]) ?_
                          exact QW.meet (fun a ha => ⟨ha.agrees (by kernel_rfl), hst.keep [] rfl⟩)
                        · refine OW.pure 5 [(6, .bool false)] (by kernel_rfl) ?_
                          refine OW.nil rfl ?_
                          refine QW.say 6 (v := .bool ((((r478.2.1 && r494.2.1) && r510.2.1) && (r478.1 == r494.1)) && (r494.1 == r510.1))) rfl (by first | (rw [hc518, hc519, hc520, hc521]; done) | (rw [hc518, hc519, hc520, hc521]; rfl) | simp [hc518, hc519, hc520, hc521]) ?_
                          exact QW.meet (fun a ha => ⟨ha.agrees (by kernel_rfl), hst.keep [] rfl⟩)
                      · refine OW.pure 10 [(6, .bool false)] (by kernel_rfl) ?_
                        refine OW.nil rfl ?_
                        refine QW.say 6 (v := .bool ((((r478.2.1 && r494.2.1) && r510.2.1) && (r478.1 == r494.1)) && (r494.1 == r510.1))) rfl (by first | (rw [hc518, hc519, hc520]; done) | (rw [hc518, hc519, hc520]; rfl) | simp [hc518, hc519, hc520]) ?_
                        exact QW.meet (fun a ha => ⟨ha.agrees (by kernel_rfl), hst.keep [] rfl⟩)
                    · refine OW.pure 13 [(6, .bool false)] (by kernel_rfl) ?_
                      refine OW.nil rfl ?_
                      refine QW.say 6 (v := .bool ((((r478.2.1 && r494.2.1) && r510.2.1) && (r478.1 == r494.1)) && (r494.1 == r510.1))) rfl (by first | (rw [hc518, hc519]; done) | (rw [hc518, hc519]; rfl) | simp [hc518, hc519]) ?_
                      exact QW.meet (fun a ha => ⟨ha.agrees (by kernel_rfl), hst.keep [] rfl⟩)
                  · refine OW.pure 16 [(6, .bool false)] (by kernel_rfl) ?_
                    refine OW.nil rfl ?_
                    refine QW.say 6 (v := .bool ((((r478.2.1 && r494.2.1) && r510.2.1) && (r478.1 == r494.1)) && (r494.1 == r510.1))) rfl (by first | (rw [hc518]; done) | (rw [hc518]; rfl) | simp [hc518]) ?_
                    exact QW.meet (fun a ha => ⟨ha.agrees (by kernel_rfl), hst.keep [] rfl⟩)
                · rintro a w1 ⟨ha, hst⟩
                  refine CW.go ?_ ha
                  refine CW.ret ?_
                  obtain rfl := Option.some.inj hF
                  refine QW.ret1 rfl rfl ?_
                  exact ⟨rfl, hst.keep [] rfl⟩
      · have hF := ocase_none hF he133
        refine ⟨_, rfl, ?_⟩
        have hst := hst.join (idx := []) (rest := [0, 1]) rfl hst109
        refine OW.pure 5 [(9, .pointer none), (10, .int .i64 r106.2)] (by kernel_rfl) ?_
        refine OW.nil rfl ?_
        refine QW.next ?_
        refine CW.seq ?_
        refine CW.seq ?_
        refine CW.region ?_
        refine OW.pure 6 [(39, .bool true)] (by kernel_rfl) ?_
        refine OW.nil rfl ?_
        refine QW.next ?_
        refine CW.cond_t rfl rfl ?_
        refine CW.seq ?_
        refine CW.region ?_
        refine OW.pure 15 [(6, .bool false)] (by kernel_rfl) ?_
        refine OW.nil rfl ?_
        refine QW.next ?_
        refine CW.ret ?_
        refine QW.then_ret ?_
        obtain rfl := Option.some.inj hF
        refine QW.ret1 rfl rfl ?_
        exact ⟨rfl, hst.keep [] rfl⟩
    · have hF := ocase_none hF he71
      refine ⟨_, rfl, ?_⟩
      have hst := hst.join (idx := []) (rest := []) rfl hst47
      refine OW.pure 5 [(7, .pointer none), (8, .int .i64 r44.2)] (by kernel_rfl) ?_
      refine OW.nil rfl ?_
      refine QW.next ?_
      refine CW.seq ?_
      refine CW.region ?_
      refine OW.pure 1 [(30, .int .i64 p0)] (by kernel_rfl) ?_
      obtain ⟨r553, hr554, hF⟩ := bind_some' hF
      refine OW.fn rfl rfl rfl rfl (by kernel_rfl) (kern_New_ok _ p0 r553 hr554 (hst.part [] rfl)) ?_
      rintro e w555 (⟨k557, b559, v560, he558, rfl, hst556⟩ | ⟨he580, rfl, hst556⟩)
      · have hF := ocase_some hF he558
        refine ⟨_, rfl, ?_⟩
        have hst := hst.join (idx := []) (rest := []) rfl hst556
        obtain ⟨l581, a582, c583, rfl⟩ := hst.len 1 rfl
        refine OW.pure 5 [(9, .pointer (some ⟨b559, 0, none⟩)), (10, .int .i64 r553.2)] (by kernel_rfl) ?_
        refine OW.nil rfl ?_
        refine QW.next ?_
        refine CW.seq ?_
        refine CW.seq ?_
        refine CW.region ?_
        refine OW.pure 6 [(39, .bool true)] (by kernel_rfl) ?_
        refine OW.nil rfl ?_
        refine QW.next ?_
        refine CW.cond_t rfl rfl ?_
        refine CW.seq ?_
        refine CW.region ?_
        refine OW.pure 15 [(6, .bool false)] (by kernel_rfl) ?_
        refine OW.nil rfl ?_
        refine QW.next ?_
        refine CW.ret ?_
        refine QW.then_ret ?_
        obtain rfl := Option.some.inj hF
        refine QW.ret1 rfl rfl ?_
        exact ⟨rfl, hst.keep [] rfl⟩
      · have hF := ocase_none hF he580
        refine ⟨_, rfl, ?_⟩
        have hst := hst.join (idx := []) (rest := []) rfl hst556
        refine OW.pure 5 [(9, .pointer none), (10, .int .i64 r553.2)] (by kernel_rfl) ?_
        refine OW.nil rfl ?_
        refine QW.next ?_
        refine CW.seq ?_
        refine CW.seq ?_
        refine CW.region ?_
        refine OW.pure 6 [(39, .bool true)] (by kernel_rfl) ?_
        refine OW.nil rfl ?_
        refine QW.next ?_
        refine CW.cond_t rfl rfl ?_
        refine CW.seq ?_
        refine CW.cutK (fun a w1 => Rep 140 [(6, .bool ((r44.2 == 2) && (r553.2 == 2)))] a ∧ St w (fp []) w1 []) ?_ ?_
        · refine CW.region ?_
          refine OW.pure 11 [(50, .bool (r44.2 == 2))] (by kernel_rfl) ?_
          refine OW.split 50 rfl (fun hc584 => ?_) (fun hc584 => ?_)
          · refine OW.pure 4 [(6, .bool (r553.2 == 2))] (by kernel_rfl) ?_
            refine OW.nil rfl ?_
            refine QW.say 6 (v := .bool ((r44.2 == 2) && (r553.2 == 2))) rfl (by first | (rw [hc584]; done) | (rw [hc584]; rfl) | simp [hc584]) ?_
            exact QW.meet (fun a ha => ⟨ha.agrees (by kernel_rfl), hst.keep [] rfl⟩)
          · refine OW.pure 4 [(6, .bool false)] (by kernel_rfl) ?_
            refine OW.nil rfl ?_
            refine QW.say 6 (v := .bool ((r44.2 == 2) && (r553.2 == 2))) rfl (by first | (rw [hc584]; done) | (rw [hc584]; rfl) | simp [hc584]) ?_
            exact QW.meet (fun a ha => ⟨ha.agrees (by kernel_rfl), hst.keep [] rfl⟩)
        · rintro a w1 ⟨ha, hst⟩
          refine CW.go ?_ ha
          refine CW.ret ?_
          refine QW.then_ret ?_
          obtain rfl := Option.some.inj hF
          refine QW.ret1 rfl rfl ?_
          exact ⟨rfl, hst.keep [] rfl⟩

end Go.Proofs.Ythljmgepekhchaa
