import Derived.Test.YtgmmfjpmahcocaaGreatDoorW1p1
set_option linter.unusedSimpArgs false
namespace Go.Proofs.YtgmmfjpmahcocaaGreatDoor
open Go.Sx
set_option linter.unusedVariables false
set_option maxRecDepth 10000
set_option maxHeartbeats 4000000
theorem zdz {w Z fu v0 S0 s E r R} (l : vm fu s E = some r) (c : St w Z w [itI zfG [v0] S0 s]) (aj : Rd w Z (.slice (some ⟨1, 0, none⟩) 7 7) qi 5 zbe)
  (K : ∀ (s0 : List Nat) w', St w Z w' [itI zfG [v0] s0 r.2] -> R (Rt (Ag [I r.1.Ki, I r.1.Pc, I r.1.It.Map, I r.1.It.Op, U r.1.It.Key, U r.1.It.Val, U r.1.Val])) w') : Calls Tryz.prog 33 [v0, I E].toArray w R := by
 refine sr 99 Tryz.func33 rfl ?_
 obtain ⟨d, rfl⟩ := c.fq 0
 refine rg ((al c [I 0, I 0, I 0, I 0, U 0, U 0, U 0]) fun b4 w5 c => nx (sq ?_))
 obtain ⟨v6, S7, v8, S9, bi, bj, c⟩ := c.o3 0
 refine have c := c.t1 2; have c := c.t1 3; ?_
 obtain ⟨bk, x, y, rfl⟩ := c.le 2
 obtain ⟨bl, z, C, rfl⟩ := c.le 3
 obtain ⟨m, rfl⟩ := c.fq 4
 have c : St _ _ _ [zs d 96 (U s.Ev.A :: U s.Ev.B :: Sl x (s.mo.Ms).length y :: Sl z (s.mo.Co).length C :: Pt m :: aU8 s.rg (zep s.tu [I s.at_, I s.sp, I s.sa])), _, _, _, _] := c
 refine rn (pu 3 [(10, Po d 77)] ((ld c 0) (pu 1 [(12, Ag [I 1, I s.at_, I 0, I 0, U 0, U 0, U 0])] ((al c [I 0, I 0, I 0, I 0, U 0, U 0, U 0]) fun h bm c => (st c 5 [I 1, I s.at_, I 0, I 0, U 0, U 0, U 0]) fun bn c => nx (sq (rg (pu 1 [(14, I E)] ((be l) fun r29 ak l => (fn) (zir ak (c.p []) (aj.give c []) fun bo ac => ⟨_, rfl, have c := c.j [] [0, 1, 2, 3, 4, 5] ac; pu 5 [(6, I r29.1), (7, B r29.2)] (nx (rg (pu 1 [(18, B r29.2)] (nx (br l (fun l am => ?_) fun l am => ?_)))))⟩)))))))))
 ·refine rg (pu 3 [(21, Po d 79)] ((st c 0 (U s.Ev.A :: U s.Ev.B :: Sl x (s.mo.Ms).length y :: Sl z (s.mo.Co).length C :: Pt m :: aU8 s.rg (zep s.tu [I s.at_, I s.sp, I 1]))) fun bp c => nx (rg (pu 1 [(22, Pt h)] ((st c 5 [I 2, I s.at_, I 0, I 0, U 0, U 0, U 0]) fun bq c => nx (sq ?_))))))
  refine CW.tail 20 (by kernel_rfl) (by kernel_rfl) ?_
  intro bs ae
  have c := c.same ae
  refine op' 4 [(26, Po d 2)] ((od c 0) (op' 3 [(30, Po d 5)] ?_))
  refine OS.op (v := Po d 6) rfl rfl rfl rfl rfl (fun a f => zy (n := 8) (q := 1) 26 1 rfl rfl rfl (by decide) (by decide) (by kernel_rfl) (by kernel_rfl) a _ f) ?_
  refine (od c 0) ((be l) fun o u l => ?_)
  obtain ⟨bt, bu, bv, F⟩ := c.rowv 2 rfl u
  refine OS.idx 3 1 rfl rfl rfl rfl rfl F rfl (zh u).1 (zh u).2.1 (by kernel_rfl) (by kernel_rfl) ?_
  refine OS.ld rfl rfl rfl rfl rfl (by kernel_rfl) (c.rowc 2 rfl (fun _ => rfl) u F 0 _ rfl) ?_
  refine op' 4 [(35, I r29.1), (38, Po d 5)] ?_
  refine OS.op (v := Po d 7) rfl rfl rfl rfl rfl (fun a f => zy (n := 8) (q := 2) 26 1 rfl rfl rfl (by decide) (by decide) (by kernel_rfl) (by kernel_rfl) a _ f) ?_
  refine (od c 0) (op' 2 [(41, Ag [I o, I r29.1, U (s.rg 2), U 0]), (42, Po h 2)] ?_)
  refine OS.on ?_
  refine (st c 5 [I 2, I s.at_, I o, I r29.1, U (s.rg 2), U 0, U 0]) fun bw c => nx (sq (rg (pu 1 [(43, I E)] ((be l) fun av an l => (fn) (zdW an (c.p []) (aj.give c []) fun bx bz af => ⟨_, rfl, have c := c.j [] [0, 1, 2, 3, 4, 5] af; ?_⟩)))))
  obtain ⟨b0, b2, b3, rfl⟩ := c.le 0
  refine pu 2 [(46, B (decide (((av).length : Int) > 2)))] (nx ((be l) fun D t l => ?_))
  refine ck (fun a G => ∃ (H : List Nat), Rep 99 [(4, Pt b4), (5, Pt h)] a /\ St w Z G [zs b4 80 [I 0, I 0, I 0, I 0, U 0, U 0, U 0], zs h 80 [I 2, I s.at_, I o, I r29.1, U (s.rg 2), U D, U 0], itI zfG [Pt d] H (zg.mk s.Ev s.mo s.sc s.rg s.tu s.at_ s.sp 1)]) ?_ fun a G ⟨H, f, c⟩ => go f (rg ((lN [I 2, I s.at_, I o, I r29.1, U (s.rg 2), U D, U 0] (c.blkN 1 rfl 0 7)) ((st c 0 [I 2, I s.at_, I o, I r29.1, U (s.rg 2), U D, U 0]) fun b5 c => nx (rt (tr ?_)))))
  ·refine br t (fun t ao => ?_) fun t ao => ?_
   ·refine rn (pu 3 [(49, Po d 5)] ?_)
    refine OW.op (v := Po d 8) rfl rfl rfl rfl (fun a f => zy (n := 8) (q := 3) 26 1 rfl rfl rfl (by decide) (by decide) (by kernel_rfl) (by kernel_rfl) a _ f) ?_
    refine (ld c 1) (pu 2 [(53, Po h 5)] ((st c 6 [I 2, I s.at_, I o, I r29.1, U (s.rg 2), U (s.rg 3), U 0]) fun b6 c => nl (have c := c.ti 3; have c := c.ti 4; ?_)))
    obtain ⟨aw, c⟩ := c.s3 zbc 1 3 4 5 [0, 2, 6] (zg.mk s.Ev s.mo s.sc s.rg s.tu s.at_ s.sp 1)
    obtain rfl := ij t
    exact me fun a f => ⟨aw, f.ag, c.k [1, 2, 3]⟩
   refine sk (have c := c.ti 3; have c := c.ti 4; ?_)
   obtain ⟨ax, c⟩ := c.s3 zbc 1 3 4 5 [0, 2, 6] (zg.mk s.Ev s.mo s.sc s.rg s.tu s.at_ s.sp 1)
   obtain rfl := ij t
   exact me fun a f => ⟨ax, f.ag, c.k [1, 2, 3]⟩
  obtain rfl := ij l
  exact QW.ret_c rfl rfl (rl (cs := [I 2, I s.at_, I o, I r29.1, U (s.rg 2), U D, U 0]) (c.blkN 0 rfl 0 7)) (K H _ (c.k [2]))
 refine sn (sq (rg (pu 2 [(56, B (E == 5))] (nx ((be l) fun b g l => ?_)))))
 refine ck (fun a G => ∃ (J : List Nat), Rep 99 [(0, Pt d), (4, Pt b4), (5, Pt h)] a /\ St w Z G [itI zfG [Pt d] J b.1, zs b4 80 [I 0, I 0, I 0, I 0, U 0, U 0, U 0], zs h 80 [I b.2.Ki, I b.2.Pc, I b.2.It.Map, I b.2.It.Op, U b.2.It.Key, U b.2.It.Val, U b.2.Val]]) ?_ fun a G ⟨J, f, c⟩ => go f (sq ?_)
 ·refine br g (fun g ah => ?_) fun g ah => ?_
  ·refine sq ?_
   refine CW.plan (by kernel_rfl) ?_
   intro ay M
   have c := c.same M
   refine ap [0, 1, 2] [(60, Po d 4)] ((ad 3 c 0) ?_)
   have c := c.openQ0 4 rfl
   refine ap [4, 5, 6, 7, 8] [(63, Po m 16), (66, Po d 5)] ?_
   refine OA.val (i := 9) (v := Po d 6) rfl (by kernel_rfl) rfl rfl rfl rfl (fun a w f => zy (n := 8) (q := 1) 26 1 rfl rfl rfl (by decide) (by decide) (by kernel_rfl) (by kernel_rfl) a w f) ?_
   refine (ad 10 c 0) (ap [11] [(69, I (w64 (s.rg 1)))] ((aa 12 []) ((be g) fun r133 ai g => ?_)))
   refine OW.fn rfl rfl rfl rfl (by kernel_rfl) (zcX _ m 59 (zdD s.sc.Wo.wo []) [] s.sc.Ct (w64 (s.rg 1)) r133 ai (c.part [4] rfl)) ?_
   rintro e az ⟨rfl, O⟩
   refine ⟨_, rfl, ?_⟩
   refine have c := c.j [4] [0, 1, 2, 3, 5] O; ?_
   have c : St _ _ _ [zs m 59 (zdD s.sc.Wo.wo (zdD r133.2.2.cn [])), _, _, _, _, _] := c
   refine OA.next trivial ?_
   refine ap [13, 14, 15, 16] [(71, U r133.1), (73, Po h 6)] ((aa 17 []) ((st c 5 [I 1, I s.at_, I 0, I 0, U 0, U 0, U r133.1]) fun a0 c => ?_))
   refine OA.next trivial ?_
   refine aF (qn ?_)
   refine CW.tail 6 (by kernel_rfl) (by kernel_rfl) ?_
   intro a1 Q
   have c := c.same Q
   refine op' 2 [(74, Pt d), (75, Po h 6)] ((od c 5) (op' 2 [(78, Po d 5)] ?_))
   refine OS.op (v := Po d 5) rfl rfl rfl rfl rfl (fun a f => zy (n := 8) (q := 0) 26 1 rfl rfl rfl (by decide) (by decide) (by kernel_rfl) (by kernel_rfl) a _ f) ?_
   refine OS.on ?_
   refine (st c 1 (U s.Ev.A :: U s.Ev.B :: Sl x (s.mo.Ms).length y :: Sl z (s.mo.Co).length C :: Pt m :: U r133.1 :: U (s.rg 1) :: U (s.rg 2) :: U (s.rg 3) :: U (s.rg 4) :: U (s.rg 5) :: U (s.rg 6) :: U (s.rg 7) :: zep s.tu [I s.at_, I s.sp, I s.sa])) fun a2 c => nl ?_
   have c := c.shutP0 (enc := jH) (sz := 32) (he := fun _ => rfl) 0 rfl (zt.mk s.sc.Wo r133.2.2) rfl
   refine have c := c.ti 3; have c := c.ti 4; ?_
   obtain ⟨aq, c⟩ := c.s3 zbc 1 3 4 0 [2, 5] (zg.mk s.Ev s.mo (zt.mk s.sc.Wo r133.2.2) (zW s.rg 0 r133.1) s.tu s.at_ s.sp s.sa)
   obtain rfl := ij g
   exact me fun a f => ⟨aq, f.ag, c.k [2, 0, 1]⟩
  refine sq ?_
  refine CW.plan (by kernel_rfl) ?_
  intro a3 T
  have c := c.same T
  refine ap [0, 1, 2] [(82, Po d 5)] ?_
  refine OA.val (i := 3) (v := Po d 6) rfl (by kernel_rfl) rfl rfl rfl rfl (fun a w f => zy (n := 8) (q := 1) 26 1 rfl rfl rfl (by decide) (by decide) (by kernel_rfl) (by kernel_rfl) a w f) ?_
  refine (ad 4 c 0) (ap [5] [(85, Pt h)] ((aa 6 [4]) ((st c 5 [I 3, I s.at_, I 0, I 0, U 0, U 0, U 0]) fun a4 c => ?_)))
  refine OA.next ⟨(c.blk 0 rfl rfl), trivial⟩ ?_
  refine ap [7] [(86, Po h 6)] ((aa 8 []) ((st c 5 [I 3, I s.at_, I 0, I 0, U 0, U 0, U (s.rg 1)]) fun a5 c => ?_))
  refine OA.next trivial ?_
  refine aF (qn (rn (pu 3 [(89, Po d 5)] ?_)))
  refine OW.op (v := Po d 5) rfl rfl rfl rfl (fun a f => zy (n := 8) (q := 0) 26 1 rfl rfl rfl (by decide) (by decide) (by kernel_rfl) (by kernel_rfl) a _ f) ?_
  refine (st c 0 (U s.Ev.A :: U s.Ev.B :: Sl x (s.mo.Ms).length y :: Sl z (s.mo.Co).length C :: Pt m :: U 0 :: U (s.rg 1) :: U (s.rg 2) :: U (s.rg 3) :: U (s.rg 4) :: U (s.rg 5) :: U (s.rg 6) :: U (s.rg 7) :: zep s.tu [I s.at_, I s.sp, I s.sa])) fun a6 c => nl (have c := c.ti 2; have c := c.ti 3; ?_)
  obtain ⟨ar, c⟩ := c.s3 zbc 0 2 3 4 [1, 5] (zg.mk s.Ev s.mo s.sc (zW s.rg 0 0) s.tu s.at_ s.sp s.sa)
  obtain rfl := ij g
  exact me fun a f => ⟨ar, f.ag, c.k [2, 0, 1]⟩
 obtain ⟨a7, a8, a9, ba, bb, bc, c⟩ := c.o3 0
 refine have c := c.t1 3; have c := c.t1 4; ?_
 obtain ⟨bd, V, W, rfl⟩ := c.le 3
 obtain ⟨bf, X, Y, rfl⟩ := c.le 4
 obtain ⟨ab, rfl⟩ := c.fq 5
 have c : St _ _ _ [zs d 96 (U b.1.Ev.A :: U b.1.Ev.B :: Sl V (b.1.mo.Ms).length W :: Sl X (b.1.mo.Co).length Y :: Pt ab :: aU8 b.1.rg (zep b.1.tu [I b.1.at_, I b.1.sp, I b.1.sa])), _, _, _, _, _] := c
 refine rn (pu 3 [(91, Pt d), (93, Po d 77)] ((ld c 0) (pu 3 [(95, I (w64 (b.1.at_ + 1))), (97, Po d 77)] ((st c 0 (U b.1.Ev.A :: U b.1.Ev.B :: Sl V (b.1.mo.Ms).length W :: Sl X (b.1.mo.Co).length Y :: Pt ab :: aU8 b.1.rg (zep b.1.tu [I (w64 (b.1.at_ + 1)), I b.1.sp, I b.1.sa]))) fun bg c => nx (rg ((lN [I b.2.Ki, I b.2.Pc, I b.2.It.Map, I b.2.It.Op, U b.2.It.Key, U b.2.It.Val, U b.2.Val] (c.blkN 2 rfl 0 7)) ((st c 1 [I b.2.Ki, I b.2.Pc, I b.2.It.Map, I b.2.It.Op, U b.2.It.Key, U b.2.It.Val, U b.2.Val]) fun bh c => nx (rt (have c := c.ti 3; have c := c.ti 4; ?_)))))))))
 obtain ⟨au, c⟩ := c.s3 zbc 0 3 4 5 [1, 2] (zg.mk b.1.Ev b.1.mo b.1.sc b.1.rg b.1.tu (w64 (b.1.at_ + 1)) b.1.sp b.1.sa)
 obtain rfl := ij l
 exact QW.ret_c rfl rfl (rl (cs := [I b.2.Ki, I b.2.Pc, I b.2.It.Map, I b.2.It.Op, U b.2.It.Key, U b.2.It.Val, U b.2.Val]) (c.blkN 0 rfl 0 7)) (K au _ (c.k [2]))
theorem qS {w Z f h i j s c r R} (d : qc s c = some r) (b : St w Z w []) (p : RdB w Z f (U s.Ev.A :: U s.Ev.B :: h :: i :: j :: aU8 s.rg (zep s.tu [I s.at_, I s.sp, I s.sa])))
  (K : ∀ w', St w Z w' [] -> R (Rt (U r)) w') : Calls Tryz.prog 60 [Pt f, Ag [I c.Op, I c.D, I c.A, I c.B, I c.Imm]].toArray w R := by
 refine sr 18 Tryz.func60 rfl (rg ((bx b [I c.Op, I c.D, I c.A, I c.B, I c.Imm]) fun l u b => pu 1 [] (nx (sq (rg (pu 1 [(5, Po l 3)] ((ld b 0) (pu 1 [(7, B (c.B == 8))] (nx (br d (fun d m => ?_) fun d m => ?_))))))))))
 ·refine rg (pu 1 [(8, Po l 4)] ((ld b 0) (pu 2 [(4, U (zp c.Imm))] (nx (rt (tr ?_))))))
  obtain rfl := ij d
  exact r1 (K _ (b.k []))
 refine sn (sq ?_)
 refine CW.still (by kernel_rfl) (by kernel_rfl) ?_
 intro t g
 have b := b.same g
 refine op' 2 [(11, Pt f), (12, Po l 3)] ((od b 0) (op' 2 [(15, Po f 5)] ((be d) fun o e d => ?_)))
 refine OS.op (v := .pointer (some ⟨f, 5 + Int.toNat c.B * 1, none⟩)) rfl rfl rfl rfl rfl (fun a q => zy (n := 8) 26 1 rfl rfl rfl (zn e).1 (zn e).2.1 (by kernel_rfl) (by kernel_rfl) a _ q) ?_
 refine OS.ld rfl rfl rfl rfl rfl (by kernel_rfl) (p.arr b (zx .u64) (fun _ => rfl) 8 s.rg 5 rfl rfl e 0 _ rfl) ?_
 refine op' 1 [(4, U (s.rg o))] ?_
 refine OS.fin rfl ?_
 refine qn (rt ?_)
 obtain rfl := ij d
 exact r1 (K _ (b.k []))
theorem zdZ (w : World) (c : Nat) (T0 : TypeId) (A0 C0 : List Value) (s : zR) (b : Int) (r : Int × Int) (f : xa s b = some r)
    (d : St w (fp [zbd c T0 A0 (zdD s.wo []) C0]) w [zbd c T0 A0 (zdD s.wo []) C0]) :
    Calls Tryz.prog 61 [.pointer (some ⟨c, A0.length + 0, none⟩), I b].toArray w (fun e w' => e = .returned (.tuple #[U r.1, I r.2]) /\ St w (fp [zbd c T0 A0 (zdD s.wo []) C0]) w' [zbd c T0 A0 (zdD s.wo []) C0]) := by
 refine sr 18 Tryz.func61 rfl (rg (pu 2 [] (nx (sq (sq ?_)))))
 refine ck (fun a j => Rep 18 [(0, .pointer (some ⟨c, A0.length + 0, none⟩)), (1, I b), (11, B (decide (b < 0) || decide (b >= 16)))] a /\ St w (fp [zbd c T0 A0 (zdD s.wo []) C0]) j [zbd c T0 A0 (zdD s.wo []) C0]) ?_ fun a j ⟨g, d⟩ => go g (br f (fun f l => ?_) fun f l => ?_)
 ·refine rn (pu 3 [(8, B (decide (b < 0)))] (sp 8 (fun h => ?_) fun h => ?_))
  ·refine pu 3 [(11, B true)] (nl ?_)
   exact QW.say 11 (v := B (decide (b < 0) || decide (b >= 16))) rfl (by rw [h]; try rfl) (me fun a g => ⟨g.ag, d.k [0]⟩)
  refine pu 3 [(11, B (decide (b >= 16)))] (nl ?_)
  exact QW.say 11 (v := B (decide (b < 0) || decide (b >= 16))) rfl (by rw [h]; try rfl) (me fun a g => ⟨g.ag, d.k [0]⟩)
 ·refine rg (pu 2 [(4, U 0), (5, I 35)] (nx (rt (tr ?_))))
  obtain rfl := ij f
  refine QW.ret2 rfl rfl rfl ?_
  exact ⟨rfl, d.keep [0] rfl⟩
 refine sn (rg (pu 4 [(13, I b), (15, .pointer (some ⟨c, A0.length + 0, none⟩))] ((be f) fun m i f => ?_)))
 refine OW.op (v := .pointer (some ⟨c, A0.length + 0 + Int.toNat b * 1, none⟩)) rfl rfl rfl rfl (fun a g => zy (n := 16) 26 1 rfl rfl rfl (zn i).1 (zn i).2.1 (by kernel_rfl) (by kernel_rfl) a _ g) ?_
 refine OW.ld rfl rfl rfl rfl (by kernel_rfl) (d.arrP 0 rfl (zx .u64) (fun _ => rfl) 16 s.wo 0 rfl rfl i 0 _ rfl) ?_
 refine pu 2 [(4, U (s.wo m)), (5, I 0)] (nx (rt ?_))
 obtain rfl := ij f
 refine QW.ret2 rfl rfl rfl ?_
 exact ⟨rfl, d.keep [0] rfl⟩
theorem zdA (w : World) (g : Nat) (T0 : TypeId) (A0 C0 : List Value) (s : zR) (d : Int) (b : Int) (r : Int × zR) (h : jJ s d b = some r)
    (f : St w (fp [zbd g T0 A0 (zdD s.wo []) C0]) w [zbd g T0 A0 (zdD s.wo []) C0]) :
    Calls Tryz.prog 13 [.pointer (some ⟨g, A0.length + 0, none⟩), I d, U b].toArray w (fun e w' => e = .returned (I r.1) /\ St w (fp [zbd g T0 A0 (zdD s.wo []) C0]) w' [zbd g T0 A0 (zdD r.2.wo []) C0]) := by
 refine sr 19 Tryz.func13 rfl (rg (pu 1 [] (nx (sq (sq ?_)))))
 refine ck (fun a m => Rep 19 [(0, .pointer (some ⟨g, A0.length + 0, none⟩)), (1, I d), (2, U b), (12, B (decide (d < 0) || decide (d >= 16)))] a /\ St w (fp [zbd g T0 A0 (zdD s.wo []) C0]) m [zbd g T0 A0 (zdD s.wo []) C0]) ?_ fun a m ⟨i, f⟩ => go i (br h (fun h o => ?_) fun h o => ?_)
 ·refine rn (pu 3 [(9, B (decide (d < 0)))] (sp 9 (fun j => ?_) fun j => ?_))
  ·refine pu 3 [(12, B true)] (nl ?_)
   exact QW.say 12 (v := B (decide (d < 0) || decide (d >= 16))) rfl (by rw [j]; try rfl) (me fun a i => ⟨i.ag, f.k [0]⟩)
  refine pu 3 [(12, B (decide (d >= 16)))] (nl ?_)
  exact QW.say 12 (v := B (decide (d < 0) || decide (d >= 16))) rfl (by rw [j]; try rfl) (me fun a i => ⟨i.ag, f.k [0]⟩)
 ·refine rg (pu 1 [(6, I 35)] (nx (rt (tr ?_))))
  obtain rfl := ij h
  refine QW.ret1 rfl rfl ?_
  exact ⟨rfl, f.keep [0] rfl⟩
 refine sn (rg (pu 5 [(14, I d), (15, U b), (17, .pointer (some ⟨g, A0.length + 0, none⟩))] ((be h) fun c l h => ?_)))
 refine OW.op (v := .pointer (some ⟨g, A0.length + 0 + Int.toNat d * 1, none⟩)) rfl rfl rfl rfl (fun a i => zy (n := 16) 26 1 rfl rfl rfl (zn l).1 (zn l).2.1 (by kernel_rfl) (by kernel_rfl) a _ i) ?_
 refine OW.stPA f 0 rfl rfl rfl rfl rfl (by kernel_rfl) rfl (zx .u64) (fun _ => rfl) 16 s.wo 0 rfl rfl l 0 rfl rfl b rfl (zdD (zW s.wo c b) []) rfl ?_
 intro p f
 refine nx (rg (pu 1 [(6, I 0)] (nx (rt ?_))))
 obtain rfl := ij h
 refine QW.ret1 rfl rfl ?_
 exact ⟨rfl, f.keep [0] rfl⟩
theorem zd0 {w Z v0 S0 s g r R} (f : zT s g = some r) (b : St w Z w [itI zfG [v0] S0 s])
  (K : ∀ (s0 : List Nat) w', St w Z w' [itI zfG [v0] s0 r.2] -> R (Rt (I r.1)) w') : Calls Tryz.prog 34 [v0, Ag [I g.Op, I g.D, I g.A, I g.B, I g.Imm]].toArray w R := by
 refine sr 199 Tryz.func34 rfl ?_
 obtain ⟨h, rfl⟩ := b.fq 0
 refine rg ((bx b [I g.Op, I g.D, I g.A, I g.B, I g.Imm]) fun t w5 b => pu 1 [] (nx (sq (rg (pu 1 [(9, Pt t)] ((ld b 1) (nx (bl (rg (pu 2 [(55, B (g.Op == 0))] (nx (br f (fun f dh => ?_) fun f dh => ?_))))))))))))
 ·obtain ⟨v7, S8, v9, fr, fs, ft, b⟩ := b.o3 0
  refine have b := b.t1 2; have b := b.t1 3; ?_
  obtain ⟨fu, cg, ch, rfl⟩ := b.le 2
  obtain ⟨fv, ci, cj, rfl⟩ := b.le 3
  obtain ⟨cl, rfl⟩ := b.fq 4
  have b : St _ _ _ [zs h 96 (U s.Ev.A :: U s.Ev.B :: Sl cg (s.mo.Ms).length ch :: Sl ci (s.mo.Co).length cj :: Pt cl :: aU8 s.rg (zep s.tu [I s.at_, I s.sp, I s.sa])), _, _, _, _] := b
  refine CW.plan (by kernel_rfl) ?_
  intro fw bs
  have b := b.same bs
  refine ap [0, 1] [(57, Pt h), (58, Po t 1)] ((ad 2 b 1) (ap [3] [(60, Pt h)] ?_))
  refine OA.ldN (i := 4) (cs := [I g.Op, I g.D, I g.A, I g.B, I g.Imm]) rfl (by kernel_rfl) rfl rfl rfl (by kernel_rfl) (by kernel_rfl) (b.blkN 1 rfl 0 5) ?_
  refine ap [6, 7] [(64, Po h 5)] ((aa 5 [2]) ((be f) fun E cr f => (fn) (qS cr (b.p []) (b.rdB 0 rfl [] rfl) fun fx bu => ⟨_, rfl, have b := b.j [] [0, 1, 2, 3, 4] bu; ?_⟩)))
  refine OA.next ⟨(b.blk 1 rfl rfl), trivial⟩ ?_
  refine (be f) fun F Y f => ?_
  refine OA.val (i := 8) (v := .pointer (some ⟨h, 5 + Int.toNat g.D * 1, none⟩)) rfl (by kernel_rfl) rfl rfl rfl rfl (fun a w m => zy (n := 8) 26 1 rfl rfl rfl (zn Y).1 (zn Y).2.1 (by kernel_rfl) (by kernel_rfl) a w m) ?_
  refine (aa 9 []) ?_
  refine OW.stA b 0 rfl rfl rfl rfl rfl (by kernel_rfl) rfl (zx .u64) (fun _ => rfl) 8 s.rg 5 rfl rfl Y 0 rfl rfl E rfl (U s.Ev.A :: U s.Ev.B :: Sl cg (s.mo.Ms).length ch :: Sl ci (s.mo.Co).length cj :: Pt cl :: aU8 (zW s.rg F E) (zep s.tu [I s.at_, I s.sp, I s.sa])) rfl ?_
  intro fy b
  refine OA.next trivial ?_
  refine aF (bn (qn (rg (pu 1 [(4, I 1)] (nx (rt (have b := b.ti 2; have b := b.ti 3; ?_)))))))
  obtain ⟨di, b⟩ := b.s3 zbc 0 2 3 4 [1] (zg.mk s.Ev s.mo s.sc (zW s.rg F E) s.tu s.at_ s.sp s.sa)
  obtain rfl := ij f
  exact r1 (K di _ (b.k [1]))
 refine rg (pu 2 [(66, B (g.Op == 11))] (nx (br f (fun f ct => ?_) fun f ct => ?_)))
 ·obtain ⟨fz, f0, f1, f2, f3, f4, b⟩ := b.o3 0
  refine have b := b.t1 2; have b := b.t1 3; ?_
  obtain ⟨f5, cm, cn, rfl⟩ := b.le 2
  obtain ⟨f6, co, cp, rfl⟩ := b.le 3
  obtain ⟨X, rfl⟩ := b.fq 4
  have b : St _ _ _ [zs h 96 (U s.Ev.A :: U s.Ev.B :: Sl cm (s.mo.Ms).length cn :: Sl co (s.mo.Co).length cp :: Pt X :: aU8 s.rg (zep s.tu [I s.at_, I s.sp, I s.sa])), _, _, _, _] := b
  refine CW.plan (by kernel_rfl) ?_
  intro f7 bv
  have b := b.same bv
  refine ap [0, 1] [(69, Pt h), (70, Po t 1)] ((ad 2 b 1) (ap [3, 4, 5] [(74, Po h 4)] ((ad 6 b 0) ?_)))
  have b := b.openQ0 4 rfl
  refine ap [7, 8, 9] [(77, Pt X), (78, Pt h)] ?_
  refine OA.ldN (i := 10) (cs := [I g.Op, I g.D, I g.A, I g.B, I g.Imm]) rfl (by kernel_rfl) rfl rfl rfl (by kernel_rfl) (by kernel_rfl) (b.blkN 1 rfl 0 5) ?_
  refine ap [17, 18] [(86, Po h 5)] ((aa 11 [6, 2]) ((be f) fun cq cu f => (fn) (qS cu (b.p []) (b.rdB 0 rfl [] rfl) fun f8 bw => ⟨_, rfl, have b := b.j [] [0, 1, 2, 3, 4] bw; ?_⟩)))
  refine OA.next ⟨(b.blk 0 rfl rfl), (b.blk 1 rfl rfl), trivial⟩ ?_
  refine ap [12] [(81, I (w64 cq))] ((aa 13 [2]) ((be f) fun y cv f => ?_))
  refine OW.fn rfl rfl rfl rfl (by kernel_rfl) (zdZ _ X 59 [] (zdD s.sc.Ct.cn []) s.sc.Wo (w64 cq) y cv (b.part [4] rfl)) ?_
  rintro e f9 ⟨rfl, bz⟩
  refine ⟨_, rfl, ?_⟩
  refine have b := b.j [4] [0, 1, 2, 3] bz; ?_
  have b : St _ _ _ [zs X 59 (zdD s.sc.Wo.wo (zdD s.sc.Ct.cn [])), _, _, _, _] := b
  refine OA.next ⟨(b.blk 2 rfl rfl), trivial⟩ ?_
  refine ap [14, 15, 16] [(83, U y.1)] ((be f) fun G ab f => ?_)
  refine OA.val (i := 19) (v := .pointer (some ⟨h, 5 + Int.toNat g.D * 1, none⟩)) rfl (by kernel_rfl) rfl rfl rfl rfl (fun a w m => zy (n := 8) 26 1 rfl rfl rfl (zn ab).1 (zn ab).2.1 (by kernel_rfl) (by kernel_rfl) a w m) ?_
  refine (aa 20 []) ?_
  refine OW.stA b 1 rfl rfl rfl rfl rfl (by kernel_rfl) rfl (zx .u64) (fun _ => rfl) 8 s.rg 5 rfl rfl ab 0 rfl rfl y.1 rfl (U s.Ev.A :: U s.Ev.B :: Sl cm (s.mo.Ms).length cn :: Sl co (s.mo.Co).length cp :: Pt X :: aU8 (zW s.rg G y.1) (zep s.tu [I s.at_, I s.sp, I s.sa])) rfl ?_
  intro ga b
  refine OA.next trivial ?_
  refine aF (bn (qn (rg (pu 1 [(4, I 1)] (nx (rt ?_))))))
  have b := b.shutP0 (enc := jH) (sz := 32) (he := fun _ => rfl) 0 rfl s.sc rfl
  refine have b := b.ti 3; have b := b.ti 4; ?_
  obtain ⟨dj, b⟩ := b.s3 zbc 1 3 4 0 [2] (zg.mk s.Ev s.mo s.sc (zW s.rg G y.1) s.tu s.at_ s.sp s.sa)
  obtain rfl := ij f
  exact r1 (K dj _ (b.k [1]))
 refine rg (pu 2 [(88, B (g.Op == 12))] (nx (br f (fun f cw => ?_) fun f cw => ?_)))
 ·obtain ⟨gb, gc, gd, ge, gf, gg, b⟩ := b.o3 0
  refine have b := b.t1 2; have b := b.t1 3; ?_
  obtain ⟨gh, dk, dl, rfl⟩ := b.le 2
  obtain ⟨gi, dm, dn, rfl⟩ := b.le 3
  obtain ⟨aj, rfl⟩ := b.fq 4
  have b : St _ _ _ [zs h 96 (U s.Ev.A :: U s.Ev.B :: Sl dk (s.mo.Ms).length dl :: Sl dm (s.mo.Co).length dn :: Pt aj :: aU8 s.rg (zep s.tu [I s.at_, I s.sp, I s.sa])), _, _, _, _] := b
  refine CW.plan (by kernel_rfl) ?_
  intro dp ak
  have b := b.same ak
  refine ap [0, 1, 2] [(92, Po h 4)] ((ad 3 b 0) ?_)
  have b := b.openQ0 4 rfl
  refine ap [4, 5, 6] [(95, Pt aj), (96, Pt h)] ?_
  refine OA.ldN (i := 7) (cs := [I g.Op, I g.D, I g.A, I g.B, I g.Imm]) rfl (by kernel_rfl) rfl rfl rfl (by kernel_rfl) (by kernel_rfl) (b.blkN 1 rfl 0 5) ?_
  refine ap [10, 11] [(100, Pt h), (101, Po t 2)] ((ad 12 b 1) (ap [13, 14] [(104, Po h 5)] ((be f) fun cx H f => ?_)))
  refine OA.val (i := 15) (v := .pointer (some ⟨h, 5 + Int.toNat g.A * 1, none⟩)) rfl (by kernel_rfl) rfl rfl rfl rfl (fun a w m => zy (n := 8) 26 1 rfl rfl rfl (zn H).1 (zn H).2.1 (by kernel_rfl) (by kernel_rfl) a w m) ?_
  refine OA.ld (i := 16) rfl (by kernel_rfl) rfl rfl rfl (by kernel_rfl) (b.arrB 0 rfl (zx .u64) (fun _ => rfl) 8 s.rg 5 rfl rfl H 0 _ rfl) ?_
  refine (aa 8 [16, 12, 3]) ((be f) fun r110 b0 f => (fn) (qS b0 (b.p []) (b.rdB 0 rfl [] rfl) fun dq al => ⟨_, rfl, have b := b.j [] [0, 1, 2, 3, 4] al; ?_⟩))
  refine OA.next ⟨(b.arrB 0 rfl (zx .u64) (fun _ => rfl) 8 s.rg 5 rfl rfl H 0 _ rfl), (b.blk 1 rfl rfl), (b.blk 0 rfl rfl), trivial⟩ ?_
  refine ap [9] [(99, I (w64 r110))] ((aa 17 []) ((be f) fun r114 b2 f => ?_))
  refine OW.fn rfl rfl rfl rfl (by kernel_rfl) (zdA _ aj 59 [] (zdD s.sc.Ct.cn []) s.sc.Wo (w64 r110) (s.rg cx) r114 b2 (b.part [4] rfl)) ?_
  rintro e dr ⟨rfl, am⟩
  refine ⟨_, rfl, ?_⟩
  refine have b := b.j [4] [0, 1, 2, 3] am; ?_
  have b : St _ _ _ [zs aj 59 (zdD r114.2.wo (zdD s.sc.Ct.cn [])), _, _, _, _] := b
  refine OA.next trivial ?_
  refine aF (bn (qn (rg (pu 1 [(4, I 1)] (nx (rt ?_))))))
  have b := b.shutP0 (enc := jH) (sz := 32) (he := fun _ => rfl) 0 rfl (zt.mk r114.2 s.sc.Ct) rfl
  refine have b := b.ti 3; have b := b.ti 4; ?_
  obtain ⟨cy, b⟩ := b.s3 zbc 1 3 4 0 [2] (zg.mk s.Ev s.mo (zt.mk r114.2 s.sc.Ct) s.rg s.tu s.at_ s.sp s.sa)
  obtain rfl := ij f
  exact r1 (K cy _ (b.k [1]))
 refine rg (pu 2 [(108, B (g.Op == 13))] (nx (br f (fun f b3 => ?_) fun f b3 => ?_)))
 ·refine sq ?_
  obtain ⟨ds, dt, du, dv, dw, dx, b⟩ := b.o3 0
  refine have b := b.t1 2; have b := b.t1 3; ?_
  obtain ⟨dy, ac, ae, rfl⟩ := b.le 2
  obtain ⟨dz, af, ah, rfl⟩ := b.le 3
  obtain ⟨ai, rfl⟩ := b.fq 4
  have b : St _ _ _ [zs h 96 (U s.Ev.A :: U s.Ev.B :: Sl ac (s.mo.Ms).length ae :: Sl af (s.mo.Co).length ah :: Pt ai :: aU8 s.rg (zep s.tu [I s.at_, I s.sp, I s.sa])), _, _, _, _] := b
  refine CW.tail 11 (by kernel_rfl) (by kernel_rfl) ?_
  intro d0 an
  have b := b.same an
  refine op' 2 [(110, Pt h), (111, Po t 1)] ((od b 1) (op' 4 [(116, Pt h)] ((od b 0) (op' 2 [(119, Po h 5)] ((be f) fun l z f => ?_)))))
  refine OS.op (v := .pointer (some ⟨h, 5 + Int.toNat g.D * 1, none⟩)) rfl rfl rfl rfl rfl (fun a m => zy (n := 8) 26 1 rfl rfl rfl (zn z).1 (zn z).2.1 (by kernel_rfl) (by kernel_rfl) a _ m) ?_
  refine OS.on ?_
  refine OW.stA b 0 rfl rfl rfl rfl rfl (by kernel_rfl) rfl (zx .u64) (fun _ => rfl) 8 s.rg 5 rfl rfl z 0 rfl rfl s.Ev.A rfl (U s.Ev.A :: U s.Ev.B :: Sl ac (s.mo.Ms).length ae :: Sl af (s.mo.Co).length ah :: Pt ai :: aU8 (zW s.rg l s.Ev.A) (zep s.tu [I s.at_, I s.sp, I s.sa])) rfl ?_
  intro d1 b
  refine nx (rg (pu 1 [(121, Po t 4)] ((ld b 1) (pu 1 [(123, B (g.Imm == 1))] (nx (br f (fun f b5 => ?_) fun f b5 => ?_))))))
  ·refine CW.tail 11 (by kernel_rfl) (by kernel_rfl) ?_
   intro d2 ao
   have b := b.same ao
   refine op' 2 [(124, Pt h), (125, Po t 1)] ((od b 1) (op' 4 [(130, Po h 1)] ((od b 0) (op' 2 [(133, Po h 5)] ?_))))
   refine OS.op (v := .pointer (some ⟨h, 5 + Int.toNat g.D * 1, none⟩)) rfl rfl rfl rfl rfl (fun a m => zy (n := 8) 26 1 rfl rfl rfl (zn z).1 (zn z).2.1 (by kernel_rfl) (by kernel_rfl) a _ m) ?_
   refine OS.on ?_
   refine OW.stA b 0 rfl rfl rfl rfl rfl (by kernel_rfl) rfl (zx .u64) (fun _ => rfl) 8 (zW s.rg l s.Ev.A) 5 rfl rfl z 0 rfl rfl s.Ev.B rfl (U s.Ev.A :: U s.Ev.B :: Sl ac (s.mo.Ms).length ae :: Sl af (s.mo.Co).length ah :: Pt ai :: aU8 (zW (zW s.rg l s.Ev.A) l s.Ev.B) (zep s.tu [I s.at_, I s.sp, I s.sa])) rfl ?_
   intro d3 b
   refine nl (bn (qn (rg (pu 1 [(4, I 1)] (nx (rt (have b := b.ti 2; have b := b.ti 3; ?_)))))))
   obtain ⟨cz, b⟩ := b.s3 zbc 0 2 3 4 [1] (zg.mk s.Ev s.mo s.sc (zW (zW s.rg l s.Ev.A) l s.Ev.B) s.tu s.at_ s.sp s.sa)
   obtain rfl := ij f
   exact r1 (K cz _ (b.k [1]))
  refine sk (bn (qn (rg (pu 1 [(4, I 1)] (nx (rt (have b := b.ti 2; have b := b.ti 3; ?_)))))))
  obtain ⟨c0, b⟩ := b.s3 zbc 0 2 3 4 [1] (zg.mk s.Ev s.mo s.sc (zW s.rg l s.Ev.A) s.tu s.at_ s.sp s.sa)
  obtain rfl := ij f
  exact r1 (K c0 _ (b.k [1]))
 refine rg (pu 2 [(135, B (g.Op == 14))] (nx (br f (fun f b6 => ?_) fun f b6 => ?_)))
 ·obtain ⟨d4, d5, d6, d7, d8, d9, b⟩ := b.o3 0
  refine have b := b.t1 2; have b := b.t1 3; ?_
  obtain ⟨ea, aq, ar, rfl⟩ := b.le 2
  obtain ⟨eb, au, av, rfl⟩ := b.le 3
  obtain ⟨aw, rfl⟩ := b.fq 4
  have b : St _ _ _ [zs h 96 (U s.Ev.A :: U s.Ev.B :: Sl aq (s.mo.Ms).length ar :: Sl au (s.mo.Co).length av :: Pt aw :: aU8 s.rg (zep s.tu [I s.at_, I s.sp, I s.sa])), _, _, _, _] := b
  refine CW.tail 9 (by kernel_rfl) (by kernel_rfl) ?_
  intro ec ax
  have b := b.same ax
  refine op' 2 [(137, Pt h), (138, Po t 1)] ((od b 1) (op' 1 [(140, Po t 4)] ((od b 1) (op' 3 [(142, U (zp g.Imm)), (144, Po h 5)] ((be f) fun u M f => ?_)))))
  refine OS.op (v := .pointer (some ⟨h, 5 + Int.toNat g.D * 1, none⟩)) rfl rfl rfl rfl rfl (fun a m => zy (n := 8) 26 1 rfl rfl rfl (zn M).1 (zn M).2.1 (by kernel_rfl) (by kernel_rfl) a _ m) ?_
  refine OS.on ?_
  refine OW.stA b 0 rfl rfl rfl rfl rfl (by kernel_rfl) rfl (zx .u64) (fun _ => rfl) 8 s.rg 5 rfl rfl M 0 rfl rfl (zp g.Imm) rfl (U s.Ev.A :: U s.Ev.B :: Sl aq (s.mo.Ms).length ar :: Sl au (s.mo.Co).length av :: Pt aw :: aU8 (zW s.rg u (zp g.Imm)) (zep s.tu [I s.at_, I s.sp, I s.sa])) rfl ?_
  intro ed b
  refine nl (bn (qn (rg (pu 1 [(4, I 1)] (nx (rt (have b := b.ti 2; have b := b.ti 3; ?_)))))))
  obtain ⟨c1, b⟩ := b.s3 zbc 0 2 3 4 [1] (zg.mk s.Ev s.mo s.sc (zW s.rg u (zp g.Imm)) s.tu s.at_ s.sp s.sa)
  obtain rfl := ij f
  exact r1 (K c1 _ (b.k [1]))
 refine rg (pu 2 [(146, B (g.Op == 15))] (nx (br f (fun f b7 => ?_) fun f b7 => ?_)))
 ·refine rg (pu 1 [(148, Po t 1)] ((ld b 1) (pu 2 [(4, I (w64 (g.D + 1)))] (nx (rt (bt (tr ?_)))))))
  obtain rfl := ij f
  exact r1 (K S0 _ (b.k [0]))
 refine rg (pu 2 [(151, B (g.Op == 20))] (nx (br f (fun f b8 => ?_) fun f b8 => ?_)))
 ·refine sq (sq ?_)
  obtain ⟨ee, ef, eg, eh, ei, ej, b⟩ := b.o3 0
  refine have b := b.t1 2; have b := b.t1 3; ?_
  obtain ⟨ek, c2, c3, rfl⟩ := b.le 2
  obtain ⟨el, c4, c5, rfl⟩ := b.le 3
  obtain ⟨c6, rfl⟩ := b.fq 4
  have b : St _ _ _ [zs h 96 (U s.Ev.A :: U s.Ev.B :: Sl c2 (s.mo.Ms).length c3 :: Sl c4 (s.mo.Co).length c5 :: Pt c6 :: aU8 s.rg (zep s.tu [I s.at_, I s.sp, I s.sa])), _, _, _, _] := b
  refine (be f) fun c7 o f => ?_
  refine ck (fun a w1 => ∃ (ay : List Nat), Rep 199 [(0, Pt h), (3, Pt t), (174, B c7)] a /\ St w Z w1 [itI zfG [Pt h] ay s, zs t 43 [I g.Op, I g.D, I g.A, I g.B, I g.Imm]]) ?_ fun a w1 ⟨ay, m, b⟩ => go m (br f (fun f b9 => ?_) fun f b9 => ?_)
  ·refine CW.still (by kernel_rfl) (by kernel_rfl) ?_
   intro em az
   have b := b.same az
   refine op' 2 [(153, Pt h), (154, Po t 2)] ((od b 1) (op' 2 [(157, Po h 5)] ((be o) fun c8 O o => ?_)))
   refine OS.op (v := .pointer (some ⟨h, 5 + Int.toNat g.A * 1, none⟩)) rfl rfl rfl rfl rfl (fun a m => zy (n := 8) 26 1 rfl rfl rfl (zn O).1 (zn O).2.1 (by kernel_rfl) (by kernel_rfl) a _ m) ?_
   refine OS.ld rfl rfl rfl rfl rfl (by kernel_rfl) (b.arrB 0 rfl (zx .u64) (fun _ => rfl) 8 s.rg 5 rfl rfl O 0 _ rfl) ?_
   refine op' 2 [(161, B ((s.rg c8) != 0))] ?_
   refine OS.split 161 rfl (fun Q => ?_) (fun Q => ?_)
   ·have o := zfr o Q
    refine op' 4 [(162, Pt h), (165, Po h 77)] ((od b 0) (op' 2 [(168, Po h 13)] ((be o) fun c9 T o => ?_)))
    refine OS.op (v := .pointer (some ⟨h, 13 + Int.toNat s.at_ * 1, none⟩)) rfl rfl rfl rfl rfl (fun a m => zy (n := 64) 2 1 rfl rfl rfl (zn T).1 (zn T).2.1 (by kernel_rfl) (by kernel_rfl) a _ m) ?_
    refine OS.ld rfl rfl rfl rfl rfl (by kernel_rfl) (b.arrB 0 rfl (zx .i64) (fun _ => rfl) 64 s.tu 13 rfl rfl T 0 _ rfl) ?_
    refine op' 1 [(171, Po t 4)] ((od b 1) (op' 2 [(174, B (decide ((s.tu c9) < g.Imm)))] ?_))
    refine OS.fin rfl ?_
    refine have b := b.ti 2; have b := b.ti 3; ?_
    obtain ⟨da, b⟩ := b.s3 zbc 0 2 3 4 [1] s
    obtain rfl := ij o
    exact me fun a m => ⟨da, m.ag, b.k [1, 0]⟩
   have o := zfs o Q
   refine op' 13 [(174, B false)] ?_
   refine OS.fin rfl ?_
   refine have b := b.ti 2; have b := b.ti 3; ?_
   obtain ⟨db, b⟩ := b.s3 zbc 0 2 3 4 [1] s
   obtain rfl := ij o
   exact me fun a m => ⟨db, m.ag, b.k [1, 0]⟩
  ·refine sq ?_
   obtain ⟨en, eo, ep, eq, er, es, b⟩ := b.o3 0
   refine have b := b.t1 2; have b := b.t1 3; ?_
   obtain ⟨et, a0, a1, rfl⟩ := b.le 2
   obtain ⟨eu, a2, a3, rfl⟩ := b.le 3
   obtain ⟨a4, rfl⟩ := b.fq 4
   have b : St _ _ _ [zs h 96 (U s.Ev.A :: U s.Ev.B :: Sl a0 (s.mo.Ms).length a1 :: Sl a2 (s.mo.Co).length a3 :: Pt a4 :: aU8 s.rg (zep s.tu [I s.at_, I s.sp, I s.sa])), _, _, _, _] := b
   refine CW.tail 13 (by kernel_rfl) (by kernel_rfl) ?_
   intro ev a5
   have b := b.same a5
   refine op' 4 [(175, Pt h), (178, Po h 77)] ((od b 0) (op' 2 [(181, Po h 13)] ((be f) fun c C f => ?_)))
   refine OS.op (v := .pointer (some ⟨h, 13 + Int.toNat s.at_ * 1, none⟩)) rfl rfl rfl rfl rfl (fun a m => zy (n := 64) 2 1 rfl rfl rfl (zn C).1 (zn C).2.1 (by kernel_rfl) (by kernel_rfl) a _ m) ?_
   refine OS.ld rfl rfl rfl rfl rfl (by kernel_rfl) (b.arrB 0 rfl (zx .i64) (fun _ => rfl) 64 s.tu 13 rfl rfl C 0 _ rfl) ?_
   refine op' 3 [(184, I (w64 ((s.tu c) + 1))), (186, Po h 13)] ?_
   refine OS.op (v := .pointer (some ⟨h, 13 + Int.toNat s.at_ * 1, none⟩)) rfl rfl rfl rfl rfl (fun a m => zy (n := 64) 2 1 rfl rfl rfl (zn C).1 (zn C).2.1 (by kernel_rfl) (by kernel_rfl) a _ m) ?_
   refine OS.on ?_
   refine OW.stA b 0 rfl rfl rfl rfl rfl (by kernel_rfl) rfl (zx .i64) (fun _ => rfl) 64 s.tu 13 rfl rfl C 0 rfl rfl (w64 ((s.tu c) + 1)) rfl (U s.Ev.A :: U s.Ev.B :: Sl a0 (s.mo.Ms).length a1 :: Sl a2 (s.mo.Co).length a3 :: Pt a4 :: aU8 s.rg (zep (zW s.tu c (w64 ((s.tu c) + 1))) [I s.at_, I s.sp, I s.sa])) rfl ?_
   intro ew b
   refine nx (rg (pu 1 [(188, Po t 1)] ((ld b 1) (pu 2 [(4, I (w64 (0 - g.D)))] (nx (rt (tr (bt (tr (have b := b.ti 2; have b := b.ti 3; ?_))))))))))
   obtain ⟨dc, b⟩ := b.s3 zbc 0 2 3 4 [1] (zg.mk s.Ev s.mo s.sc s.rg (zW s.tu c (w64 ((s.tu c) + 1))) s.at_ s.sp s.sa)
   obtain rfl := ij f
   exact r1 (K dc _ (b.k [1]))
  refine sn ?_
  obtain ⟨ex, ey, ez, e0, e1, e2, b⟩ := b.o3 0
  refine have b := b.t1 2; have b := b.t1 3; ?_
  obtain ⟨e3, a6, a7, rfl⟩ := b.le 2
  obtain ⟨e4, a8, a9, rfl⟩ := b.le 3
  obtain ⟨ba, rfl⟩ := b.fq 4
  have b : St _ _ _ [zs h 96 (U s.Ev.A :: U s.Ev.B :: Sl a6 (s.mo.Ms).length a7 :: Sl a8 (s.mo.Co).length a9 :: Pt ba :: aU8 s.rg (zep s.tu [I s.at_, I s.sp, I s.sa])), _, _, _, _] := b
  refine CW.tail 8 (by kernel_rfl) (by kernel_rfl) ?_
  intro e5 bb
  have b := b.same bb
  refine op' 4 [(191, Pt h), (194, Po h 77)] ((od b 0) (op' 2 [(197, Po h 13)] ((be f) fun d V f => ?_)))
  refine OS.op (v := .pointer (some ⟨h, 13 + Int.toNat s.at_ * 1, none⟩)) rfl rfl rfl rfl rfl (fun a m => zy (n := 64) 2 1 rfl rfl rfl (zn V).1 (zn V).2.1 (by kernel_rfl) (by kernel_rfl) a _ m) ?_
  refine OS.on ?_
  refine OW.stA b 0 rfl rfl rfl rfl rfl (by kernel_rfl) rfl (zx .i64) (fun _ => rfl) 64 s.tu 13 rfl rfl V 0 rfl rfl 0 rfl (U s.Ev.A :: U s.Ev.B :: Sl a6 (s.mo.Ms).length a7 :: Sl a8 (s.mo.Co).length a9 :: Pt ba :: aU8 s.rg (zep (zW s.tu d 0) [I s.at_, I s.sp, I s.sa])) rfl ?_
  intro e6 b
  refine nl (bn (qn (rg (pu 1 [(4, I 1)] (nx (rt (have b := b.ti 2; have b := b.ti 3; ?_)))))))
  obtain ⟨dd, b⟩ := b.s3 zbc 0 2 3 4 [1] (zg.mk s.Ev s.mo s.sc s.rg (zW s.tu d 0) s.at_ s.sp s.sa)
  obtain rfl := ij f
  exact r1 (K dd _ (b.k [1]))
 refine sq ?_
 obtain ⟨e7, e8, e9, fa, fb, fc, b⟩ := b.o3 0
 refine have b := b.t1 2; have b := b.t1 3; ?_
 obtain ⟨fd, bc, bd, rfl⟩ := b.le 2
 obtain ⟨fe, bf, bg, rfl⟩ := b.le 3
 obtain ⟨bh, rfl⟩ := b.fq 4
 have b : St _ _ _ [zs h 96 (U s.Ev.A :: U s.Ev.B :: Sl bc (s.mo.Ms).length bd :: Sl bf (s.mo.Co).length bg :: Pt bh :: aU8 s.rg (zep s.tu [I s.at_, I s.sp, I s.sa])), _, _, _, _] := b
 refine CW.plan (by kernel_rfl) ?_
 intro ff bi
 have b := b.same bi
 refine ap [0] [(12, Pt t)] ((ad 1 b 1) (ap [2, 3] [(14, Pt h), (15, Po t 2)] ((ad 4 b 1) (ap [5, 6] [(18, Po h 5)] ((be f) fun fg q f => ?_)))))
 refine OA.val (i := 7) (v := .pointer (some ⟨h, 5 + Int.toNat g.A * 1, none⟩)) rfl (by kernel_rfl) rfl rfl rfl rfl (fun a w m => zy (n := 8) 26 1 rfl rfl rfl (zn q).1 (zn q).2.1 (by kernel_rfl) (by kernel_rfl) a w m) ?_
 refine OA.ld (i := 8) rfl (by kernel_rfl) rfl rfl rfl (by kernel_rfl) (b.arrB 0 rfl (zx .u64) (fun _ => rfl) 8 s.rg 5 rfl rfl q 0 _ rfl) ?_
 refine ap [9] [(21, Pt h)] ?_
 refine OA.ldN (i := 10) (cs := [I g.Op, I g.D, I g.A, I g.B, I g.Imm]) rfl (by kernel_rfl) rfl rfl rfl (by kernel_rfl) (by kernel_rfl) (b.blkN 1 rfl 0 5) ?_
 refine (aa 11 [8, 4, 1]) ((be f) fun r295 ca f => (fn) (qS ca (b.p []) (b.rdB 0 rfl [] rfl) fun fh bj => ⟨_, rfl, have b := b.j [] [0, 1, 2, 3, 4] bj; ?_⟩))
 refine OA.next ⟨(b.arrB 0 rfl (zx .u64) (fun _ => rfl) 8 s.rg 5 rfl rfl q 0 _ rfl), (b.blk 1 rfl rfl), (b.blk 1 rfl rfl), trivial⟩ ?_
 refine (aa 12 []) ((be f) fun r299 cb f => (fn) (zgN cb (b.p []) fun fi bk => ⟨_, rfl, have b := b.j [] [0, 1, 2, 3, 4] bk; ?_⟩))
 refine OA.next trivial ?_
 refine ap [13, 14, 15] [(25, U r299.1), (26, B r299.2)] ((aa 16 []) (pu 1 [(5, U r299.1)] ?_))
 refine OA.next trivial ?_
 refine (aa 17 []) (pu 1 [(6, B r299.2)] ?_)
 refine OA.next trivial ?_
 refine aF (qn (rg (pu 1 [(27, B r299.2)] (nx (br f (fun f cc => ?_) fun f cc => ?_)))))
 ·refine CW.tail 7 (by kernel_rfl) (by kernel_rfl) ?_
  intro fj bm
  have b := b.same bm
  refine op' 2 [(28, Pt h), (29, Po t 1)] ((od b 1) (op' 3 [(31, U r299.1), (33, Po h 5)] ((be f) fun x W f => ?_)))
  refine OS.op (v := .pointer (some ⟨h, 5 + Int.toNat g.D * 1, none⟩)) rfl rfl rfl rfl rfl (fun a m => zy (n := 8) 26 1 rfl rfl rfl (zn W).1 (zn W).2.1 (by kernel_rfl) (by kernel_rfl) a _ m) ?_
  refine OS.on ?_
  refine OW.stA b 0 rfl rfl rfl rfl rfl (by kernel_rfl) rfl (zx .u64) (fun _ => rfl) 8 s.rg 5 rfl rfl W 0 rfl rfl r299.1 rfl (U s.Ev.A :: U s.Ev.B :: Sl bc (s.mo.Ms).length bd :: Sl bf (s.mo.Co).length bg :: Pt bh :: aU8 (zW s.rg x r299.1) (zep s.tu [I s.at_, I s.sp, I s.sa])) rfl ?_
  intro fk b
  refine nl (bn (qn (rg (pu 1 [(4, I 1)] (nx (rt (have b := b.ti 2; have b := b.ti 3; ?_)))))))
  obtain ⟨de, b⟩ := b.s3 zbc 0 2 3 4 [1] (zg.mk s.Ev s.mo s.sc (zW s.rg x r299.1) s.tu s.at_ s.sp s.sa)
  obtain rfl := ij f
  exact r1 (K de _ (b.k [1]))
 refine sq ?_
 refine CW.plan (by kernel_rfl) ?_
 intro fl bo
 have b := b.same bo
 refine ap [0] [(36, Pt t)] ((ad 1 b 1) (ap [2, 3] [(38, Pt h), (39, Po t 2)] ((ad 4 b 1) (ap [5, 6] [(42, Po h 5)] ?_))))
 refine OA.val (i := 7) (v := .pointer (some ⟨h, 5 + Int.toNat g.A * 1, none⟩)) rfl (by kernel_rfl) rfl rfl rfl rfl (fun a w m => zy (n := 8) 26 1 rfl rfl rfl (zn q).1 (zn q).2.1 (by kernel_rfl) (by kernel_rfl) a w m) ?_
 refine OA.ld (i := 8) rfl (by kernel_rfl) rfl rfl rfl (by kernel_rfl) (b.arrB 0 rfl (zx .u64) (fun _ => rfl) 8 s.rg 5 rfl rfl q 0 _ rfl) ?_
 refine ap [9] [(45, Pt h)] ?_
 refine OA.ldN (i := 10) (cs := [I g.Op, I g.D, I g.A, I g.B, I g.Imm]) rfl (by kernel_rfl) rfl rfl rfl (by kernel_rfl) (by kernel_rfl) (b.blkN 1 rfl 0 5) ?_
 refine (aa 11 [8, 4, 1]) ((be f) fun fm cd f => (fn) (qS cd (b.p []) (b.rdB 0 rfl [] rfl) fun fo bp => ⟨_, rfl, have b := b.j [] [0, 1, 2, 3, 4] bp; ?_⟩))
 refine OA.next ⟨(b.arrB 0 rfl (zx .u64) (fun _ => rfl) 8 s.rg 5 rfl rfl q 0 _ rfl), (b.blk 1 rfl rfl), (b.blk 1 rfl rfl), trivial⟩ ?_
 refine (aa 12 []) ((be f) fun J ce f => (fn) (zeJ ce (b.p []) fun fp bq => ⟨_, rfl, have b := b.j [] [0, 1, 2, 3, 4] bq; ?_⟩))
 refine OA.next trivial ?_
 refine ap [13, 14, 15] [(49, B J.1), (50, B J.2)] ((aa 16 []) (pu 1 [(7, B J.1)] ?_))
 refine OA.next trivial ?_
 refine (aa 17 []) (pu 1 [(8, B J.2)] ?_)
 refine OA.next trivial ?_
 refine aF (qn (rg (pu 1 [(51, B J.1)] (nx (br f (fun f cf => ?_) fun f cf => ?_)))))
 ·refine rg (pu 1 [(52, Po t 1)] ((ld b 1) (pu 2 [(4, I (w64 (g.D + 1)))] (nx (rt (bt (tr (have b := b.ti 2; have b := b.ti 3; ?_))))))))
  obtain ⟨df, b⟩ := b.s3 zbc 0 2 3 4 [1] s
  obtain rfl := ij f
  exact r1 (K df _ (b.k [1]))
 refine sk (bn (qn (rg (pu 1 [(4, I 1)] (nx (rt (have b := b.ti 2; have b := b.ti 3; ?_)))))))
 obtain ⟨dg, b⟩ := b.s3 zbc 0 2 3 4 [1] s
 obtain rfl := ij f
 exact r1 (K dg _ (b.k [1]))
theorem zdB {w Z fu v0 S0 s r R} (c : qI fu s = some r) (b : St w Z w [itI zfG [v0] S0 s]) (ak : Rd w Z (.slice (some ⟨1, 0, none⟩) 7 7) qi 5 zbe)
  (K : ∀ (s0 : List Nat) w', St w Z w' [itI zfG [v0] s0 r.2] -> R (Rt (Ag [I r.1.Ki, I r.1.Pc, I r.1.It.Map, I r.1.It.Op, U r.1.It.Key, U r.1.It.Val, U r.1.Val])) w') : Calls Tryz.prog 19 [v0].toArray w R := by
 refine sr 99 Tryz.func19 rfl ?_
 obtain ⟨d, rfl⟩ := b.fq 0
 refine rg ((al b [I 0, I 0, I 0, I 0, U 0, U 0, U 0]) fun b4 w5 b => nx (sq (sq ?_)))
 obtain ⟨v6, S7, v8, S9, bd, bf, b⟩ := b.o3 0
 refine have b := b.t1 2; have b := b.t1 3; ?_
 obtain ⟨bg, t, u, rfl⟩ := b.le 2
 obtain ⟨bh, x, y, rfl⟩ := b.le 3
 obtain ⟨z, rfl⟩ := b.fq 4
 have b : St _ _ _ [zs d 96 (U s.Ev.A :: U s.Ev.B :: Sl t (s.mo.Ms).length u :: Sl x (s.mo.Co).length y :: Pt z :: aU8 s.rg (zep s.tu [I s.at_, I s.sp, I s.sa])), _, _, _, _] := b
 refine rn (pu 3 [(7, Po d 79)] ((ld b 0) (nx (bl (rg (pu 2 [(9, B (s.sa == 1))] (nx (br c (fun c ae => ?_) fun c ae => ?_))))))))
 ·refine rg (pu 3 [(13, Po d 77)] ((ld b 0) (pu 1 [(15, Ag [I 5, I s.at_, I 0, I 0, U 0, U 0, U 0])] ((st b 1 [I 5, I s.at_, I 0, I 0, U 0, U 0, U 0]) fun bi b => nx (rt (bt (tr (have b := b.ti 2; have b := b.ti 3; ?_))))))))
  obtain ⟨am, b⟩ := b.s3 zbc 0 2 3 4 [1] s
  obtain rfl := ij c
  exact QW.ret_c rfl rfl (rl (cs := [I 5, I s.at_, I 0, I 0, U 0, U 0, U 0]) (b.blkN 0 rfl 0 7)) (K am _ (b.k [1]))
 refine rg (pu 2 [(16, B (s.sa == 2))] (nx (br c (fun c af => ?_) fun c af => ?_)))
 ·refine sq ?_
  refine CW.tail 22 (by kernel_rfl) (by kernel_rfl) ?_
  intro bj W
  have b := b.same W
  refine op' 3 [(20, Po d 77)] ((od b 0) (op' 5 [(22, Pt d), (26, Po d 3)] ((od b 0) (op' 3 [(30, Po d 77)] ((od b 0) ((be c) fun an h c => ?_))))))
  obtain ⟨ao, aq, bk, C⟩ := b.rowv 3 rfl h
  refine OS.idx 43 5 rfl rfl rfl rfl rfl C rfl (zh h).1 (zh h).2.1 (by kernel_rfl) (by kernel_rfl) ?_
  refine op' 1 [(33, .pointer (some ⟨ao, aq + Int.toNat s.at_ * 5 + 2, none⟩))] ?_
  refine OS.ld rfl rfl rfl rfl rfl (by kernel_rfl) (b.rowc 3 rfl (fun _ => rfl) h C 2 _ rfl) ?_
  refine op' 2 [(36, Po d 5)] ((be c) fun E l c => ?_)
  refine OS.op (v := .pointer (some ⟨d, 5 + Int.toNat an.A * 1, none⟩)) rfl rfl rfl rfl rfl (fun a ha => zy (n := 8) 26 1 rfl rfl rfl (zn l).1 (zn l).2.1 (by kernel_rfl) (by kernel_rfl) a _ ha) ?_
  refine OS.ld rfl rfl rfl rfl rfl (by kernel_rfl) (b.arrB 0 rfl (zx .u64) (fun _ => rfl) 8 s.rg 5 rfl rfl l 0 _ rfl) ?_
  refine op' 1 [(39, Ag [I 6, I s.at_, I 0, I 0, U 0, U 0, U (s.rg E)])] ?_
  refine OS.on ?_
  refine (st b 1 [I 6, I s.at_, I 0, I 0, U 0, U 0, U (s.rg E)]) fun bm b => nx (rt (bt (tr (have b := b.ti 2; have b := b.ti 3; ?_))))
  obtain ⟨ar, b⟩ := b.s3 zbc 0 2 3 4 [1] s
  obtain rfl := ij c
  exact QW.ret_c rfl rfl (rl (cs := [I 6, I s.at_, I 0, I 0, U 0, U 0, U (s.rg E)]) (b.blkN 0 rfl 0 7)) (K ar _ (b.k [1]))
 refine sk (bn (qn (rg (pu 3 [(40, Pt d), (42, Po d 78)] ((ld b 0) (pu 3 [(44, I (w64 (s.sp + 1))), (46, Po d 78)] ((st b 0 (U s.Ev.A :: U s.Ev.B :: Sl t (s.mo.Ms).length u :: Sl x (s.mo.Co).length y :: Pt z :: aU8 s.rg (zep s.tu [I s.at_, I (w64 (s.sp + 1)), I s.sa]))) fun bo b => nx (sq ?_))))))))
 refine CW.plan (by kernel_rfl) ?_
 intro bp X
 have b := b.same X
 refine ap [0, 1, 2, 3] [(50, Po d 3)] ((ad 4 b 0) (ap [5, 6, 7] [(54, Po d 77)] ((ad 8 b 0) ((be c) fun e g c => ?_))))
 obtain ⟨bq, bs, bu, m⟩ := b.rowv 3 rfl g
 refine OA.idx (i := 9) 43 5 rfl (by kernel_rfl) rfl rfl rfl m rfl (zh g).1 (zh g).2.1 (by kernel_rfl) (by kernel_rfl) ?_
 refine OA.ldN (i := 10) (cs := zj e) rfl (by kernel_rfl) rfl rfl rfl (by kernel_rfl) (by kernel_rfl) (b.rowc 3 rfl (fun _ => rfl) g m) ?_
 refine (aa 11 [10, 8, 4]) ((al b [I 0, I 0, I 0, I 0, I 0]) fun F bv b => ?_)
 refine OA.next ⟨(b.rowc 3 rfl (fun _ => rfl) g m), (b.blk 0 rfl rfl), (b.blk 0 rfl rfl), trivial⟩ ?_
 refine (aa 12 []) ((st b 5 [I e.Op, I e.D, I e.A, I e.B, I e.Imm]) fun bw b => ?_)
 refine OA.next trivial ?_
 refine aF (qn (sq (rg (pu 1 [(58, Pt F)] ((ld b 5) (nx (bl (rg (pu 2 [(60, B (e.Op == 21))] (nx (br c (fun c ag => ?_) fun c ag => ?_)))))))))))
 ·refine rg (pu 2 [(62, Pt d), (63, Po F 4)] ((ld b 5) (have b := b.ti 2; have b := b.ti 3; ?_)))
  obtain ⟨bx, b⟩ := b.s3 zbc 0 2 3 4 [1, 5] (zg.mk s.Ev s.mo s.sc s.rg s.tu s.at_ (w64 (s.sp + 1)) s.sa)
  refine (be c) fun f ah c => (fn) (zdz ah (b.p [2]) (ak.give b [2]) fun au bz Y => ⟨_, rfl, have b := b.j [2] [0, 1] Y; (st b 1 [I f.1.Ki, I f.1.Pc, I f.1.It.Map, I f.1.It.Op, U f.1.It.Key, U f.1.It.Val, U f.1.Val]) fun b0 b => nx (rt (bt (tr ?_)))⟩)
  obtain rfl := ij c
  exact QW.ret_c rfl rfl (rl (cs := [I f.1.Ki, I f.1.Pc, I f.1.It.Map, I f.1.It.Op, U f.1.It.Key, U f.1.It.Val, U f.1.Val]) (b.blkN 1 rfl 0 7)) (K au _ (b.k [0]))
 refine rg (pu 2 [(66, B (e.Op == 22))] (nx (br c (fun c ai => ?_) fun c ai => ?_)))
 ·refine rg (pu 3 [(70, Po d 79)] ((st b 0 (U s.Ev.A :: U s.Ev.B :: Sl t (s.mo.Ms).length u :: Sl x (s.mo.Co).length y :: Pt z :: aU8 s.rg (zep s.tu [I s.at_, I (w64 (s.sp + 1)), I 2]))) fun b2 b => nx (sq ?_)))
  refine CW.tail 12 (by kernel_rfl) (by kernel_rfl) ?_
  intro b3 ab
  have b := b.same ab
  refine op' 3 [(73, Po d 77)] ((od b 0) (op' 2 [(75, Pt d), (76, Po F 2)] ((od b 5) (op' 2 [(79, Po d 5)] ((be c) fun G o c => ?_)))))
  refine OS.op (v := .pointer (some ⟨d, 5 + Int.toNat e.A * 1, none⟩)) rfl rfl rfl rfl rfl (fun a ha => zy (n := 8) 26 1 rfl rfl rfl (zn o).1 (zn o).2.1 (by kernel_rfl) (by kernel_rfl) a _ ha) ?_
  refine OS.ld rfl rfl rfl rfl rfl (by kernel_rfl) (b.arrB 0 rfl (zx .u64) (fun _ => rfl) 8 s.rg 5 rfl rfl o 0 _ rfl) ?_
  refine op' 1 [(82, Ag [I 4, I s.at_, I 0, I 0, U 0, U 0, U (s.rg G)])] ?_
  refine OS.on ?_
  refine (st b 1 [I 4, I s.at_, I 0, I 0, U 0, U 0, U (s.rg G)]) fun b5 b => nx (rt (bt (tr (have b := b.ti 2; have b := b.ti 3; ?_))))
  obtain ⟨av, b⟩ := b.s3 zbc 0 2 3 4 [1, 5] (zg.mk s.Ev s.mo s.sc s.rg s.tu s.at_ (w64 (s.sp + 1)) 2)
  obtain rfl := ij c
  exact QW.ret_c rfl rfl (rl (cs := [I 4, I s.at_, I 0, I 0, U 0, U 0, U (s.rg G)]) (b.blkN 0 rfl 0 7)) (K av _ (b.k [2]))
 refine sk (bn (qn (rg (pu 3 [(85, Po d 77)] ((ld b 0) (pu 1 [(87, Ag [I 1, I s.at_, I 0, I 0, U 0, U 0, U 0])] ((al b [I 0, I 0, I 0, I 0, U 0, U 0, U 0]) fun aw ax b => (st b 6 [I 1, I s.at_, I 0, I 0, U 0, U 0, U 0]) fun ay b => nx (sq ?_))))))))
 refine CW.plan (by kernel_rfl) ?_
 intro az H
 have b := b.same H
 refine ap [0, 1, 2] [(88, Pt d), (90, Po d 77)] ((ad 3 b 0) (ap [4] [(92, Pt d)] ?_))
 refine OA.ldN (i := 5) (cs := [I e.Op, I e.D, I e.A, I e.B, I e.Imm]) rfl (by kernel_rfl) rfl rfl rfl (by kernel_rfl) (by kernel_rfl) (b.blkN 5 rfl 0 5) ?_
 refine (aa 6 [3]) (have b := b.ti 2; have b := b.ti 3; ?_)
 obtain ⟨a0, b⟩ := b.s3 zbc 0 2 3 4 [1, 5, 6] (zg.mk s.Ev s.mo s.sc s.rg s.tu s.at_ (w64 (s.sp + 1)) s.sa)
 refine (be c) fun r132 q c => (fn) (zd0 q (b.p [3]) fun a1 a2 J => ⟨_, rfl, ?_⟩)
 have ac := zbU q
 refine have b := b.j [3] [0, 1, 2] J; ?_
 obtain ⟨a3, a4, a5, a6, a7, a8, b⟩ := b.o3 0
 refine have b := b.t1 4; have b := b.t1 5; ?_
 obtain ⟨a9, M, O, rfl⟩ := b.le 4
 obtain ⟨ba, Q, T, rfl⟩ := b.le 5
 obtain ⟨V, rfl⟩ := b.fq 6
 have b : St _ _ _ [zs d 96 (U r132.2.Ev.A :: U r132.2.Ev.B :: Sl M (r132.2.mo.Ms).length O :: Sl Q (r132.2.mo.Co).length T :: Pt V :: aU8 r132.2.rg (zep r132.2.tu [I r132.2.at_, I r132.2.sp, I r132.2.sa])), _, _, _, _, _, _] := b
 refine OA.next ⟨((b.blk 0 rfl rfl).trans (congrArg some (congrArg (Value.int .i64) ac))), trivial⟩ ?_
 refine ap [7, 8, 9] [(95, I (w64 (s.at_ + r132.1))), (97, Po d 77)] ((aa 10 []) ((st b 0 (U r132.2.Ev.A :: U r132.2.Ev.B :: Sl M (r132.2.mo.Ms).length O :: Sl Q (r132.2.mo.Co).length T :: Pt V :: aU8 r132.2.rg (zep r132.2.tu [I (w64 (s.at_ + r132.1)), I r132.2.sp, I r132.2.sa]))) fun bb b => ?_))
 refine OA.next trivial ?_
 refine aF (qn (rg ((lN [I 1, I s.at_, I 0, I 0, U 0, U 0, U 0] (b.blkN 3 rfl 0 7)) ((st b 1 [I 1, I s.at_, I 0, I 0, U 0, U 0, U 0]) fun bc b => nx (rt (have b := b.ti 4; have b := b.ti 5; ?_))))))
 obtain ⟨aj, b⟩ := b.s3 zbc 0 4 5 6 [1, 2, 3] (zg.mk r132.2.Ev r132.2.mo r132.2.sc r132.2.rg r132.2.tu (w64 (s.at_ + r132.1)) r132.2.sp r132.2.sa)
 obtain rfl := ij c
 exact QW.ret_c rfl rfl (rl (cs := [I 1, I s.at_, I 0, I 0, U 0, U 0, U 0]) (b.blkN 0 rfl 0 7)) (K aj _ (b.k [3]))
theorem zhO {w Z f s r R} (c : zbX f s = some r) (b : St w Z w [])
  (K : ∀ w', St w Z w' [] -> R (Rt (U r)) w') : Calls Tryz.prog 32 [I f, Ag [I s.E, B s.Found, U s.Val, B s.Out, U s.OutKey, U s.OutVal]].toArray w R := by
 refine sr 23 Tryz.func32 rfl (rg ((bx b [I s.E, B s.Found, U s.Val, B s.Out, U s.OutKey, U s.OutVal]) fun h v b => pu 1 [] (nx (rg (pu 1 [(5, B false)] (nx (sq (rg (pu 1 [(6, I f)] (nx (bl (sq (rg (pu 2 [(7, B (f == 0))] (nx ((be c) fun u g c => ?_))))))))))))))))
 refine ck (fun a i => Rep 23 [(3, Pt h), (5, B false), (6, I f), (7, B u)] a /\ St w Z i [zs h 45 [I s.E, B s.Found, U s.Val, B s.Out, U s.OutKey, U s.OutVal]]) ?_ fun a i ⟨d, b⟩ => go d (br c (fun c p => ?_) fun c p => ?_)
 ·refine br g (fun g q => ?_) fun g q => ?_
  ·refine sk ?_
   obtain rfl := ij g
   exact me fun a d => ⟨d.ag, b.k [0]⟩
  refine rn (pu 2 [(7, B (f == 4))] (nl ?_))
  obtain rfl := ij g
  exact me fun a d => ⟨d.ag, b.k [0]⟩
 ·refine rg (pu 1 [(10, Po h 2)] ((ld b 0) (pu 1 [(4, U s.Val)] (nx (rt (bt (tr ?_)))))))
  obtain rfl := ij c
  exact r1 (K _ (b.k []))
 refine sq (rg (pu 2 [(12, B (f == 1))] (nx ((be c) fun t e c => ?_))))
 refine ck (fun a i => Rep 23 [(3, Pt h), (5, B false), (6, I f), (12, B t)] a /\ St w Z i [zs h 45 [I s.E, B s.Found, U s.Val, B s.Out, U s.OutKey, U s.OutVal]]) ?_ fun a i ⟨d, b⟩ => go d (br c (fun c j => ?_) fun c j => ?_)
 ·refine br e (fun e l => ?_) fun e l => ?_
  ·refine sk ?_
   obtain rfl := ij e
   exact me fun a d => ⟨d.ag, b.k [0]⟩
  refine rn (pu 2 [(12, B (f == 3))] (nl ?_))
  obtain rfl := ij e
  exact me fun a d => ⟨d.ag, b.k [0]⟩
 ·refine rn (pu 1 [(15, Po h 1)] ((ld b 0) (pu 1 [(5, B s.Found)] (nl (bn (qn (sq (rg (pu 1 [(22, B s.Found)] (nx (br c (fun c m => ?_) fun c m => ?_)))))))))))
  ·refine rg (pu 1 [(4, U 1)] (nx (rt (tr ?_))))
   obtain rfl := ij c
   exact r1 (K _ (b.k []))
  refine sn (rg (pu 1 [(4, U 0)] (nx (rt ?_))))
  obtain rfl := ij c
  exact r1 (K _ (b.k []))
 refine rg (pu 2 [(17, B (f == 2))] (nx (br c (fun c n => ?_) fun c n => ?_)))
 ·refine rn (pu 1 [(19, Pt h)] ((ld b 0) (pu 2 [(5, B (s.E == 0))] (nl (bn (qn (sq (rg (pu 1 [(22, B (s.E == 0))] (nx (br c (fun c o => ?_) fun c o => ?_)))))))))))
  ·refine rg (pu 1 [(4, U 1)] (nx (rt (tr ?_))))
   obtain rfl := ij c
   exact r1 (K _ (b.k []))
  refine sn (rg (pu 1 [(4, U 0)] (nx (rt ?_))))
  obtain rfl := ij c
  exact r1 (K _ (b.k []))
 refine sk (bn (qn (sq (rg (pu 1 [(22, B false)] (nx (cf rfl (sn (rg (pu 1 [(4, U 0)] (nx (rt ?_))))))))))))
 obtain rfl := ij c
 exact r1 (K _ (b.k []))
theorem zcY {w Z z M s c r R} (e : qN s c = some r) (b : St w Z w [itI zfG [z] M s])
  (K : ∀ (O : List Nat) w', St w Z w' [itI zfG [z] O r.2] -> R (Rt (I r.1)) w') : Calls Tryz.prog 18 [z, Ag [I c.E, B c.Found, U c.Val, B c.Out, U c.OutKey, U c.OutVal]].toArray w R := by
 refine sr 38 Tryz.func18 rfl ?_
 obtain ⟨d, rfl⟩ := b.fq 0
 refine rg ((bx b [I c.E, B c.Found, U c.Val, B c.Out, U c.OutKey, U c.OutVal]) fun b4 w5 b => pu 1 [] (nx (sq (sq ?_))))
 obtain ⟨v6, S7, v8, S9, T, V, b⟩ := b.o3 0
 refine have b := b.t1 2; have b := b.t1 3; ?_
 obtain ⟨W, g, h, rfl⟩ := b.le 2
 obtain ⟨X, l, m, rfl⟩ := b.le 3
 obtain ⟨o, rfl⟩ := b.fq 4
 have b : St _ _ _ [zs d 96 (U s.Ev.A :: U s.Ev.B :: Sl g (s.mo.Ms).length h :: Sl l (s.mo.Co).length m :: Pt o :: aU8 s.rg (zep s.tu [I s.at_, I s.sp, I s.sa])), _, _, _, _] := b
 refine rn (pu 3 [(7, Po d 79)] ((ld b 0) (pu 1 [(9, B (s.sa != 1))] (nx (br e (fun e C => ?_) fun e C => ?_)))))
 ·refine rg (pu 1 [(4, I 2)] (nx (rt (tr (have b := b.ti 2; have b := b.ti 3; ?_)))))
  obtain ⟨F, b⟩ := b.s3 zbc 0 2 3 4 [1] s
  obtain rfl := ij e
  exact r1 (K F _ (b.k [1]))
 refine sn (sq ?_)
 refine CW.plan (by kernel_rfl) ?_
 intro Y x
 have b := b.same x
 refine ap [0, 1, 2, 3, 4] [(10, Pt d), (14, Po d 3)] ((ad 5 b 0) (ap [6, 7, 8] [(18, Po d 77)] ((ad 9 b 0) ((be e) fun ab f e => ?_))))
 obtain ⟨G, H, ac, u⟩ := b.rowv 3 rfl f
 refine OA.idx (i := 10) 43 5 rfl (by kernel_rfl) rfl rfl rfl u rfl (zh f).1 (zh f).2.1 (by kernel_rfl) (by kernel_rfl) ?_
 refine ap [11] [(21, .pointer (some ⟨G, H + Int.toNat s.at_ * 5 + 4, none⟩))] ?_
 refine OA.ld (i := 12) rfl (by kernel_rfl) rfl rfl rfl (by kernel_rfl) (b.rowc 3 rfl (fun _ => rfl) f u 4 _ rfl) ?_
 refine OA.ldN (i := 13) (cs := [I c.E, B c.Found, U c.Val, B c.Out, U c.OutKey, U c.OutVal]) rfl (by kernel_rfl) rfl rfl rfl (by kernel_rfl) (by kernel_rfl) (b.blkN 1 rfl 0 6) ?_
 refine ap [15, 16] [(26, Po d 5)] ((aa 14 []) ((be e) fun t D e => (fn) (zhO D (b.p []) fun ae y => ⟨_, rfl, have b := b.j [] [0, 1, 2, 3, 4] y; ?_⟩)))
 refine OA.next trivial ?_
 refine OA.val (i := 17) (v := Po d 5) rfl (by kernel_rfl) rfl rfl rfl rfl (fun a w Q => zy (n := 8) (q := 0) 26 1 rfl rfl rfl (by decide) (by decide) (by kernel_rfl) (by kernel_rfl) a w Q) ?_
 refine (aa 18 []) ((st b 0 (U s.Ev.A :: U s.Ev.B :: Sl g (s.mo.Ms).length h :: Sl l (s.mo.Co).length m :: Pt o :: U t :: U (s.rg 1) :: U (s.rg 2) :: U (s.rg 3) :: U (s.rg 4) :: U (s.rg 5) :: U (s.rg 6) :: U (s.rg 7) :: zep s.tu [I s.at_, I s.sp, I s.sa])) fun af b => ?_)
 refine OA.next trivial ?_
 refine aF (qn (rg (pu 3 [(28, Pt d), (30, Po d 77)] ((ld b 0) (pu 3 [(32, I (w64 (s.at_ + 1))), (34, Po d 77)] ((st b 0 (U s.Ev.A :: U s.Ev.B :: Sl g (s.mo.Ms).length h :: Sl l (s.mo.Co).length m :: Pt o :: U t :: U (s.rg 1) :: U (s.rg 2) :: U (s.rg 3) :: U (s.rg 4) :: U (s.rg 5) :: U (s.rg 6) :: U (s.rg 7) :: zep s.tu [I (w64 (s.at_ + 1)), I s.sp, I s.sa])) fun ag b => nx (rg (pu 3 [(37, Po d 79)] ((st b 0 (U s.Ev.A :: U s.Ev.B :: Sl g (s.mo.Ms).length h :: Sl l (s.mo.Co).length m :: Pt o :: U t :: U (s.rg 1) :: U (s.rg 2) :: U (s.rg 3) :: U (s.rg 4) :: U (s.rg 5) :: U (s.rg 6) :: U (s.rg 7) :: zep s.tu [I (w64 (s.at_ + 1)), I s.sp, I 0])) fun ah b => nx (rg (pu 1 [(4, I 0)] (nx (rt (have b := b.ti 2; have b := b.ti 3; ?_))))))))))))))
 obtain ⟨J, b⟩ := b.s3 zbc 0 2 3 4 [1] (zg.mk s.Ev s.mo s.sc (zW s.rg 0 t) s.tu (w64 (s.at_ + 1)) s.sp 0)
 obtain rfl := ij e
 exact r1 (K J _ (b.k [1]))
theorem zd1 {w Z fu Y ab C m v2 p2 r R} (o : zbK fu C m p2 = some r) (s : St w Z w []) (O : Rd w Z Y (zx .i64) 1 C.Ms) (Q : Rd w Z ab zj 5 C.Co) (h2 : Rd w Z v2 qk 6 p2) (bv : Rd w Z (.slice (some ⟨0, 0, none⟩) 23 23) zJ 2 vJ) (bi : Rd w Z (.slice (some ⟨1, 0, none⟩) 7 7) qi 5 zbe)
  (K : ∀ (x0 : Value) w', St w Z w' [qH x0 80 qe 7 r.1] -> R (Rt (.tuple #[x0, I r.2])) w') : Calls Tryz.prog 8 [Ag [Y, ab], Ag [U m.A, U m.B], v2].toArray w R := by
 refine sr 52 Tryz.func8 rfl ?_
 obtain ⟨l1, a2, c3, rfl⟩ := O.len
 obtain ⟨l4, a5, c6, rfl⟩ := Q.len
 obtain ⟨l7, a8, c9, rfl⟩ := h2.len
 refine rg ((bx s [Sl a2 (C.Ms).length c3, Sl a5 (C.Co).length c6]) fun cu cv s => (bx s [U m.A, U m.B]) fun cw cx s => pu 2 [] (nx (sq ?_)))
 refine CW.plan (by kernel_rfl) ?_
 intro cy ay
 have s := s.same ay
 refine OA.ldN (i := 0) (cs := [Sl a2 (C.Ms).length c3, Sl a5 (C.Co).length c6]) rfl (by kernel_rfl) rfl rfl rfl (by kernel_rfl) (by kernel_rfl) (s.blkN 0 rfl 0 2) ?_
 refine OA.ldN (i := 1) (cs := [U m.A, U m.B]) rfl (by kernel_rfl) rfl rfl rfl (by kernel_rfl) (by kernel_rfl) (s.blkN 1 rfl 0 2) ?_
 refine (aa 2 [1, 0]) ((be o) fun d bj o => (fn) (zgU bj (s.p []) fun cz bw c0 az => ⟨_, rfl, have s := s.j [] [0, 1] az; ?_⟩))
 obtain ⟨u, rfl⟩ := s.fq 0
 refine OA.next ⟨(s.blkN 2 rfl 0 2), (s.blkN 1 rfl 0 2), trivial⟩ ?_
 refine (aa 3 []) ?_
 refine OW.inl (args := [Ag [Sl a2 (C.Ms).length c3, Sl a5 (C.Co).length c6], Ag [U m.A, U m.B], Pt u]) (M := 35) rfl rfl rfl rfl (by kernel_rfl) Tryz.func12 rfl rfl rfl ?_
 refine rg ((bx s [Sl a2 (C.Ms).length c3, Sl a5 (C.Co).length c6]) fun ac bz s => (bx s [U m.A, U m.B]) fun b0 b1 s => pu 2 [] (nx (sq (rg (pu 2 [(11, B false)] (nx (cf rfl (sn (sq (rg ((lN [Sl a2 (C.Ms).length c3, Sl a5 (C.Co).length c6] (s.blkN 3 rfl 0 2)) ((be o) fun r114 a0 o => (fn) (zgY a0 (s.p []) (Bor.refl _ _) (O.give s []) (Q.give s []) (bv.give s []) (bi.give s []) fun b2 ae => ⟨_, rfl, have s := s.j [] [0, 1, 2, 3, 4] ae; pu 5 [(9, I r114.2)] (nx (rg (pu 2 [(18, B (r114.2 != 0))] (nx (br o (fun o a1 => ?_) fun o a1 => ?_)))))⟩)))))))))))))
 ·refine rg (pu 3 [(6, .pointer none), (7, I r114.2)] (nx (rt (tr ?_))))
  refine QW.ret2 rfl rfl rfl ?_
  refine ⟨_, rfl, ?_⟩
  refine OA.next trivial ?_
  refine ap [4, 5, 6] [(17, .pointer none), (18, I r114.2)] ((aa 7 []) (pu 1 [(8, .pointer none)] ?_))
  refine OA.next trivial ?_
  refine (aa 8 []) (pu 1 [(9, I r114.2)] ?_)
  refine OA.next trivial ?_
  refine aF (qn (sq (rg (pu 2 [(20, B (r114.2 != 0))] (nx (br o (fun o a3 => ?_) fun o a3 => ?_))))))
  ·refine rg (pu 3 [(6, Sn), (7, I r114.2)] (nx (rt (tr ?_))))
   have s := s.nilRow zA 80 qe 7
   obtain rfl := ij o
   exact r2 (K (Sn) _ (s.k [5]))
  refine sn (rg (pu 1 [(10, Sn)] (nx (bl ?_))))
  refine CW.loop (fun n a J => ∃ (af : Unit), Rep 52 [(2, Sl a8 (p2).length c9), (8, .pointer none), (10, Sn)] a /\ St w Z J [] /\ loop zdI n af = some r) fu (fun a h => ⟨(), h.ag, s.keep [] rfl, o⟩) ?_
  rintro ah a J ⟨af, h, s, W⟩
  rcases ah with _ | ah
  ·exact (jX W).elim
  refine go h (bl (rg (pu 1 [(22, .pointer none)] ?_)))
  cases W
 refine sn (sq ?_)
 have s := s.openQ0 0 rfl
 refine rn (pu 3 [(22, Pt u)] ((be o) fun r128 a4 o => ?_))
 refine OW.fn rfl rfl rfl rfl (by kernel_rfl) (zdY _ u 59 [] (zdD d.Ct.cn []) d.Wo r128 a4 (s.part [0] rfl)) ?_
 rintro e b3 ⟨rfl, ai⟩
 refine ⟨_, rfl, ?_⟩
 refine have s := s.j [0] [1, 2, 3, 4] ai; ?_
 have s : St _ _ _ [zs u 59 (zdD r128.wo (zdD d.Ct.cn [])), _, _, _, _] := s
 refine nx (sq ?_)
 refine CW.plan (by kernel_rfl) ?_
 intro b4 aj
 have s := s.same aj
 refine OA.ldN (i := 0) (cs := [U m.A, U m.B]) rfl (by kernel_rfl) rfl rfl rfl (by kernel_rfl) (by kernel_rfl) (s.blkN 4 rfl 0 2) ?_
 refine ap [1] [(25, Pt ac)] ((ad 2 s 3) (ap [4] [(28, Po ac 1)] ((ad 5 s 3) (ap [8] [(32, Pt u)] ((aa 3 [5, 0]) ((be o) fun r154 a6 o => (fn) (zdr a6 (s.p []) (O.give s []) fun b5 b6 ak => ⟨_, rfl, have s := s.j [] [0, 1, 2, 3, 4] ak; ?_⟩)))))))
 obtain ⟨b7, am, an, rfl⟩ := s.le 0
 refine OA.next ⟨(s.blk 4 rfl rfl), (s.blkN 5 rfl 0 2), trivial⟩ ?_
 refine (aa 6 [0]) ((be o) fun r162 a7 o => (fn) (xU a7 (s.p []) (Q.give s []) fun b8 b9 ao => ⟨_, rfl, have s := s.j [] [0, 1, 2, 3, 4, 5] ao; ?_⟩))
 obtain ⟨ca, aq, ar, rfl⟩ := s.le 0
 refine OA.next ⟨(s.blkN 6 rfl 0 2), trivial⟩ ?_
 refine ap [7, 9] [(33, Ag [U m.A, U m.B, Sl am (r154).length an, Sl aq (r162).length ar, Pt u, U 0, U 0, U 0, U 0, U 0, U 0, U 0, U 0, I 0, I 0, I 0, I 0, I 0, I 0, I 0, I 0, I 0, I 0, I 0, I 0, I 0, I 0, I 0, I 0, I 0, I 0, I 0, I 0, I 0, I 0, I 0, I 0, I 0, I 0, I 0, I 0, I 0, I 0, I 0, I 0, I 0, I 0, I 0, I 0, I 0, I 0, I 0, I 0, I 0, I 0, I 0, I 0, I 0, I 0, I 0, I 0, I 0, I 0, I 0, I 0, I 0, I 0, I 0, I 0, I 0, I 0, I 0, I 0, I 0, I 0, I 0, I 0, I 0, I 0, I 0])] ((aa 10 []) ((bx s [U m.A, U m.B, Sl am (r154).length an, Sl aq (r162).length ar, Pt u, U 0, U 0, U 0, U 0, U 0, U 0, U 0, U 0, I 0, I 0, I 0, I 0, I 0, I 0, I 0, I 0, I 0, I 0, I 0, I 0, I 0, I 0, I 0, I 0, I 0, I 0, I 0, I 0, I 0, I 0, I 0, I 0, I 0, I 0, I 0, I 0, I 0, I 0, I 0, I 0, I 0, I 0, I 0, I 0, I 0, I 0, I 0, I 0, I 0, I 0, I 0, I 0, I 0, I 0, I 0, I 0, I 0, I 0, I 0, I 0, I 0, I 0, I 0, I 0, I 0, I 0, I 0, I 0, I 0, I 0, I 0, I 0, I 0, I 0, I 0]) fun q cb s => ?_))
 refine OA.next trivial ?_
 refine (aa 11 []) (pu 1 [(6, Pt q)] ?_)
 refine OA.next trivial ?_
 refine (aa 12 []) (pu 1 [(7, I 0)] ?_)
 refine OA.next trivial ?_
 refine aF (qn (rt ?_))
 refine QW.ret2 rfl rfl rfl ?_
 refine ⟨_, rfl, ?_⟩
 refine OA.next trivial ?_
 refine ap [4, 5, 6] [(17, Pt q), (18, I 0)] ((aa 7 []) (pu 1 [(8, Pt q)] ?_))
 refine OA.next trivial ?_
 refine (aa 8 []) (pu 1 [(9, I 0)] ?_)
 refine OA.next trivial ?_
 refine aF (qn (sq (rg (pu 2 [(20, B false)] (nx (cf rfl (sn (rg (pu 1 [(10, Sn)] (nx (bl ?_)))))))))))
 have s := s.shutP0 (enc := jH) (sz := 32) (he := fun _ => rfl) 2 rfl (zt.mk r128 d.Ct) rfl
 refine have s := s.ti 1; have s := s.ti 0; ?_
 obtain ⟨bk, s⟩ := s.s3 zbc 7 1 0 2 [3, 4, 5, 6] (zg.mk m (zi.mk r154 r162) (zt.mk r128 d.Ct) (fun _ => 0) (fun _ => 0) 0 0 0)
 have s := s.nilRow zA 80 qe 7
 refine CW.loop (fun n a J => ∃ (f : (List zE) × zg × (List zA)) (T : Value) (au : List Nat) (V : Value), Rep 52 [(2, T), (8, Pt q), (10, V)] a /\ St w Z J [itI zfG [Pt q] au f.2.1, qH V 80 qe 7 f.2.2] /\ Rd w Z T qk 6 f.1 /\ loop (zz fu) n f = some r) fu (fun a h => ⟨(p2, (zg.mk m (zi.mk r154 r162) (zt.mk r128 d.Ct) (fun _ => 0) (fun _ => 0) 0 0 0), ([] : List zA)), (Sl a8 (p2).length c9), bk, (Sn), h.ag, s.keep [4, 5] rfl, h2, o⟩) ?_
 rintro G a J ⟨f, T, au, V, h, s, t, c⟩
 rcases G with _ | G
 ·exact (jX c).elim
 refine go h ?_
 obtain ⟨cc, x, l, rfl⟩ := t.len
 obtain ⟨cd, bm, bo, rfl⟩ := s.le 1
 refine bl (rg (pu 1 [(22, Pt q)] ((be c) fun b a9 c => (fn) (zdB a9 (s.p [0]) (bi.give s [0]) fun av ce aw => ⟨_, rfl, have s := s.j [0] [1] aw; (al s [I 0, I 0, I 0, I 0, U 0, U 0, U 0]) fun E cg s => (st s 2 [I b.1.Ki, I b.1.Pc, I b.1.It.Map, I b.1.It.Op, U b.1.It.Key, U b.1.It.Val, U b.1.Val]) fun ch s => nx (rg (pu 1 [(24, Sl bm (f.2.2).length bo)] ((lN [I b.1.Ki, I b.1.Pc, I b.1.It.Map, I b.1.It.Op, U b.1.It.Key, U b.1.It.Val, U b.1.Val] (s.blkN 2 rfl 0 7)) ?_)))⟩))))
 refine OW.row (α := zA) (e := 80) (enc := qe) (sz := 7) s rfl rfl rfl [b.1] rfl (fun _ => rfl) rfl rfl (fun _ => by kernel_rfl) ?_
 intro ci cj s
 refine (be c) fun cl ba c => ?_
 refine OW.app s 1 rfl (fun _ => rfl) (fun _ => rfl) rfl rfl rfl rfl rfl rfl (by kernel_rfl) zn6 (s.rd 3 rfl (fun _ => rfl) [] rfl (s.len 3 rfl).1) (jR ba) ?_
 intro cm cn s
 obtain ⟨co, y, z, rfl⟩ := s.le 1
 refine pu 1 [(10, Sl y ((f.2.2 ++ [b.1])).length z)] (nx (bl (sq (rg (pu 1 [(29, Pt E)] ((ld s 2) (pu 2 [(28, B (b.1.Ki == 4))] (nx ((be c) fun bp g c => ?_)))))))))
 refine ck (fun a J => Rep 52 [(2, Sl x (f.1).length l), (8, Pt q), (10, Sl y ((f.2.2 ++ [b.1])).length z), (11, Pt E), (28, B bp)] a /\ St w Z J [itI zfG [Pt q] av b.2, qH (Sl y ((f.2.2 ++ [b.1])).length z) 80 qe 7 (f.2.2 ++ [b.1]), zs E 80 [I b.1.Ki, I b.1.Pc, I b.1.It.Map, I b.1.It.Op, U b.1.It.Key, U b.1.It.Val, U b.1.Val]]) ?_ fun a J ⟨h, s⟩ => go h (br c (fun c bb => ?_) fun c bb => ?_)
 ·refine br g (fun g bc => ?_) fun g bc => ?_
  ·refine sk ?_
   obtain rfl := ij g
   exact me fun a h => ⟨h.ag, s.k [0, 1, 2]⟩
  refine rn (pu 1 [(32, Pt E)] ((ld s 2) (pu 2 [(35, B (b.1.Ki == 2))] (si 35 g (fun g bd => ?_) fun g bd => ?_))))
  ·refine pu 5 [(28, B (((f.1).length : Int) == 0))] (nl ?_)
   obtain rfl := ij g
   exact me fun a h => ⟨h.ag, s.k [0, 1, 2]⟩
  refine pu 5 [(28, B false)] (nl ?_)
  obtain rfl := ij g
  exact me fun a h => ⟨h.ag, s.k [0, 1, 2]⟩
 ·refine rg (pu 3 [(6, Sl y ((f.2.2 ++ [b.1])).length z), (7, I 0)] (nx (rt (bt (bt (tr (bt ?_)))))))
  obtain rfl := ij c
  exact r2 (K (Sl y ((f.2.2 ++ [b.1])).length z) _ (s.k [1]))
 refine rg (pu 1 [(42, Pt E)] ((ld s 2) (pu 2 [(41, B (b.1.Ki == 2))] (nx (br c (fun c bf => ?_) fun c bf => ?_)))))
 ·refine rg (pu 2 [(45, Pt q), (46, Sl x (f.1).length l)] ((be c) fun bq H c => ?_))
  obtain ⟨cp, cq, cr, X⟩ := t.formv (fun _ => ⟨_, rfl⟩) H
  refine (ix 45 6 H X) ((lN (qk bq) (t.cellv s H X)) ((be c) fun bs bg c => (fn) (zcY bg (s.p [0]) fun bu ct ax => ⟨_, rfl, have s := s.j [0] [1, 2] ax; nx (rn (pu 1 [(50, Sl x (f.1).length l)] ((be c) fun D F c => ?_)))⟩)))
  refine OW.op (v := .slice (shd x l (Int.toNat 1) 6) (D).length (l - Int.toNat 1)) rfl rfl rfl rfl (fun a h => zmX (e := 45) 6 rfl rfl rfl rfl F (by kernel_rfl) (by kernel_rfl) a _ h) ?_
  have bh := t.part F
  exact pu 1 [(2, .slice (shd x l (Int.toNat 1) 6) (D).length (l - Int.toNat 1))] (nl (bn (bn (me fun a h => ⟨G, zls _, (D, bs.2, (f.2.2 ++ [b.1])), (.slice (shd x l (Int.toNat 1) 6) (D).length (l - Int.toNat 1)), bu, (Sl y ((f.2.2 ++ [b.1])).length z), h.ag, s.k [0, 1], bh, c⟩))))
 exact sk (bn (bn (me fun a h => ⟨G, zls _, (f.1, b.2, (f.2.2 ++ [b.1])), (Sl x (f.1).length l), av, (Sl y ((f.2.2 ++ [b.1])).length z), h.ag, s.k [0, 1], t, c⟩)))
theorem zey {w Z fu r R} (l : zbj fu = some r) (s : St w Z w []) (D : Rd w Z (.slice (some ⟨0, 0, none⟩) 23 23) zJ 2 vJ) (E : Rd w Z (.slice (some ⟨1, 0, none⟩) 7 7) qi 5 zbe)
  (K : ∀ w', St w Z w' [] -> R (Rt (B r)) w') : Calls Tryz.prog 6 [].toArray w R := by
 refine sr 33 Tryz.func6 rfl (rg (pu 1 [] (nx (rg ((be l) fun V z l => (fn) (zeY z (s.p []) fun W X Y t => ⟨_, rfl, have s := s.j [] [] t; ?_⟩))))))
 obtain ⟨aa, ab, ac, rfl⟩ := s.le 0
 obtain ⟨ad, ae, af, rfl⟩ := s.le 1
 refine pu 2 [(5, Ag [U 20, U 3]), (6, Ag [I 0, B true, U 9, B false, U 0, U 0])] ?_
 refine OW.row (α := zE) (e := 45) (enc := qk) (sz := 6) s rfl rfl rfl [(zE.mk 0 true 9 false 0 0)] rfl (fun _ => rfl) rfl rfl (fun _ => by kernel_rfl) ?_
 intro ah ai s
 refine (be l) fun g A l => (fn) (zd1 A (s.p []) (s.rd 0 rfl (fun _ => rfl) [] rfl (s.len 0 rfl).1) (s.rd 1 rfl (fun _ => rfl) [] rfl (s.len 1 rfl).1) (s.rd 2 rfl (fun _ => rfl) [] rfl (s.len 2 rfl).1) (D.give s []) (E.give s []) fun aj ak u => ⟨_, rfl, have s := s.j [] [0, 1, 2] u; ?_⟩)
 obtain ⟨al, o, q, rfl⟩ := s.le 0
 refine pu 5 [(1, Sl o (g.1).length q), (2, I g.2)] (nx (sq ((be l) fun F b l => ?_)))
 refine ck (fun a G => Rep 33 [(0, B F)] a /\ St w Z G []) ?_ fun a G ⟨f, s⟩ => go f (rt ?_)
 ·refine rn (pu 3 [(13, B (g.2 == 0))] (si 13 b (fun b C => ?_) fun b C => ?_))
  ·refine pu 5 [(18, B (((g.1).length : Int) == 4))] (si 18 b (fun b x => ?_) fun b x => ?_)
   ·refine pu 1 [(19, Sl o (g.1).length q)] ((be b) fun c h b => ?_)
    obtain ⟨H, J, M, m⟩ := s.rowv 0 rfl h
    refine (ix 80 7 h m) ((lN (qe c) (s.rowc 0 rfl (fun _ => rfl) h m)) (pu 2 [(23, Ag [I 2, I 2, I 2, I 0, U 20, U 0, U 0])] ?_))
    refine OW.op (v := B ((c.Ki == 2) && ((c.Pc == 2) && (((c.It.Map == 2) && ((c.It.Op == 0) && ((c.It.Key == 20) && ((c.It.Val == 0) && true)))) && ((c.Val == 0) && true))))) rfl rfl rfl rfl (fun a f => zgL rfl rfl rfl (by kernel_rfl) (by kernel_rfl) a _ f) ?_
    refine pu 2 [(26, B ((c.Ki == 2) && ((c.Pc == 2) && (((c.It.Map == 2) && ((c.It.Op == 0) && ((c.It.Key == 20) && ((c.It.Val == 0) && true)))) && ((c.Val == 0) && true)))))] (si 26 b (fun b y => ?_) fun b y => ?_)
    ·refine pu 1 [(27, Sl o (g.1).length q)] ((be b) fun d i b => ?_)
     obtain ⟨O, Q, T, n⟩ := s.rowv 0 rfl i
     refine (ix 80 7 i n) ((lN (qe d) (s.rowc 0 rfl (fun _ => rfl) i n)) (pu 1 [(30, Ag [I 4, I 3, I 0, I 0, U 0, U 0, U 9])] ?_))
     refine OW.op (v := B ((d.Ki == 4) && ((d.Pc == 3) && (((d.It.Map == 0) && ((d.It.Op == 0) && ((d.It.Key == 0) && ((d.It.Val == 0) && true)))) && ((d.Val == 9) && true))))) rfl rfl rfl rfl (fun a f => zgL rfl rfl rfl (by kernel_rfl) (by kernel_rfl) a _ f) ?_
     refine pu 2 [(0, B ((d.Ki == 4) && ((d.Pc == 3) && (((d.It.Map == 0) && ((d.It.Op == 0) && ((d.It.Key == 0) && ((d.It.Val == 0) && true)))) && ((d.Val == 9) && true)))))] (nl ?_)
     obtain rfl := ij b
     exact me fun a f => ⟨f.ag, s.k []⟩
    refine pu 7 [(0, B false)] (nl ?_)
    obtain rfl := ij b
    exact me fun a f => ⟨f.ag, s.k []⟩
   refine pu 15 [(0, B false)] (nl ?_)
   obtain rfl := ij b
   exact me fun a f => ⟨f.ag, s.k []⟩
  refine pu 20 [(0, B false)] (nl ?_)
  obtain rfl := ij b
  exact me fun a f => ⟨f.ag, s.k []⟩
 obtain rfl := ij l
 exact r1 (K _ (s.k []))
theorem zd2 {w Z v x c r R} (W : vz c = some r) (s : St w Z w []) (d : Rd w Z v (zx .i64) 1 c.Ms) (f : Rd w Z x zj 5 c.Co)
  (K : ∀ (x0_0 : Value) (x0_1 : Value) w', St w Z w' [qH x0_0 3 (zx .i64) 1 r.Ms, qH x0_1 43 zj 5 r.Co] -> R (Rt (Ag [x0_0, x0_1])) w') : Calls Tryz.prog 7 [Ag [v, x]].toArray w R := by
 refine sr 12 Tryz.func7 rfl ?_
 obtain ⟨l1, a2, c3, rfl⟩ := d.len
 obtain ⟨l4, a5, c6, rfl⟩ := f.len
 refine rg ((bx s [Sl a2 (c.Ms).length c3, Sl a5 (c.Co).length c6]) fun T a0 s => (al s [Sn, Sn]) fun V a1 s => nx (sq ((be W) fun a3 b W => ?_)))
 refine ck (fun a X => ∃ (y : Value) (z : Value), Rep 12 [(2, Pt V)] a /\ St w Z X [zs V 25 [y, z], qH y 3 (zx .i64) 1 (([] : List Int) ++ c.Ms), qH z 43 zj 5 (([] : List zc) ++ c.Co)]) ?_ fun a X ⟨y, z, g, s⟩ => go g ?_
 ·refine CW.plan (by kernel_rfl) ?_
  intro a4 M
  have s := s.same M
  refine ap [1] [(4, Pt T)] ((ad 2 s 0) (ap [5] [(8, Po T 1)] ((ad 6 s 0) ?_)))
  refine OA.acts [0, 4] 0 (by kernel_rfl) (by kernel_rfl) (by kernel_rfl) (qR ?_ (qR ?_ zbD))
  ·refine Alt.of (i := 0) [6, 2] rfl rfl (by kernel_rfl) (by kernel_rfl) ?_
   refine OW.row (α := Int) (e := 3) (enc := zx .i64) (sz := 1) s rfl rfl rfl [] rfl (fun _ => rfl) rfl rfl (fun _ => by kernel_rfl) ?_
   intro a6 a7 s
   refine OA.next ⟨(s.blk 0 rfl rfl), (s.blk 0 rfl rfl), trivial⟩ ?_
   refine OA.acts [3, 4] 3 (by kernel_rfl) (by kernel_rfl) (by kernel_rfl) (qR ?_ (qR ?_ zbD))
   ·refine Alt.of (i := 3) [6] rfl rfl (by kernel_rfl) (by kernel_rfl) ?_
    refine (be b) fun Y h b => ?_
    refine OW.app s 2 rfl (fun _ => rfl) (fun _ => rfl) rfl rfl rfl rfl rfl rfl (by kernel_rfl) el3 (d.on s) (jR h) ?_
    intro a8 a9 s
    obtain ⟨ba, A, C, rfl⟩ := s.le 2
    refine OA.next ⟨(s.blk 0 rfl rfl), trivial⟩ ?_
    refine (aa 4 [6]) ?_
    refine OW.row (α := zc) (e := 43) (enc := zj) (sz := 5) s rfl rfl rfl [] rfl (fun _ => rfl) rfl rfl (fun _ => by kernel_rfl) ?_
    intro bb bc s
    refine OA.next ⟨(s.blk 0 rfl rfl), trivial⟩ ?_
    refine (aa 7 []) ((be b) fun u87 j b => ?_)
    refine OW.app s 3 rfl (fun _ => rfl) (fun _ => rfl) rfl rfl rfl rfl rfl rfl (by kernel_rfl) znG (f.on s) (jR j) ?_
    intro bd bf s
    obtain ⟨bg, D, E, rfl⟩ := s.le 3
    refine OA.next trivial ?_
    refine ap [8] [(11, .agg [Sl A ((([] : List Int) ++ c.Ms)).length C, Sl D ((([] : List zc) ++ c.Co)).length E].toArray)] ((aa 9 []) ((st s 1 [Sl A ((([] : List Int) ++ c.Ms)).length C, Sl D ((([] : List zc) ++ c.Co)).length E]) fun bh s => ?_))
    refine OA.next trivial ?_
    refine aF ?_
    obtain rfl := ij b
    exact me fun a g => ⟨(Sl A ((([] : List Int) ++ c.Ms)).length C), (Sl D ((([] : List zc) ++ c.Co)).length E), g.ag, s.k [1, 2, 3]⟩
   refine (be b) fun Y h b => (be b) fun u87 j b => ?_
   refine Alt.of (i := 4) [6, 2] rfl rfl (by kernel_rfl) (by kernel_rfl) ?_
   refine OW.row (α := zc) (e := 43) (enc := zj) (sz := 5) s rfl rfl rfl [] rfl (fun _ => rfl) rfl rfl (fun _ => by kernel_rfl) ?_
   intro bi bj s
   refine OA.next ⟨(s.blk 0 rfl rfl), (s.blk 0 rfl rfl), trivial⟩ ?_
   refine (aa 3 [6]) ?_
   refine OW.app s 2 rfl (fun _ => rfl) (fun _ => rfl) rfl rfl rfl rfl rfl rfl (by kernel_rfl) el3 (d.on s) (jR h) ?_
   intro bk bl s
   obtain ⟨bm, l, m, rfl⟩ := s.le 2
   refine OA.next ⟨(s.blk 0 rfl rfl), trivial⟩ ?_
   refine (aa 7 []) ?_
   refine OW.app s 3 rfl (fun _ => rfl) (fun _ => rfl) rfl rfl rfl rfl rfl rfl (by kernel_rfl) znG (f.on s) (jR j) ?_
   intro ab ac s
   obtain ⟨ae, n, o, rfl⟩ := s.le 3
   refine OA.next trivial ?_
   refine ap [8] [(11, .agg [Sl l ((([] : List Int) ++ c.Ms)).length m, Sl n ((([] : List zc) ++ c.Co)).length o].toArray)] ((aa 9 []) ((st s 1 [Sl l ((([] : List Int) ++ c.Ms)).length m, Sl n ((([] : List zc) ++ c.Co)).length o]) fun af s => ?_))
   refine OA.next trivial ?_
   refine aF ?_
   obtain rfl := ij b
   exact me fun a g => ⟨(Sl l ((([] : List Int) ++ c.Ms)).length m), (Sl n ((([] : List zc) ++ c.Co)).length o), g.ag, s.k [1, 2, 3]⟩
  refine Alt.of (i := 4) [6, 2] rfl rfl (by kernel_rfl) (by kernel_rfl) ?_
  refine OW.row (α := zc) (e := 43) (enc := zj) (sz := 5) s rfl rfl rfl [] rfl (fun _ => rfl) rfl rfl (fun _ => by kernel_rfl) ?_
  intro ah ai s
  refine OA.next ⟨(s.blk 0 rfl rfl), (s.blk 0 rfl rfl), trivial⟩ ?_
  refine (aa 0 [6, 2]) ?_
  refine OW.row (α := Int) (e := 3) (enc := zx .i64) (sz := 1) s rfl rfl rfl [] rfl (fun _ => rfl) rfl rfl (fun _ => by kernel_rfl) ?_
  intro aj ak s
  refine OA.next ⟨(s.blk 0 rfl rfl), (s.blk 0 rfl rfl), trivial⟩ ?_
  refine (aa 3 [6]) ((be b) fun am O b => ?_)
  refine OW.app s 3 rfl (fun _ => rfl) (fun _ => rfl) rfl rfl rfl rfl rfl rfl (by kernel_rfl) el3 (d.on s) (jR O) ?_
  intro an ao s
  obtain ⟨aq, p, q, rfl⟩ := s.le 3
  refine OA.next ⟨(s.blk 0 rfl rfl), trivial⟩ ?_
  refine (aa 7 []) ((be b) fun ar Q b => ?_)
  refine OW.app s 2 rfl (fun _ => rfl) (fun _ => rfl) rfl rfl rfl rfl rfl rfl (by kernel_rfl) znG (f.on s) (jR Q) ?_
  intro au av s
  obtain ⟨aw, t, u, rfl⟩ := s.le 2
  refine OA.next trivial ?_
  refine ap [8] [(11, .agg [Sl p ((([] : List Int) ++ c.Ms)).length q, Sl t ((([] : List zc) ++ c.Co)).length u].toArray)] ((aa 9 []) ((st s 1 [Sl p ((([] : List Int) ++ c.Ms)).length q, Sl t ((([] : List zc) ++ c.Co)).length u]) fun ax s => ?_))
  refine OA.next trivial ?_
  refine aF ?_
  obtain rfl := ij b
  exact me fun a g => ⟨(Sl p ((([] : List Int) ++ c.Ms)).length q), (Sl t ((([] : List zc) ++ c.Co)).length u), g.ag, s.k [1, 3, 2]⟩
 obtain ⟨ay, F, G, rfl⟩ := s.le 1
 obtain ⟨az, H, J, rfl⟩ := s.le 2
 refine rt ?_
 obtain rfl := ij W
 exact QW.ret_c rfl rfl (rl (cs := [Sl F ((([] : List Int) ++ c.Ms)).length G, Sl H ((([] : List zc) ++ c.Co)).length J]) (s.blkN 0 rfl 0 2)) (K (Sl F ((([] : List Int) ++ c.Ms)).length G) (Sl H ((([] : List zc) ++ c.Co)).length J) _ (s.k [1, 2]))
theorem ze1 {w Z fu v0 h r R} (u : vu fu h = some r) (b : St w Z w []) (v : Rd w Z v0 (zx .i64) 1 h)
  (K : ∀ w', St w Z w' [] -> R (Rt (B r)) w') : Calls Tryz.prog 53 [v0].toArray w R := by
 refine sr 40 Tryz.func53 rfl ?_
 obtain ⟨l1, A, C, rfl⟩ := v.len
 refine rg (pu 1 [] (nx (sq (rg (pu 3 [(7, B (decide (((h).length : Int) > 4)))] (nx (br u (fun u ae => ?_) fun u ae => ?_)))))))
 ·refine rg (pu 1 [(2, B false)] (nx (rt (tr ?_))))
  obtain rfl := ij u
  exact r1 (K _ (b.k []))
 refine sn (sq (rg (pu 1 [(3, I 0)] (nx ((be u) fun O W u => ?_)))))
 refine ck (fun a m => ∃ (t510 : Unit), O = .inl t510 /\ Rep 40 [] a /\ St w Z m []) ?_ ?_
 ·refine bl ?_
  refine CW.loop (fun n a m => ∃ (s : Nat) (F : Unit), s + n = (h).length /\ Rep 40 [(0, Sl A (h).length C), (3, I (s : Int))] a /\ St w Z m [] /\ zQ (zaJ h) (fun (F : Unit) => (.inl ())) n s F = some O) (h).length (fun a e => ⟨0, (), Nat.zero_add _, e.ag, b.keep [] rfl, W⟩) ?_
  rintro q a m ⟨s, F, x, e, b, c⟩
  refine go e (sq (rg (pu 4 [(11, B (decide ((s : Int) < ((h).length : Int))))] (nx ?_))))
  rcases zft (decide ((s : Int) < ((h).length : Int))) with i | i
  ·rcases q with _ | q
   ·exact (zb0 x i).elim
   refine ct i (sn (sq (bl (sq (sq ((be c) fun ad f c => ?_))))))
   refine ck (fun a m => Rep 40 [(0, Sl A (h).length C), (3, I (s : Int)), (25, B ad)] a /\ St w Z m []) ?_ fun a m ⟨e, b⟩ => go e (br c (fun c X => ?_) fun c X => ?_)
   ·refine rn (pu 2 [(14, Sl A (h).length C), (15, I (s : Int))] ((be f) fun Q j f => ?_))
    obtain ⟨am, an, ao, H⟩ := v.formv (fun _ => ⟨_, rfl⟩) j
    refine (ix 3 1 j H) ?_
    refine OW.ld rfl rfl rfl rfl (by kernel_rfl) (v.cellv b j H 0 _ rfl) ?_
    refine pu 2 [(19, B (decide (Q < 0)))] (si 19 f (fun f Y => ?_) fun f Y => ?_)
    ·refine pu 6 [(25, B true)] (nl ?_)
     obtain rfl := ij f
     exact me fun a e => ⟨e.ag, b.k []⟩
    refine pu 2 [(20, Sl A (h).length C), (21, I (s : Int))] ?_
    obtain ⟨ap, aq, ar, J⟩ := v.formv (fun _ => ⟨_, rfl⟩) j
    refine (ix 3 1 j J) ?_
    refine OW.ld rfl rfl rfl rfl (by kernel_rfl) (v.cellv b j J 0 _ rfl) ?_
    refine pu 2 [(25, B (decide (Q > 3)))] (nl ?_)
    obtain rfl := ij f
    exact me fun a e => ⟨e.ag, b.k []⟩
   ·refine rg (pu 1 [(2, B false)] (nx (rt (tr (bt (tr (tr (bt (tr ?_)))))))))
    obtain rfl := ij c
    obtain rfl := ij u
    exact r1 (K _ (b.k []))
   refine sn (rg (pu 1 [(4, I 0)] (nx ((be c) fun T y c => ?_))))
   refine CW.cutQ (fun a m => ∃ (t915 : Unit), T = .inl t915 /\ Rep 40 [(0, Sl A (h).length C), (3, I (s : Int))] a /\ St w Z m []) ?_ ?_
   ·refine bl ((be y) fun au aa y => ?_)
    refine CW.loop (fun n a m => ∃ (g : Nat) (G : Unit), g + n = s /\ Rep 40 [(0, Sl A (h).length C), (3, I (s : Int)), (4, I (g : Int))] a /\ St w Z m [] /\ zQ (zaI h s) (fun (G : Unit) => (.inl ())) n g G = some T) s (fun a e => ⟨0, (), Nat.zero_add _, e.ag, b.keep [] rfl, y⟩) ?_
    rintro t a m ⟨g, G, z, e, b, d⟩
    refine go e (sq (rg (pu 3 [(28, B (decide ((g : Int) < (s : Int))))] (nx ?_))))
    rcases zft (decide ((g : Int) < (s : Int))) with l | l
    ·rcases t with _ | t
     ·exact (zb0 z l).elim
     refine ct l (sn (sq (bl (sq ?_))))
     refine CW.still (by kernel_rfl) (by kernel_rfl) ?_
     intro av M
     have b := b.same M
     refine op' 2 [(31, Sl A (h).length C), (32, I (g : Int))] ((be d) fun ab o d => ?_)
     obtain ⟨af, ah, ai, D⟩ := v.formv (fun _ => ⟨_, rfl⟩) o
     refine OS.idx 3 1 rfl rfl rfl rfl rfl D rfl (zh o).1 (zh o).2.1 (by kernel_rfl) (by kernel_rfl) ?_
     refine OS.ld rfl rfl rfl rfl rfl (by kernel_rfl) (v.cellv b o D 0 _ rfl) ?_
     refine op' 2 [(35, Sl A (h).length C), (36, I (s : Int))] ((be d) fun ac p d => ?_)
     obtain ⟨aj, ak, al, E⟩ := v.formv (fun _ => ⟨_, rfl⟩) p
     refine OS.idx 3 1 rfl rfl rfl rfl rfl E rfl (zh p).1 (zh p).2.1 (by kernel_rfl) (by kernel_rfl) ?_
     refine OS.ld rfl rfl rfl rfl rfl (by kernel_rfl) (v.cellv b p E 0 _ rfl) ?_
     refine op' 1 [(39, B (ab == ac))] ?_
     refine OS.fin rfl ?_
     refine qn (br d (fun d V => ?_) fun d V => ?_)
     ·refine rg (pu 1 [(2, B false)] (nx (rt (bt (tr (tr (bt (tr (bt (tr (tr (bt (tr ?_)))))))))))))
      obtain rfl := ij d
      obtain rfl := ij c
      obtain rfl := ij u
      exact r1 (K _ (b.k []))
     refine sk (bn (qn (rn (pu 3 [(4, I (w64 ((g : Int) + 1)))] (nl ?_)))))
     refine QW.say 4 rfl (congrArg (Value.int .i64) (zq l (xm aa))) ?_
     exact me fun a e => ⟨t, zls _, g + 1, (), zm z, e.ag, b.k [], d⟩
    rcases t with _ | t
    ·refine cf l (ex (te (te (bh ?_))))
     obtain rfl := ij d
     exact me fun a e => ⟨(), rfl, e.ag, b.k []⟩
    exact (zb1 z l).elim
   rintro a m ⟨t915, rfl, e, b⟩
   refine QW.go ?_ e
   refine bn (qn (rn (pu 3 [(3, I (w64 ((s : Int) + 1)))] (nl ?_))))
   refine QW.say 3 rfl (congrArg (Value.int .i64) (zq i l1)) ?_
   exact me fun a e => ⟨q, zls _, s + 1, (), zm x, e.ag, b.k [], c⟩
  rcases q with _ | q
  ·refine cf i (ex (te (te (bh ?_))))
   obtain rfl := ij c
   exact me fun a e => ⟨(), rfl, e.ag, b.k []⟩
  exact (zb1 x i).elim
 rintro a m ⟨t510, rfl, e, b⟩
 refine go e (rg (pu 1 [(2, B true)] (nx (rt ?_))))
 obtain rfl := ij u
 exact r1 (K _ (b.k []))
theorem qb {w Z s r R} (f : zX s = some r) (b : St w Z w [])
  (K : ∀ w', St w Z w' [] -> R (Rt (B r)) w') : Calls Tryz.prog 103 [I s].toArray w R := by
 refine sr 9 Tryz.func103 rfl (rg (pu 1 [] (nx (sq ?_))))
 refine ck (fun a e => Rep 9 [(2, B (decide (s >= 0) && decide (s <= 7)))] a /\ St w Z e []) ?_ fun a e ⟨c, b⟩ => go c (rt ?_)
 ·refine rn (pu 3 [(5, B (decide (s >= 0)))] (sp 5 (fun d => ?_) fun d => ?_))
  ·refine pu 4 [(2, B (decide (s <= 7)))] (nl ?_)
   exact QW.say 2 (v := B (decide (s >= 0) && decide (s <= 7))) rfl (by rw [d]; try rfl) (me fun a c => ⟨c.ag, b.k []⟩)
  refine pu 4 [(2, B false)] (nl ?_)
  exact QW.say 2 (v := B (decide (s >= 0) && decide (s <= 7))) rfl (by rw [d]; try rfl) (me fun a c => ⟨c.ag, b.k []⟩)
 obtain rfl := ij f
 exact r1 (K _ (b.k []))
theorem xF {w Z c r R} (g : qJ c = some r) (b : St w Z w [])
  (K : ∀ w', St w Z w' [] -> R (Rt (B r)) w') : Calls Tryz.prog 104 [Ag [I c.Op, I c.D, I c.A, I c.B, I c.Imm]].toArray w R := by
 refine sr 16 Tryz.func104 rfl (rg ((bx b [I c.Op, I c.D, I c.A, I c.B, I c.Imm]) fun e q b => pu 1 [] (nx (sq ((be g) fun m s g => ?_)))))
 refine ck (fun a n => Rep 16 [(2, B m)] a /\ St w Z n []) ?_ fun a n ⟨d, b⟩ => go d (rt ?_)
 ·refine rn (pu 1 [(3, Po e 3)] ((ld b 0) ((be s) fun r17 h s => (fn) (qb h (b.p []) fun o f => ⟨_, rfl, have b := b.j [] [0] f; pu 1 [(6, B r17)] (si 6 s (fun s i => ?_) fun s i => ?_)⟩))))
  ·refine pu 1 [(7, Po e 4)] ((ld b 0) (pu 3 [(11, B (c.Imm == 0))] (si 11 s (fun s l => ?_) fun s l => ?_)))
   ·refine pu 5 [(2, B true)] (nl ?_)
    obtain rfl := ij s
    exact me fun a d => ⟨d.ag, b.k []⟩
   refine pu 1 [(12, Po e 3)] ((ld b 0) (pu 3 [(2, B (c.B == 8))] (nl ?_)))
   obtain rfl := ij s
   exact me fun a d => ⟨d.ag, b.k []⟩
  refine pu 6 [(11, B false), (12, Po e 3)] ((ld b 0) (pu 3 [(2, B (c.B == 8))] (nl ?_)))
  obtain rfl := ij s
  exact me fun a d => ⟨d.ag, b.k []⟩
 obtain rfl := ij g
 exact r1 (K _ (b.k []))
theorem zat {w Z s r R} (f : zY s = some r) (b : St w Z w [])
  (K : ∀ w', St w Z w' [] -> R (Rt (B r)) w') : Calls Tryz.prog 69 [I s].toArray w R := by
 refine sr 9 Tryz.func69 rfl (rg (pu 1 [] (nx (sq ?_))))
 refine ck (fun a e => Rep 9 [(2, B (decide (s >= 1) && decide (s <= 10)))] a /\ St w Z e []) ?_ fun a e ⟨c, b⟩ => go c (rt ?_)
 ·refine rn (pu 3 [(5, B (decide (s >= 1)))] (sp 5 (fun d => ?_) fun d => ?_))
  ·refine pu 4 [(2, B (decide (s <= 10)))] (nl ?_)
   exact QW.say 2 (v := B (decide (s >= 1) && decide (s <= 10))) rfl (by rw [d]; try rfl) (me fun a c => ⟨c.ag, b.k []⟩)
  refine pu 4 [(2, B false)] (nl ?_)
  exact QW.say 2 (v := B (decide (s >= 1) && decide (s <= 10))) rfl (by rw [d]; try rfl) (me fun a c => ⟨c.ag, b.k []⟩)
 obtain rfl := ij f
 exact r1 (K _ (b.k []))
theorem vp {w Z s r R} (f : jD s = some r) (b : St w Z w [])
  (K : ∀ w', St w Z w' [] -> R (Rt (B r)) w') : Calls Tryz.prog 66 [I s].toArray w R := by
 refine sr 9 Tryz.func66 rfl (rg (pu 1 [] (nx (sq ?_))))
 refine ck (fun a e => Rep 9 [(2, B (decide (s >= 16) && decide (s <= 19)))] a /\ St w Z e []) ?_ fun a e ⟨c, b⟩ => go c (rt ?_)
 ·refine rn (pu 3 [(5, B (decide (s >= 16)))] (sp 5 (fun d => ?_) fun d => ?_))
  ·refine pu 4 [(2, B (decide (s <= 19)))] (nl ?_)
   exact QW.say 2 (v := B (decide (s >= 16) && decide (s <= 19))) rfl (by rw [d]; try rfl) (me fun a c => ⟨c.ag, b.k []⟩)
  refine pu 4 [(2, B false)] (nl ?_)
  exact QW.say 2 (v := B (decide (s >= 16) && decide (s <= 19))) rfl (by rw [d]; try rfl) (me fun a c => ⟨c.ag, b.k []⟩)
 obtain rfl := ij f
 exact r1 (K _ (b.k []))
theorem vb {w Z b r R} (d : jK b = some r) (s : St w Z w [])
  (K : ∀ w', St w Z w' [] -> R (Rt (B r)) w') : Calls Tryz.prog 65 [Ag [I b.Op, I b.D, I b.A, I b.B, I b.Imm]].toArray w R := by
 refine sr 231 Tryz.func65 rfl (rg ((bx s [I b.Op, I b.D, I b.A, I b.B, I b.Imm]) fun i w4 s => pu 1 [] (nx (rg (pu 1 [(4, Pt i)] ((ld s 0) (pu 1 [(3, I b.Op)] (nx (sq (bl (sq ?_)))))))))))
 refine ck (fun a m => Rep 231 [(1, Pt i), (3, I b.Op), (6, B ((b.Op == 0) || (b.Op == 11)))] a /\ St w Z m [zs i 43 [I b.Op, I b.D, I b.A, I b.B, I b.Imm]]) ?_ fun a m ⟨c, s⟩ => go c (br d (fun d b8 => ?_) fun d b8 => ?_)
 ·refine rn (pu 3 [(9, B (b.Op == 0))] (sp 9 (fun G => ?_) fun G => ?_))
  ·refine pu 4 [(6, B true)] (nl ?_)
   exact QW.say 6 (v := B ((b.Op == 0) || (b.Op == 11))) rfl (by rw [G]; try rfl) (me fun a c => ⟨c.ag, s.k [0]⟩)
  refine pu 4 [(6, B (b.Op == 11))] (nl ?_)
  exact QW.say 6 (v := B ((b.Op == 0) || (b.Op == 11))) rfl (by rw [G]; try rfl) (me fun a c => ⟨c.ag, s.k [0]⟩)
 ·refine sq ((be d) fun b9 o d => ?_)
  refine ck (fun a m => Rep 231 [(2, B b9)] a /\ St w Z m []) ?_ fun a m ⟨c, s⟩ => go c (rt (bt (tr ?_)))
  ·refine rn (pu 1 [(13, Po i 1)] ((ld s 0) ((be o) fun r23 bg o => (fn) (qb bg (s.p []) fun cq W => ⟨_, rfl, have s := s.j [] [0] W; pu 1 [(16, B r23)] (si 16 o (fun o bh => ?_) fun o bh => ?_)⟩))))
   ·refine pu 1 [(17, Po i 2)] ((ld s 0) (pu 3 [(21, B (b.A == 0))] (si 21 o (fun o bi => ?_) fun o bi => ?_)))
    ·refine (lN [I b.Op, I b.D, I b.A, I b.B, I b.Imm] (s.blkN 0 rfl 0 5)) ((be o) fun r29 bj o => (fn) (xF bj (s.p []) fun cr X => ⟨_, rfl, have s := s.j [] [0] X; pu 2 [(2, B r29)] (nl ?_)⟩))
     obtain rfl := ij o
     exact me fun a c => ⟨c.ag, s.k []⟩
    refine pu 4 [(2, B false)] (nl ?_)
    obtain rfl := ij o
    exact me fun a c => ⟨c.ag, s.k []⟩
   refine pu 9 [(2, B false)] (nl ?_)
   obtain rfl := ij o
   exact me fun a c => ⟨c.ag, s.k []⟩
  obtain rfl := ij d
  exact r1 (K _ (s.k []))
 refine rg (pu 1 [(26, I b.Op)] ((be d) fun ca bk d => (fn) (zat bk (s.p []) fun cs Y => ⟨_, rfl, have s := s.j [] [0] Y; pu 1 [(25, B ca)] (nx (br d (fun d bm => ?_) fun d bm => ?_))⟩)))
 ·refine sq ((be d) fun cb n d => ?_)
  refine ck (fun a m => Rep 231 [(2, B cb)] a /\ St w Z m []) ?_ fun a m ⟨c, s⟩ => go c (rt (bt (tr ?_)))
  ·refine rn (pu 1 [(28, Po i 1)] ((ld s 0) ((be n) fun cc bo n => (fn) (qb bo (s.p []) fun ct aa => ⟨_, rfl, have s := s.j [] [0] aa; pu 1 [(31, B cc)] (si 31 n (fun n bp => ?_) fun n bp => ?_)⟩))))
   ·refine pu 1 [(32, Po i 2)] ((ld s 0) ((be n) fun cd bq n => (fn) (qb bq (s.p []) fun cu ab => ⟨_, rfl, have s := s.j [] [0] ab; pu 2 [(36, B cd)] (si 36 n (fun n bs => ?_) fun n bs => ?_)⟩)))
    ·refine (lN [I b.Op, I b.D, I b.A, I b.B, I b.Imm] (s.blkN 0 rfl 0 5)) ((be n) fun ce bu n => (fn) (xF bu (s.p []) fun cv ac => ⟨_, rfl, have s := s.j [] [0] ac; pu 2 [(2, B ce)] (nl ?_)⟩))
     obtain rfl := ij n
     exact me fun a c => ⟨c.ag, s.k []⟩
    refine pu 4 [(2, B false)] (nl ?_)
    obtain rfl := ij n
    exact me fun a c => ⟨c.ag, s.k []⟩
   refine pu 9 [(2, B false)] (nl ?_)
   obtain rfl := ij n
   exact me fun a c => ⟨c.ag, s.k []⟩
  obtain rfl := ij d
  exact r1 (K _ (s.k []))
 refine rg (pu 3 [(40, B (b.Op == 12))] (nx (br d (fun d bv => ?_) fun d bv => ?_)))
 ·refine sq ((be d) fun cf q d => ?_)
  refine ck (fun a m => Rep 231 [(2, B cf)] a /\ St w Z m []) ?_ fun a m ⟨c, s⟩ => go c (rt (bt (tr ?_)))
  ·refine rn (pu 1 [(43, Po i 1)] ((ld s 0) (pu 2 [(46, B (b.D == 0))] (si 46 q (fun q bw => ?_) fun q bw => ?_))))
   ·refine pu 1 [(47, Po i 2)] ((ld s 0) ((be q) fun cg bz q => (fn) (qb bz (s.p []) fun cw ad => ⟨_, rfl, have s := s.j [] [0] ad; pu 2 [(51, B cg)] (si 51 q (fun q b0 => ?_) fun q b0 => ?_)⟩)))
    ·refine (lN [I b.Op, I b.D, I b.A, I b.B, I b.Imm] (s.blkN 0 rfl 0 5)) ((be q) fun ch b1 q => (fn) (xF b1 (s.p []) fun cx ae => ⟨_, rfl, have s := s.j [] [0] ae; pu 2 [(2, B ch)] (nl ?_)⟩))
     obtain rfl := ij q
     exact me fun a c => ⟨c.ag, s.k []⟩
    refine pu 4 [(2, B false)] (nl ?_)
    obtain rfl := ij q
    exact me fun a c => ⟨c.ag, s.k []⟩
   refine pu 9 [(2, B false)] (nl ?_)
   obtain rfl := ij q
   exact me fun a c => ⟨c.ag, s.k []⟩
  obtain rfl := ij d
  exact r1 (K _ (s.k []))
 refine rg (pu 3 [(55, B (b.Op == 13))] (nx (br d (fun d af => ?_) fun d af => ?_)))
 ·refine sq ((be d) fun b2 f d => ?_)
  refine ck (fun a m => Rep 231 [(2, B b2)] a /\ St w Z m []) ?_ fun a m ⟨c, s⟩ => go c (rt (bt (tr ?_)))
  ·refine rn (pu 1 [(58, Po i 1)] ((ld s 0) ((be f) fun r115 ah f => (fn) (qb ah (s.p []) fun ci H => ⟨_, rfl, have s := s.j [] [0] H; pu 1 [(61, B r115)] (si 61 f (fun f ai => ?_) fun f ai => ?_)⟩))))
   ·refine pu 1 [(62, Po i 2)] ((ld s 0) (pu 3 [(66, B (b.A == 0))] (si 66 f (fun f aj => ?_) fun f aj => ?_)))
    ·refine pu 1 [(67, Po i 3)] ((ld s 0) (pu 3 [(71, B (b.B == 0))] (si 71 f (fun f ak => ?_) fun f ak => ?_)))
     ·refine pu 1 [(72, Po i 4)] ((ld s 0) (pu 2 [(75, B (b.Imm == 0))] (si 75 f (fun f al => ?_) fun f al => ?_)))
      ·refine pu 6 [(2, B true)] (nl ?_)
       obtain rfl := ij f
       exact me fun a c => ⟨c.ag, s.k []⟩
      refine pu 1 [(76, Po i 4)] ((ld s 0) (pu 4 [(2, B (b.Imm == 1))] (nl ?_)))
      obtain rfl := ij f
      exact me fun a c => ⟨c.ag, s.k []⟩
     refine pu 10 [(2, B false)] (nl ?_)
     obtain rfl := ij f
     exact me fun a c => ⟨c.ag, s.k []⟩
    refine pu 15 [(2, B false)] (nl ?_)
    obtain rfl := ij f
    exact me fun a c => ⟨c.ag, s.k []⟩
   refine pu 20 [(2, B false)] (nl ?_)
   obtain rfl := ij f
   exact me fun a c => ⟨c.ag, s.k []⟩
  obtain rfl := ij d
  exact r1 (K _ (s.k []))
 refine rg (pu 3 [(81, B (b.Op == 14))] (nx (br d (fun d am => ?_) fun d am => ?_)))
 ·refine sq ((be d) fun b4 g d => ?_)
  refine ck (fun a m => Rep 231 [(2, B b4)] a /\ St w Z m []) ?_ fun a m ⟨c, s⟩ => go c (rt (bt (tr ?_)))
  ·refine rn (pu 1 [(84, Po i 1)] ((ld s 0) ((be g) fun r138 an g => (fn) (qb an (s.p []) fun cj J => ⟨_, rfl, have s := s.j [] [0] J; pu 1 [(87, B r138)] (si 87 g (fun g ao => ?_) fun g ao => ?_)⟩))))
   ·refine pu 1 [(88, Po i 2)] ((ld s 0) (pu 3 [(92, B (b.A == 0))] (si 92 g (fun g ap => ?_) fun g ap => ?_)))
    ·refine pu 1 [(93, Po i 3)] ((ld s 0) (pu 3 [(97, B (b.B == 0))] (si 97 g (fun g aq => ?_) fun g aq => ?_)))
     ·refine pu 1 [(98, Po i 4)] ((ld s 0) (pu 3 [(102, B (decide (b.Imm >= 0)))] (si 102 g (fun g ar => ?_) fun g ar => ?_)))
      ·refine pu 1 [(103, Po i 4)] ((ld s 0) (pu 3 [(2, B (decide (b.Imm <= 3)))] (nl ?_)))
       obtain rfl := ij g
       exact me fun a c => ⟨c.ag, s.k []⟩
      refine pu 5 [(2, B false)] (nl ?_)
      obtain rfl := ij g
      exact me fun a c => ⟨c.ag, s.k []⟩
     refine pu 10 [(2, B false)] (nl ?_)
     obtain rfl := ij g
     exact me fun a c => ⟨c.ag, s.k []⟩
    refine pu 15 [(2, B false)] (nl ?_)
    obtain rfl := ij g
    exact me fun a c => ⟨c.ag, s.k []⟩
   refine pu 20 [(2, B false)] (nl ?_)
   obtain rfl := ij g
   exact me fun a c => ⟨c.ag, s.k []⟩
  obtain rfl := ij d
  exact r1 (K _ (s.k []))
 refine rg (pu 3 [(107, B (b.Op == 15))] (nx (br d (fun d au => ?_) fun d au => ?_)))
 ·refine sq ?_
  refine ck (fun a m => Rep 231 [(2, B ((((decide (b.D >= 0) && decide (b.D <= 63)) && (b.A == 0)) && (b.B == 0)) && (b.Imm == 0)))] a /\ St w Z m []) ?_ fun a m ⟨c, s⟩ => go c (rt (bt (tr ?_)))
  ·refine rn (pu 1 [(110, Po i 1)] ((ld s 0) (pu 2 [(113, B (decide (b.D >= 0)))] (sp 113 (fun t => ?_) fun t => ?_))))
   ·refine pu 1 [(114, Po i 1)] ((ld s 0) (pu 3 [(118, B (decide (b.D <= 63)))] (sp 118 (fun x => ?_) fun x => ?_)))
    ·refine pu 1 [(119, Po i 2)] ((ld s 0) (pu 3 [(123, B (b.A == 0))] (sp 123 (fun z => ?_) fun z => ?_)))
     ·refine pu 1 [(124, Po i 3)] ((ld s 0) (pu 3 [(128, B (b.B == 0))] (sp 128 (fun E => ?_) fun E => ?_)))
      ·refine pu 1 [(129, Po i 4)] ((ld s 0) (pu 3 [(2, B (b.Imm == 0))] (nl ?_)))
       exact QW.say 2 (v := B ((((decide (b.D >= 0) && decide (b.D <= 63)) && (b.A == 0)) && (b.B == 0)) && (b.Imm == 0))) rfl (by rw [t, x, z, E]; try rfl) (me fun a c => ⟨c.ag, s.k []⟩)
      refine pu 5 [(2, B false)] (nl ?_)
      exact QW.say 2 (v := B ((((decide (b.D >= 0) && decide (b.D <= 63)) && (b.A == 0)) && (b.B == 0)) && (b.Imm == 0))) rfl (by rw [t, x, z, E]; try rfl) (me fun a c => ⟨c.ag, s.k []⟩)
     refine pu 10 [(2, B false)] (nl ?_)
     exact QW.say 2 (v := B ((((decide (b.D >= 0) && decide (b.D <= 63)) && (b.A == 0)) && (b.B == 0)) && (b.Imm == 0))) rfl (by rw [t, x, z]; try rfl) (me fun a c => ⟨c.ag, s.k []⟩)
    refine pu 15 [(2, B false)] (nl ?_)
    exact QW.say 2 (v := B ((((decide (b.D >= 0) && decide (b.D <= 63)) && (b.A == 0)) && (b.B == 0)) && (b.Imm == 0))) rfl (by rw [t, x]; try rfl) (me fun a c => ⟨c.ag, s.k []⟩)
   refine pu 20 [(2, B false)] (nl ?_)
   exact QW.say 2 (v := B ((((decide (b.D >= 0) && decide (b.D <= 63)) && (b.A == 0)) && (b.B == 0)) && (b.Imm == 0))) rfl (by rw [t]; try rfl) (me fun a c => ⟨c.ag, s.k []⟩)
  obtain rfl := ij d
  exact r1 (K _ (s.k []))
 refine rg (pu 1 [(134, I b.Op)] ((be d) fun r155 av d => (fn) (vp av (s.p []) fun cl M => ⟨_, rfl, have s := s.j [] [0] M; pu 1 [(133, B r155)] (nx (br d (fun d aw => ?_) fun d aw => ?_))⟩)))
 ·refine sq ((be d) fun b5 h d => ?_)
  refine ck (fun a m => Rep 231 [(2, B b5)] a /\ St w Z m []) ?_ fun a m ⟨c, s⟩ => go c (rt (bt (tr ?_)))
  ·refine rn (pu 1 [(136, Po i 1)] ((ld s 0) (pu 2 [(139, B (decide (b.D >= 0)))] (si 139 h (fun h ax => ?_) fun h ax => ?_))))
   ·refine pu 1 [(140, Po i 1)] ((ld s 0) (pu 3 [(144, B (decide (b.D <= 63)))] (si 144 h (fun h ay => ?_) fun h ay => ?_)))
    ·refine pu 1 [(145, Po i 2)] ((ld s 0) ((be h) fun r175 az h => (fn) (qb az (s.p []) fun cm O => ⟨_, rfl, have s := s.j [] [0] O; pu 2 [(149, B r175)] (si 149 h (fun h a0 => ?_) fun h a0 => ?_)⟩)))
     ·refine (lN [I b.Op, I b.D, I b.A, I b.B, I b.Imm] (s.blkN 0 rfl 0 5)) ((be h) fun r180 a1 h => (fn) (xF a1 (s.p []) fun cn Q => ⟨_, rfl, have s := s.j [] [0] Q; pu 2 [(2, B r180)] (nl ?_)⟩))
      obtain rfl := ij h
      exact me fun a c => ⟨c.ag, s.k []⟩
     refine pu 4 [(2, B false)] (nl ?_)
     obtain rfl := ij h
     exact me fun a c => ⟨c.ag, s.k []⟩
    refine pu 9 [(2, B false)] (nl ?_)
    obtain rfl := ij h
    exact me fun a c => ⟨c.ag, s.k []⟩
   refine pu 14 [(2, B false)] (nl ?_)
   obtain rfl := ij h
   exact me fun a c => ⟨c.ag, s.k []⟩
  obtain rfl := ij d
  exact r1 (K _ (s.k []))
 refine rg (pu 3 [(153, B (b.Op == 20))] (nx (br d (fun d a2 => ?_) fun d a2 => ?_)))
 ·refine sq ((be d) fun b6 e d => ?_)
  refine ck (fun a m => Rep 231 [(2, B b6)] a /\ St w Z m []) ?_ fun a m ⟨c, s⟩ => go c (rt (bt (tr ?_)))
  ·refine rn (pu 1 [(156, Po i 1)] ((ld s 0) (pu 2 [(159, B (decide (b.D >= 1)))] (si 159 e (fun e a3 => ?_) fun e a3 => ?_))))
   ·refine pu 1 [(160, Po i 1)] ((ld s 0) (pu 3 [(164, B (decide (b.D <= 63)))] (si 164 e (fun e a4 => ?_) fun e a4 => ?_)))
    ·refine pu 1 [(165, Po i 2)] ((ld s 0) ((be e) fun r198 a5 e => (fn) (qb a5 (s.p []) fun co T => ⟨_, rfl, have s := s.j [] [0] T; pu 2 [(169, B r198)] (si 169 e (fun e a6 => ?_) fun e a6 => ?_)⟩)))
     ·refine pu 1 [(170, Po i 3)] ((ld s 0) (pu 3 [(174, B (b.B == 0))] (si 174 e (fun e a7 => ?_) fun e a7 => ?_)))
      ·refine pu 1 [(175, Po i 4)] ((ld s 0) (pu 3 [(179, B (decide (b.Imm >= 1)))] (si 179 e (fun e a8 => ?_) fun e a8 => ?_)))
       ·refine pu 1 [(180, Po i 4)] ((ld s 0) (pu 3 [(2, B (decide (b.Imm <= 255)))] (nl ?_)))
        obtain rfl := ij e
        exact me fun a c => ⟨c.ag, s.k []⟩
       refine pu 5 [(2, B false)] (nl ?_)
       obtain rfl := ij e
       exact me fun a c => ⟨c.ag, s.k []⟩
      refine pu 10 [(2, B false)] (nl ?_)
      obtain rfl := ij e
      exact me fun a c => ⟨c.ag, s.k []⟩
     refine pu 15 [(2, B false)] (nl ?_)
     obtain rfl := ij e
     exact me fun a c => ⟨c.ag, s.k []⟩
    refine pu 20 [(2, B false)] (nl ?_)
    obtain rfl := ij e
    exact me fun a c => ⟨c.ag, s.k []⟩
   refine pu 25 [(2, B false)] (nl ?_)
   obtain rfl := ij e
   exact me fun a c => ⟨c.ag, s.k []⟩
  obtain rfl := ij d
  exact r1 (K _ (s.k []))
 refine rg (pu 3 [(184, B (b.Op == 21))] (nx (br d (fun d a9 => ?_) fun d a9 => ?_)))
 ·refine sq ?_
  refine ck (fun a m => Rep 231 [(2, B (((((b.D == 0) && (b.A == 0)) && (b.B == 0)) && decide (b.Imm >= 0)) && decide (b.Imm <= 6)))] a /\ St w Z m []) ?_ fun a m ⟨c, s⟩ => go c (rt (bt (tr ?_)))
  ·refine rn (pu 1 [(187, Po i 1)] ((ld s 0) (pu 2 [(190, B (b.D == 0))] (sp 190 (fun u => ?_) fun u => ?_))))
   ·refine pu 1 [(191, Po i 2)] ((ld s 0) (pu 3 [(195, B (b.A == 0))] (sp 195 (fun y => ?_) fun y => ?_)))
    ·refine pu 1 [(196, Po i 3)] ((ld s 0) (pu 3 [(200, B (b.B == 0))] (sp 200 (fun C => ?_) fun C => ?_)))
     ·refine pu 1 [(201, Po i 4)] ((ld s 0) (pu 3 [(205, B (decide (b.Imm >= 0)))] (sp 205 (fun F => ?_) fun F => ?_)))
      ·refine pu 1 [(206, Po i 4)] ((ld s 0) (pu 3 [(2, B (decide (b.Imm <= 6)))] (nl ?_)))
       exact QW.say 2 (v := B (((((b.D == 0) && (b.A == 0)) && (b.B == 0)) && decide (b.Imm >= 0)) && decide (b.Imm <= 6))) rfl (by rw [u, y, C, F]; try rfl) (me fun a c => ⟨c.ag, s.k []⟩)
      refine pu 5 [(2, B false)] (nl ?_)
      exact QW.say 2 (v := B (((((b.D == 0) && (b.A == 0)) && (b.B == 0)) && decide (b.Imm >= 0)) && decide (b.Imm <= 6))) rfl (by rw [u, y, C, F]; try rfl) (me fun a c => ⟨c.ag, s.k []⟩)
     refine pu 10 [(2, B false)] (nl ?_)
     exact QW.say 2 (v := B (((((b.D == 0) && (b.A == 0)) && (b.B == 0)) && decide (b.Imm >= 0)) && decide (b.Imm <= 6))) rfl (by rw [u, y, C]; try rfl) (me fun a c => ⟨c.ag, s.k []⟩)
    refine pu 15 [(2, B false)] (nl ?_)
    exact QW.say 2 (v := B (((((b.D == 0) && (b.A == 0)) && (b.B == 0)) && decide (b.Imm >= 0)) && decide (b.Imm <= 6))) rfl (by rw [u, y]; try rfl) (me fun a c => ⟨c.ag, s.k []⟩)
   refine pu 20 [(2, B false)] (nl ?_)
   exact QW.say 2 (v := B (((((b.D == 0) && (b.A == 0)) && (b.B == 0)) && decide (b.Imm >= 0)) && decide (b.Imm <= 6))) rfl (by rw [u]; try rfl) (me fun a c => ⟨c.ag, s.k []⟩)
  obtain rfl := ij d
  exact r1 (K _ (s.k []))
 refine rg (pu 3 [(210, B (b.Op == 22))] (nx (br d (fun d ba => ?_) fun d ba => ?_)))
 ·refine sq ((be d) fun b7 l d => ?_)
  refine ck (fun a m => Rep 231 [(2, B b7)] a /\ St w Z m []) ?_ fun a m ⟨c, s⟩ => go c (rt (bt (tr ?_)))
  ·refine rn (pu 1 [(213, Po i 1)] ((ld s 0) (pu 2 [(216, B (b.D == 0))] (si 216 l (fun l bb => ?_) fun l bb => ?_))))
   ·refine pu 1 [(217, Po i 2)] ((ld s 0) ((be l) fun r221 bc l => (fn) (qb bc (s.p []) fun cp V => ⟨_, rfl, have s := s.j [] [0] V; pu 2 [(221, B r221)] (si 221 l (fun l bd => ?_) fun l bd => ?_)⟩)))
    ·refine pu 1 [(222, Po i 3)] ((ld s 0) (pu 3 [(226, B (b.B == 0))] (si 226 l (fun l bf => ?_) fun l bf => ?_)))
     ·refine pu 1 [(227, Po i 4)] ((ld s 0) (pu 3 [(2, B (b.Imm == 0))] (nl ?_)))
      obtain rfl := ij l
      exact me fun a c => ⟨c.ag, s.k []⟩
     refine pu 5 [(2, B false)] (nl ?_)
     obtain rfl := ij l
     exact me fun a c => ⟨c.ag, s.k []⟩
    refine pu 10 [(2, B false)] (nl ?_)
    obtain rfl := ij l
    exact me fun a c => ⟨c.ag, s.k []⟩
   refine pu 15 [(2, B false)] (nl ?_)
   obtain rfl := ij l
   exact me fun a c => ⟨c.ag, s.k []⟩
  obtain rfl := ij d
  exact r1 (K _ (s.k []))
 refine sk (bn (qn (rg (pu 1 [(2, B false)] (nx (rt ?_))))))
 obtain rfl := ij d
 exact r1 (K _ (s.k []))
theorem vq {w Z a r R} (b : xe a = some r) (s : St w Z w [])
  (K : ∀ w', St w Z w' [] -> R (Rt (.tuple #[I r.1, B r.2.1, B r.2.2])) w') : Calls Tryz.prog 36 [Ag [I a.Op, I a.D, I a.A, I a.B, I a.Imm]].toArray w R := by
 refine sr 32 Tryz.func36 rfl (rg ((bx s [I a.Op, I a.D, I a.A, I a.B, I a.Imm]) fun c t s => pu 3 [] (nx (rg (pu 1 [(6, Pt c)] ((ld s 0) (pu 1 [(5, I a.Op)] (nx (sq (bl (rg ((lN [I a.Op, I a.D, I a.A, I a.B, I a.Imm] (s.blkN 0 rfl 0 5)) ((be b) fun n f b => (fn) (vb f (s.p []) fun o d => ⟨_, rfl, have s := s.j [] [0] d; pu 2 [(8, B (!n))] (nx (br b (fun b g => ?_) fun b g => ?_))⟩))))))))))))))
 ·refine rg (pu 3 [(2, I 0), (3, B false), (4, B false)] (nx (rt (bt (tr ?_)))))
  obtain rfl := ij b
  exact QW.ret3 rfl rfl rfl rfl (K _ (s.k []))
 refine rg (pu 3 [(12, B (a.Op == 15))] (nx (br b (fun b h => ?_) fun b h => ?_)))
 ·refine rg (pu 1 [(15, Po c 1)] ((ld s 0) (pu 4 [(2, I (w64 (a.D + 1))), (3, B true), (4, B false)] (nx (rt (bt (tr ?_)))))))
  obtain rfl := ij b
  exact QW.ret3 rfl rfl rfl rfl (K _ (s.k []))
 refine rg (pu 1 [(19, I a.Op)] ((be b) fun r19 i b => (fn) (vp i (s.p []) fun q e => ⟨_, rfl, have s := s.j [] [0] e; pu 1 [(18, B r19)] (nx (br b (fun b l => ?_) fun b l => ?_))⟩)))
 ·refine rg (pu 1 [(21, Po c 1)] ((ld s 0) (pu 4 [(2, I (w64 (a.D + 1))), (3, B true), (4, B true)] (nx (rt (bt (tr ?_)))))))
  obtain rfl := ij b
  exact QW.ret3 rfl rfl rfl rfl (K _ (s.k []))
 refine rg (pu 3 [(24, B (a.Op == 20))] (nx (br b (fun b m => ?_) fun b m => ?_)))
 ·refine rg (pu 1 [(27, Po c 1)] ((ld s 0) (pu 4 [(2, I (w64 (0 - a.D))), (3, B true), (4, B true)] (nx (rt (bt (tr ?_)))))))
  obtain rfl := ij b
  exact QW.ret3 rfl rfl rfl rfl (K _ (s.k []))
 refine sk (bn (qn (rg (pu 5 [(2, I 0), (3, B false), (4, B (a.Op != 22))] (nx (rt ?_))))))
 obtain rfl := ij b
 exact QW.ret3 rfl rfl rfl rfl (K _ (s.k []))
theorem zd3 {w Z fu v0 u r R} (Q : vA fu u = some r) (b : St w Z w []) (T : Rd w Z v0 zj 5 u)
  (K : ∀ (x0 : Value) (ak : List Nat) w', St w Z w' [nI 22 zeM x0 ak r none] -> R (Rt (x0)) w') : Calls Tryz.prog 87 [v0].toArray w R := by
 refine sr 44 Tryz.func87 rfl ?_
 obtain ⟨l1, V, W, rfl⟩ := T.len
 refine rg (pu 1 [] (nx (rg (pu 2 [(7, I ((u).length : Int))] ((be Q) fun f al Q => ?_)))))
 refine OW.make (enc := fit 1) (sz := 1) b rfl rfl rfl rfl rfl (by kernel_rfl) zoo [Sn] (by kernel_rfl) (fun _ => xT _ _) al ?_
 intro i bc b
 have b := b.nNew 0 zeM rfl rfl [] (fun w => ⟨_, rfl, rfl, zef.nil w _ _ none⟩)
 refine pu 1 [(3, .slice (some ⟨i, 0, none⟩) f f)] (nx (sq (rg (pu 1 [(4, I 0)] (nx ((be Q) fun M X Q => ?_))))))
 refine ck (fun a v => ∃ (x : List Nat), Rep 44 [(3, .slice (some ⟨i, 0, none⟩) f f)] a /\ St w Z v [nI 22 zeM (.slice (some ⟨i, 0, none⟩) f f) x M none]) ?_ fun a v ⟨x, j, b⟩ => go j (rg (pu 2 [(2, .slice (some ⟨i, 0, none⟩) f f)] (nx (rt ?_))))
 ·refine bl ?_
  refine CW.loop (fun n a v => ∃ (s : Nat) (o : (List (List Int))) (q : List Nat), s + n = (u).length /\ Rep 44 [(0, Sl V (u).length W), (3, .slice (some ⟨i, 0, none⟩) f f), (4, I (s : Int))] a /\ St w Z v [nI 22 zeM (.slice (some ⟨i, 0, none⟩) f f) q o none] /\ zQ (vN fu u) (fun (o : (List (List Int))) => o) n s o = some M) (u).length (fun a j => ⟨0, (List.replicate f []), (zas (.slice (some ⟨i, 0, none⟩) f f)).toList, Nat.zero_add _, j.ag, b.keep [0] rfl, X⟩) ?_
  rintro p a v ⟨s, o, q, t, j, b, c⟩
  refine go j (sq (rg (pu 4 [(12, B (decide ((s : Int) < ((u).length : Int))))] (nx ?_))))
  rcases zft (decide ((s : Int) < ((u).length : Int))) with h | h
  ·rcases p with _ | p
   ·exact (zb0 t h).elim
   refine ct h (sn (sq (bl (sq (rg (pu 2 [(15, Sl V (u).length W), (16, I (s : Int))] ((be c) fun y l c => ?_)))))))
   obtain ⟨ad, ae, am, F⟩ := T.formv (fun _ => ⟨_, rfl⟩) l
   refine (ix 43 5 l F) (pu 1 [(18, .pointer (some ⟨ad, ae + Int.toNat (s : Int) * 5, none⟩))] ?_)
   refine OW.ld rfl rfl rfl rfl (by kernel_rfl) (T.cellv b l F 0 _ rfl) ?_
   refine pu 1 [(20, B (y.Op != 20))] (nx (br c (fun c Y => ?_) fun c Y => ?_))
   ·refine ex (te (bh (qn (rn (pu 3 [(4, I (w64 ((s : Int) + 1)))] (nl ?_))))))
    refine QW.say 4 rfl (congrArg (Value.int .i64) (zq h l1)) ?_
    exact me fun a j => ⟨p, zls _, s + 1, o, q, zm t, j.ag, b.k [0], c⟩
   refine sn (rg (pu 3 [(21, I (s : Int)), (22, Sl V (u).length W), (23, I (s : Int))] ?_))
   obtain ⟨af, ah, an, G⟩ := T.formv (fun _ => ⟨_, rfl⟩) l
   refine (ix 43 5 l G) (pu 1 [(25, .pointer (some ⟨af, ah + Int.toNat (s : Int) * 5 + 1, none⟩))] ?_)
   refine OW.ld rfl rfl rfl rfl (by kernel_rfl) (T.cellv b l G 1 _ rfl) ?_
   refine pu 2 [(5, I (w64 ((s : Int) - y.D)))] (nx ((be c) fun z aa c => ?_))
   refine CW.cutQ (fun a v => ∃ (A : List Nat), Rep 44 [(0, Sl V (u).length W), (3, .slice (some ⟨i, 0, none⟩) f f), (4, I (s : Int))] a /\ St w Z v [nI 22 zeM (.slice (some ⟨i, 0, none⟩) f f) A z none]) ?_ ?_
   ·refine bl ?_
    refine CW.loop (fun n a v => ∃ (g : (List (List Int)) × Int) (C : List Nat), Rep 44 [(0, Sl V (u).length W), (3, .slice (some ⟨i, 0, none⟩) f f), (4, I (s : Int)), (5, I g.2)] a /\ St w Z v [nI 22 zeM (.slice (some ⟨i, 0, none⟩) f f) C g.1 none] /\ loop (vM s) n g = some z) fu (fun a j => ⟨(o, w64 ((s : Int) - y.D)), q, j.ag, b.keep [0] rfl, aa⟩) ?_
    rintro E a v ⟨g, C, j, b, d⟩
    rcases E with _ | E
    ·exact (jX d).elim
    refine go j (sq (rg (pu 3 [(30, B (decide (g.2 <= (s : Int))))] (nx (br d (fun d ab => ?_) fun d ab => ?_)))))
    ·refine sn (sq (bl (rn (pu 4 [(33, .slice (some ⟨i, 0, none⟩) f f), (34, I g.2), (35, .slice (some ⟨i, 0, none⟩) f f), (36, I g.2)] ((be d) fun ai m d => ?_)))))
     obtain ⟨ao, ap, aq, H⟩ := b.nrowv 0 rfl m
     refine (ix 22 1 m H) ?_
     obtain ⟨ar, au, av, O, b⟩ := b.nout1 0 rfl rfl m H
     refine have b := b.t1 1; ?_
     obtain ⟨aw, ax, ay, rfl⟩ := b.le 1
     refine OW.ld rfl rfl rfl rfl (by kernel_rfl) O ?_
     refine pu 1 [(39, I (s : Int))] ?_
     refine OW.row (α := Int) (e := 3) (enc := zx .i64) (sz := 1) b rfl rfl rfl [(s : Int)] rfl (fun _ => rfl) rfl rfl (fun _ => by kernel_rfl) ?_
     intro az a0 b
     refine (be d) fun a1 ac d => ?_
     refine OW.app b 1 rfl (fun _ => rfl) (fun _ => rfl) rfl rfl rfl rfl rfl rfl (by kernel_rfl) el3 (b.rd 2 rfl (fun _ => rfl) [] rfl (b.len 2 rfl).1) (jR ac) ?_
     intro a3 a4 b
     obtain ⟨a5, a6, a7, rfl⟩ := b.le 1
     obtain ⟨a8, a9, ba, J⟩ := b.nrowv 0 rfl m
     refine (ix 22 1 m J) (have b := b.ti 1; ?_)
     refine OW.stN b 0 1 rfl rfl (fun _ _ e => by cases e; rfl) rfl J rfl rfl m rfl rfl rfl rfl (by kernel_rfl) rfl ?_
     intro aj bb b
     exact have b := b.k [0, 2]; nl (bn (qn (rn (pu 3 [(5, I (w64 (g.2 + 1)))] (nl (me fun a j => ⟨E, zls _, ((g.1.set (Int.toNat g.2) (ai ++ [(s : Int)])), w64 (g.2 + 1)), aj, j.ag, b.k [0], d⟩))))))
    refine ex (te (te (bh ?_)))
    obtain rfl := ij d
    exact me fun a j => ⟨C, j.ag, b.k [0]⟩
   rintro a v ⟨A, j, b⟩
   refine QW.go ?_ j
   refine bn (qn (rn (pu 3 [(4, I (w64 ((s : Int) + 1)))] (nl ?_))))
   refine QW.say 4 rfl (congrArg (Value.int .i64) (zq h l1)) ?_
   exact me fun a j => ⟨p, zls _, s + 1, z, A, zm t, j.ag, b.k [0], c⟩
  rcases p with _ | p
  ·refine cf h (ex (te (te (bh ?_))))
   obtain rfl := ij c
   exact me fun a j => ⟨q, j.ag, b.k [0]⟩
  exact (zb1 t h).elim
 obtain rfl := ij Q
 exact r1 (K (.slice (some ⟨i, 0, none⟩) f f) x _ (b.k [0]))
theorem zba {w Z x e j r R} (p : vf e j = some r) (d : St w Z w []) (u : Rd w Z x (zx .i64) 1 e)
  (K : ∀ w', St w Z w' [] -> R (Rt (B r)) w') : Calls Tryz.prog 138 [x, I j].toArray w R := by
 refine sr 18 Tryz.func138 rfl ?_
 obtain ⟨C, y, z, rfl⟩ := u.len
 refine rg (pu 1 [] (nx (sq (rg (pu 1 [(5, I 0)] (nx ((be p) fun t v p => ?_)))))))
 refine ck (fun a l => ∃ (t54 : Unit), t = .inl t54 /\ Rep 18 [] a /\ St w Z l []) ?_ ?_
 ·refine bl ?_
  refine CW.loop (fun n a l => ∃ (b : Nat) (m : Unit), b + n = (e).length /\ Rep 18 [(0, Sl y (e).length z), (1, I j), (5, I (b : Int))] a /\ St w Z l [] /\ zQ (za0 e j) (fun (m : Unit) => (.inl ())) n b m = some t) (e).length (fun a f => ⟨0, (), Nat.zero_add _, f.ag, d.keep [] rfl, v⟩) ?_
  rintro g a l ⟨b, m, h, f, d, s⟩
  refine go f (sq (rg (pu 4 [(9, B (decide ((b : Int) < ((e).length : Int))))] (nx ?_))))
  rcases zft (decide ((b : Int) < ((e).length : Int))) with c | c
  ·rcases g with _ | g
   ·exact (zb0 h c).elim
   refine ct c (sn (sq (bl (rg (pu 2 [(12, Sl y (e).length z), (13, I (b : Int))] ((be s) fun A i s => ?_))))))
   obtain ⟨F, D, E, o⟩ := u.formv (fun _ => ⟨_, rfl⟩) i
   refine (ix 3 1 i o) ?_
   refine OW.ld rfl rfl rfl rfl (by kernel_rfl) (u.cellv d i o 0 _ rfl) ?_
   refine pu 2 [(17, B (A == j))] (nx (br s (fun s q => ?_) fun s q => ?_))
   ·refine rg (pu 1 [(4, B true)] (nx (rt (bt (tr (tr (bt (tr ?_))))))))
    obtain rfl := ij s
    obtain rfl := ij p
    exact r1 (K _ (d.k []))
   refine sk (bn (qn (rn (pu 3 [(5, I (w64 ((b : Int) + 1)))] (nl ?_)))))
   refine QW.say 5 rfl (congrArg (Value.int .i64) (zq c C)) ?_
   exact me fun a f => ⟨g, zls _, b + 1, (), zm h, f.ag, d.k [], s⟩
  rcases g with _ | g
  ·refine cf c (ex (te (te (bh ?_))))
   obtain rfl := ij s
   exact me fun a f => ⟨(), rfl, f.ag, d.k []⟩
  exact (zb1 h c).elim
 rintro a l ⟨t54, rfl, f, d⟩
 refine go f (rg (pu 1 [(4, B false)] (nx (rt ?_))))
 obtain rfl := ij p
 exact r1 (K _ (d.k []))
theorem zds {w Z fu v0 o v1 H r R} (hF : xX fu o H = some r) (c : St w Z w []) (h0 : Rd w Z v0 zj 5 o) (h1 : RdN w Z v1 zeM.rd 1 H)
  (K : ∀ w', St w Z w' [] -> R (Rt (.tuple #[I r.1, B r.2])) w') : Calls Tryz.prog 88 [v0, v1].toArray w R := by
 refine sr 62 Tryz.func88 rfl ?_
 obtain ⟨l1, Y, c3, rfl⟩ := h0.len
 obtain ⟨l4, a5, c6, rfl⟩ := h1.len
 refine rg (pu 2 [] (nx (rg (pu 3 [(6, I ((o).length : Int))] (nx (sq (rg (pu 1 [(7, I 0)] (nx ((be hF) fun ae aw hF => ?_))))))))))
 refine ck (fun a x => ∃ (t5570 : Unit), ae = .inl t5570 /\ Rep 62 [] a /\ St w Z x []) ?_ ?_
 ·refine bl ?_
  refine CW.loop (fun n a x => ∃ (s : Nat) (X : Unit), s + n = (o).length /\ Rep 62 [(0, Sl Y (o).length c3), (1, Sl a5 (H).length c6), (6, I ((o).length : Int)), (7, I (s : Int))] a /\ St w Z x [] /\ zQ (xj o H) (fun (X : Unit) => (.inl ())) n s X = some ae) (o).length (fun a g => ⟨0, (), Nat.zero_add _, g.ag, c.keep [] rfl, aw⟩) ?_
  rintro A a x ⟨s, X, E, g, c, i⟩
  refine go g (sq (rg (pu 3 [(16, B (decide ((s : Int) < ((o).length : Int))))] (nx ?_))))
  rcases zft (decide ((s : Int) < ((o).length : Int))) with t | t
  ·rcases A with _ | A
   ·exact (zb0 E t).elim
   refine ct t (sn (sq (bl (sq (rg (pu 2 [(19, Sl Y (o).length c3), (20, I (s : Int))] ((be i) fun a1 O i => ?_)))))))
   obtain ⟨a3, a4, bw, aa⟩ := h0.formv (fun _ => ⟨_, rfl⟩) O
   refine (ix 43 5 O aa) (pu 1 [(22, .pointer (some ⟨a3, a4 + Int.toNat (s : Int) * 5, none⟩))] ?_)
   refine OW.ld rfl rfl rfl rfl (by kernel_rfl) (h0.cellv c O aa 0 _ rfl) ?_
   refine pu 1 [(24, B (a1.Op != 20))] (nx (br i (fun i ax => ?_) fun i ax => ?_))
   ·refine ex (te (bh (qn (rn (pu 3 [(7, I (w64 ((s : Int) + 1)))] (nl ?_))))))
    refine QW.say 7 rfl (congrArg (Value.int .i64) (zq t l1)) ?_
    exact me fun a g => ⟨A, zls _, s + 1, (), zm E, g.ag, c.k [], i⟩
   refine sn (rg (pu 1 [(8, I 0)] (nx ((be i) fun af Q i => ?_))))
   refine CW.cutQ (fun a x => ∃ (t9755 : Unit), af = .inl t9755 /\ Rep 62 [(0, Sl Y (o).length c3), (1, Sl a5 (H).length c6), (6, I ((o).length : Int)), (7, I (s : Int))] a /\ St w Z x []) ?_ ?_
   ·refine bl ((be Q) fun a8 V Q => ?_)
    refine CW.loop (fun n a x => ∃ (d : Nat) (T : Unit), d + n = s /\ Rep 62 [(0, Sl Y (o).length c3), (1, Sl a5 (H).length c6), (6, I ((o).length : Int)), (7, I (s : Int)), (8, I (d : Int))] a /\ St w Z x [] /\ zQ (xi o H s) (fun (T : Unit) => (.inl ())) n d T = some af) s (fun a g => ⟨0, (), Nat.zero_add _, g.ag, c.keep [] rfl, Q⟩) ?_
    rintro y a x ⟨d, T, C, g, c, e⟩
    refine go g (sq (rg (pu 3 [(27, B (decide ((d : Int) < (s : Int))))] (nx ?_))))
    rcases zft (decide ((d : Int) < (s : Int))) with q | q
    ·rcases y with _ | y
     ·exact (zb0 C q).elim
     refine ct q (sn (sq (bl (sq (rg (pu 2 [(30, Sl Y (o).length c3), (31, I (d : Int))] ((be e) fun ay J e => ?_)))))))
     obtain ⟨az, a0, a9, W⟩ := h0.formv (fun _ => ⟨_, rfl⟩) J
     refine (ix 43 5 J W) (pu 1 [(33, .pointer (some ⟨az, a0 + Int.toNat (d : Int) * 5, none⟩))] ?_)
     refine OW.ld rfl rfl rfl rfl (by kernel_rfl) (h0.cellv c J W 0 _ rfl) ?_
     refine pu 1 [(35, B (ay.Op != 20))] (nx (br e (fun e ah => ?_) fun e ah => ?_))
     ·refine ex (te (bh (qn (rn (pu 3 [(8, I (w64 ((d : Int) + 1)))] (nl ?_))))))
      refine QW.say 8 rfl (congrArg (Value.int .i64) (zq q (xm V))) ?_
      exact me fun a g => ⟨y, zls _, d + 1, (), zm C, g.ag, c.k [], e⟩
     refine sn (rg (pu 2 [(9, I 0), (10, B true)] (nx (sq (rg (pu 1 [(11, I 0)] (nx ((be e) fun l ai e => ?_))))))))
     refine ck (fun a x => Rep 62 [(0, Sl Y (o).length c3), (1, Sl a5 (H).length c6), (6, I ((o).length : Int)), (7, I (s : Int)), (8, I (d : Int)), (9, I l.1), (10, B l.2)] a /\ St w Z x []) ?_ fun a x ⟨g, c⟩ => go g (sq ?_)
     ·refine bl ?_
      refine CW.loop (fun n a x => ∃ (f : Nat) (h : Int × Bool), f + n = (o).length /\ Rep 62 [(0, Sl Y (o).length c3), (1, Sl a5 (H).length c6), (6, I ((o).length : Int)), (7, I (s : Int)), (8, I (d : Int)), (9, I h.1), (10, B h.2), (11, I (f : Int))] a /\ St w Z x [] /\ zQ (xh H s d) (fun (h : Int × Bool) => (h.1, h.2)) n f h = some l) (o).length (fun a g => ⟨0, (0, true), Nat.zero_add _, g.ag, c.keep [] rfl, ai⟩) ?_
      rintro u a x ⟨f, h, z, g, c, b⟩
      refine go g (sq (rg (pu 3 [(38, B (decide ((f : Int) < ((o).length : Int))))] (nx ?_))))
      rcases zft (decide ((f : Int) < ((o).length : Int))) with m | m
      ·rcases u with _ | u
       ·exact (zb0 z m).elim
       refine ct m (sn (sq (bl (rg (pu 2 [(41, Sl a5 (H).length c6), (42, I (f : Int))] ((be b) fun ab D b => ?_))))))
       obtain ⟨ba, bb, bc, a6, aj, ak, al⟩ := h1.formv D
       obtain ⟨bd, rfl, F⟩ := ak
       have F : Rd _ _ _ _ _ ab := F
       obtain ⟨bf, bg, bi, rfl⟩ := F.len
       refine (ix 22 1 D aj) ?_
       refine OW.ld rfl rfl rfl rfl (by kernel_rfl) (al 0 _ rfl _ _ c) ?_
       refine pu 1 [(45, I (d : Int))] ((be b) fun r11092 am b => (fn) (zba am (c.p []) (F.give c []) fun bj ac => ⟨_, rfl, have c := c.j [] [] ac; nx (br b (fun b an => ?_) fun b an => ?_)⟩))
       ·refine rg (pu 2 [(47, Sl a5 (H).length c6), (48, I (f : Int))] ?_)
        obtain ⟨bk, bm, bo, a7, ao, ap, aq⟩ := h1.formv D
        obtain ⟨bp, rfl, G⟩ := ap
        have G : Rd _ _ _ _ _ ab := G
        obtain ⟨bq, bs, bu, rfl⟩ := G.len
        refine (ix 22 1 D ao) ?_
        refine OW.ld rfl rfl rfl rfl (by kernel_rfl) (aq 0 _ rfl _ _ c) ?_
        refine pu 1 [(51, I (s : Int))] ((be b) fun r11125 ar b => (fn) (zba ar (c.p []) (G.give c []) fun bv ad => ⟨_, rfl, have c := c.j [] [] ad; nx (br b (fun b au => ?_) fun b au => ?_)⟩))
        ·refine rn (pu 3 [(9, I (w64 (h.1 + 1)))] (nl (bn (qn (rn (pu 3 [(11, I (w64 ((f : Int) + 1)))] (nl ?_)))))))
         refine QW.say 11 rfl (congrArg (Value.int .i64) (zq m l1)) ?_
         exact me fun a g => ⟨u, zls _, f + 1, (w64 (h.1 + 1), h.2), zm z, g.ag, c.k [], b⟩
        refine rn (pu 1 [(10, B false)] (nl (bn (qn (rn (pu 3 [(11, I (w64 ((f : Int) + 1)))] (nl ?_)))))))
        refine QW.say 11 rfl (congrArg (Value.int .i64) (zq m l1)) ?_
        exact me fun a g => ⟨u, zls _, f + 1, (h.1, false), zm z, g.ag, c.k [], b⟩
       refine sk (bn (qn (rn (pu 3 [(11, I (w64 ((f : Int) + 1)))] (nl ?_)))))
       refine QW.say 11 rfl (congrArg (Value.int .i64) (zq m l1)) ?_
       exact me fun a g => ⟨u, zls _, f + 1, (h.1, h.2), zm z, g.ag, c.k [], b⟩
      rcases u with _ | u
      ·refine cf m (ex (te (te (bh ?_))))
       obtain rfl := ij b
       exact me fun a g => ⟨g.ag, c.k []⟩
      exact (zb1 z m).elim
     refine ck (fun a x => Rep 62 [(0, Sl Y (o).length c3), (1, Sl a5 (H).length c6), (6, I ((o).length : Int)), (7, I (s : Int)), (8, I (d : Int)), (60, B (decide (l.1 > 0) && (!l.2)))] a /\ St w Z x []) ?_ fun a x ⟨g, c⟩ => go g (br e (fun e av => ?_) fun e av => ?_)
     ·refine rn (pu 3 [(57, B (decide (l.1 > 0)))] (sp 57 (fun M => ?_) fun M => ?_))
      ·refine pu 3 [(60, B (!l.2))] (nl ?_)
       exact QW.say 60 (v := B (decide (l.1 > 0) && (!l.2))) rfl (by rw [M]; try rfl) (me fun a g => ⟨g.ag, c.k []⟩)
      refine pu 3 [(60, B false)] (nl ?_)
      exact QW.say 60 (v := B (decide (l.1 > 0) && (!l.2))) rfl (by rw [M]; try rfl) (me fun a g => ⟨g.ag, c.k []⟩)
     ·refine rg (pu 3 [(4, I (s : Int)), (5, B true)] (nx (rt (bt (tr (tr (bt (tr (bt (tr (tr (bt (tr ?_)))))))))))))
      obtain rfl := ij e
      obtain rfl := ij i
      obtain rfl := ij hF
      exact r2 (K _ (c.k []))
     refine sk (bn (qn (rn (pu 3 [(8, I (w64 ((d : Int) + 1)))] (nl ?_)))))
     refine QW.say 8 rfl (congrArg (Value.int .i64) (zq q (xm V))) ?_
     exact me fun a g => ⟨y, zls _, d + 1, (), zm C, g.ag, c.k [], e⟩
    rcases y with _ | y
    ·refine cf q (ex (te (te (bh ?_))))
     obtain rfl := ij e
     exact me fun a g => ⟨(), rfl, g.ag, c.k []⟩
    exact (zb1 C q).elim
   rintro a x ⟨t9755, rfl, g, c⟩
   refine QW.go ?_ g
   refine bn (qn (rn (pu 3 [(7, I (w64 ((s : Int) + 1)))] (nl ?_))))
   refine QW.say 7 rfl (congrArg (Value.int .i64) (zq t l1)) ?_
   exact me fun a g => ⟨A, zls _, s + 1, (), zm E, g.ag, c.k [], i⟩
  rcases A with _ | A
  ·refine cf t (ex (te (te (bh ?_))))
   obtain rfl := ij i
   exact me fun a g => ⟨(), rfl, g.ag, c.k []⟩
  exact (zb1 E t).elim
 rintro a x ⟨t5570, rfl, g, c⟩
 refine go g (rg (pu 2 [(4, I 0), (5, B false)] (nx (rt ?_))))
 obtain rfl := ij hF
 exact r2 (K _ (c.k []))
theorem zdt {w Z fu v0 l v1 y r R} (hF : xY fu l y = some r) (c : St w Z w []) (h0 : Rd w Z v0 zj 5 l) (h1 : RdN w Z v1 zeM.rd 1 y)
  (K : ∀ w', St w Z w' [] -> R (Rt (.tuple #[I r.1, B r.2])) w') : Calls Tryz.prog 89 [v0, v1].toArray w R := by
 refine sr 76 Tryz.func89 rfl ?_
 obtain ⟨l1, Y, c3, rfl⟩ := h0.len
 obtain ⟨l4, O, Q, rfl⟩ := h1.len
 refine rg (pu 2 [] (nx (rg (pu 3 [(6, I ((l).length : Int))] (nx (sq (rg (pu 1 [(7, I 0)] (nx ((be hF) fun aa ae hF => ?_))))))))))
 refine ck (fun a m => ∃ (t2565 : Unit), aa = .inl t2565 /\ Rep 76 [] a /\ St w Z m []) ?_ ?_
 ·refine bl ?_
  refine CW.loop (fun n a m => ∃ (s : Nat) (G : Unit), s + n = (l).length /\ Rep 76 [(0, Sl Y (l).length c3), (1, Sl O (y).length Q), (6, I ((l).length : Int)), (7, I (s : Int))] a /\ St w Z m [] /\ zQ (xl fu l y) (fun (G : Unit) => (.inl ())) n s G = some aa) (l).length (fun a g => ⟨0, (), Nat.zero_add _, g.ag, c.keep [] rfl, ae⟩) ?_
  rintro o a m ⟨s, G, t, g, c, e⟩
  refine go g (sq (rg (pu 3 [(17, B (decide ((s : Int) < ((l).length : Int))))] (nx ?_))))
  rcases zft (decide ((s : Int) < ((l).length : Int))) with i | i
  ·rcases o with _ | o
   ·exact (zb0 t i).elim
   refine ct i (sn (sq (bl (rg (pu 2 [(21, Sl Y (l).length c3), (22, I (s : Int))] ((be e) fun ay A e => ?_))))))
   obtain ⟨ba, bb, bc, T⟩ := h0.formv (fun _ => ⟨_, rfl⟩) A
   refine (ix 43 5 A T) ((lN (zj ay) (h0.cellv c A T)) ((be e) fun d af e => (fn) (vq af (c.p []) fun bd ac => ⟨_, rfl, have c := c.j [] [] ac; pu 7 [(8, I d.1), (9, B d.2.1)] (nx (sq (sq ?_)))⟩)))
   refine ck (fun a m => Rep 76 [(0, Sl Y (l).length c3), (1, Sl O (y).length Q), (6, I ((l).length : Int)), (7, I (s : Int)), (8, I d.1), (34, B ((!d.2.1) || decide (d.1 < 0)))] a /\ St w Z m []) ?_ fun a m ⟨g, c⟩ => go g (br e (fun e ah => ?_) fun e ah => ?_)
   ·refine rn (pu 3 [(31, B (!d.2.1))] (sp 31 (fun C => ?_) fun C => ?_))
    ·refine pu 3 [(34, B true)] (nl ?_)
     exact QW.say 34 (v := B ((!d.2.1) || decide (d.1 < 0))) rfl (by rw [C]; try rfl) (me fun a g => ⟨g.ag, c.k []⟩)
    refine pu 3 [(34, B (decide (d.1 < 0)))] (nl ?_)
    exact QW.say 34 (v := B ((!d.2.1) || decide (d.1 < 0))) rfl (by rw [C]; try rfl) (me fun a g => ⟨g.ag, c.k []⟩)
   ·refine ex (te (bh (qn (rn (pu 3 [(7, I (w64 ((s : Int) + 1)))] (nl ?_))))))
    refine QW.say 7 rfl (congrArg (Value.int .i64) (zq i l1)) ?_
    exact me fun a g => ⟨o, zls _, s + 1, (), zm t, g.ag, c.k [], e⟩
   refine sn (rg (pu 1 [(11, I 0)] (nx ((be e) fun ab ai e => ?_))))
   refine CW.cutQ (fun a m => ∃ (t4709 : Unit), ab = .inl t4709 /\ Rep 76 [(0, Sl Y (l).length c3), (1, Sl O (y).length Q), (6, I ((l).length : Int)), (7, I (s : Int))] a /\ St w Z m []) ?_ ?_
   ·refine bl ?_
    refine CW.loop (fun n a m => ∃ (h : Int), Rep 76 [(0, Sl Y (l).length c3), (1, Sl O (y).length Q), (6, I ((l).length : Int)), (7, I (s : Int)), (8, I d.1), (11, I h)] a /\ St w Z m [] /\ loop (xk l y s d) n h = some ab) fu (fun a g => ⟨0, g.ag, c.keep [] rfl, ai⟩) ?_
    rintro H a m ⟨h, g, c, b⟩
    rcases H with _ | H
    ·exact (jX b).elim
    refine go g (sq (rg (pu 5 [(35, I h), (36, Sl O (y).length Q), (39, I (w64 ((s : Int) + d.1)))] ((be b) fun J u b => ?_))))
    obtain ⟨bf, bg, bi, a7, aj, ak, al⟩ := h1.formv u
    obtain ⟨bj, rfl, M⟩ := ak
    have M : Rd _ _ _ _ _ J := M
    obtain ⟨bk, bm, bo, rfl⟩ := M.len
    refine (ix 22 1 u aj) ?_
    refine OW.ld rfl rfl rfl rfl (by kernel_rfl) (al 0 _ rfl _ _ c) ?_
    refine pu 2 [(43, B (decide (h < ((J).length : Int))))] (nx (br b (fun b am => ?_) fun b am => ?_))
    ·refine sn (sq (bl (rg (pu 4 [(46, Sl O (y).length Q), (49, I (w64 ((s : Int) + d.1)))] ?_))))
     obtain ⟨bp, bq, bs, a8, an, ao, ap⟩ := h1.formv u
     obtain ⟨bu, rfl, x⟩ := ao
     have x : Rd _ _ _ _ _ J := x
     obtain ⟨bv, bw, bx, rfl⟩ := x.len
     refine (ix 22 1 u an) ?_
     refine OW.ld rfl rfl rfl rfl (by kernel_rfl) (ap 0 _ rfl _ _ c) ?_
     refine pu 1 [(52, I h)] ((be b) fun q E b => ?_)
     obtain ⟨bz, b0, b1, V⟩ := x.formv (fun _ => ⟨_, rfl⟩) E
     refine (ix 3 1 E V) ?_
     refine OW.ld rfl rfl rfl rfl (by kernel_rfl) (x.cellv c E V 0 _ rfl) ?_
     refine pu 1 [(12, I q)] (nx (sq ((be b) fun az f b => ?_)))
     refine ck (fun a m => Rep 76 [(0, Sl Y (l).length c3), (1, Sl O (y).length Q), (6, I ((l).length : Int)), (7, I (s : Int)), (8, I d.1), (11, I h), (74, B az)] a /\ St w Z m []) ?_ fun a m ⟨g, c⟩ => go g (br b (fun b aq => ?_) fun b aq => ?_)
     ·refine rn (pu 2 [(55, Sl O (y).length Q), (56, I (s : Int))] ((be f) fun a0 W f => ?_))
      obtain ⟨b2, b3, b4, a9, ar, au, av⟩ := h1.formv W
      obtain ⟨b5, rfl, z⟩ := au
      have z : Rd _ _ _ _ _ a0 := z
      obtain ⟨b6, b7, b8, rfl⟩ := z.len
      refine (ix 22 1 W ar) ?_
      refine OW.ld rfl rfl rfl rfl (by kernel_rfl) (av 0 _ rfl _ _ c) ?_
      refine pu 1 [(59, I q)] ((be f) fun a1 aw f => (fn) (zba aw (c.p []) (z.give c []) fun b9 ad => ⟨_, rfl, have c := c.j [] [] ad; pu 2 [(62, B (!a1))] (si 62 f (fun f ax => ?_) fun f ax => ?_)⟩))
      ·refine pu 6 [(65, I (w64 ((s : Int) + d.1))), (66, I q), (67, Sl Y (l).length c3), (68, I q)] ((be f) fun a3 F f => ?_)
       obtain ⟨a4, a6, ca, X⟩ := h0.formv (fun _ => ⟨_, rfl⟩) F
       refine (ix 43 5 F X) (pu 1 [(70, .pointer (some ⟨a4, a6 + Int.toNat q * 5 + 1, none⟩))] ?_)
       refine OW.ld rfl rfl rfl rfl (by kernel_rfl) (h0.cellv c F X 1 _ rfl) ?_
       refine pu 3 [(74, B ((w64 ((s : Int) + d.1)) != (w64 (q - a3.D))))] (nl ?_)
       obtain rfl := ij f
       exact me fun a g => ⟨g.ag, c.k []⟩
      refine pu 12 [(74, B false)] (nl ?_)
      obtain rfl := ij f
      exact me fun a g => ⟨g.ag, c.k []⟩
     ·refine rg (pu 3 [(4, I (s : Int)), (5, B true)] (nx (rt (bt (tr (tr (bt (tr (bt (tr (tr (bt (tr ?_)))))))))))))
      obtain rfl := ij b
      obtain rfl := ij e
      obtain rfl := ij hF
      exact r2 (K _ (c.k []))
     exact sk (bn (qn (rn (pu 3 [(11, I (w64 (h + 1)))] (nl (me fun a g => ⟨H, zls _, (w64 (h + 1)), g.ag, c.k [], b⟩))))))
    refine ex (te (te (bh ?_)))
    obtain rfl := ij b
    exact me fun a g => ⟨(), rfl, g.ag, c.k []⟩
   rintro a m ⟨t4709, rfl, g, c⟩
   refine QW.go ?_ g
   refine bn (qn (rn (pu 3 [(7, I (w64 ((s : Int) + 1)))] (nl ?_))))
   refine QW.say 7 rfl (congrArg (Value.int .i64) (zq i l1)) ?_
   exact me fun a g => ⟨o, zls _, s + 1, (), zm t, g.ag, c.k [], e⟩
  rcases o with _ | o
  ·refine cf i (ex (te (te (bh ?_))))
   obtain rfl := ij e
   exact me fun a g => ⟨(), rfl, g.ag, c.k []⟩
  exact (zb1 t i).elim
 rintro a m ⟨t2565, rfl, g, c⟩
 refine go g (rg (pu 2 [(4, I 0), (5, B false)] (nx (rt ?_))))
 obtain rfl := ij hF
 exact r2 (K _ (c.k []))
theorem ze2 {w Z fu v0 o v1 v r R} (hF : zaA fu o v = some r) (d : St w Z w []) (h0 : Rd w Z v0 zj 5 o) (h1 : RdN w Z v1 zeM.rd 1 v)
  (K : ∀ w', St w Z w' [] -> R (Rt (I r)) w') : Calls Tryz.prog 90 [v0, v1].toArray w R := by
 refine sr 46 Tryz.func90 rfl ?_
 obtain ⟨l1, M, O, rfl⟩ := h0.len
 obtain ⟨l4, H, J, rfl⟩ := h1.len
 refine rg (pu 1 [] (nx (rg (pu 1 [(5, I 0)] (nx (sq (rg (pu 1 [(6, I 0)] (nx ((be hF) fun x Q hF => ?_))))))))))
 refine ck (fun a i => Rep 46 [(5, I x)] a /\ St w Z i []) ?_ fun a i ⟨f, d⟩ => go f (rg (pu 2 [(4, I x)] (nx (rt ?_))))
 ·refine bl ?_
  refine CW.loop (fun n a i => ∃ (c : Nat) (e : Int), c + n = (o).length /\ Rep 46 [(0, Sl M (o).length O), (1, Sl H (v).length J), (5, I e), (6, I (c : Int))] a /\ St w Z i [] /\ zQ (zaK fu o v) (fun (e : Int) => e) n c e = some x) (o).length (fun a f => ⟨0, 0, Nat.zero_add _, f.ag, d.keep [] rfl, Q⟩) ?_
  rintro j a i ⟨c, e, q, f, d, l⟩
  refine go f (sq (rg (pu 4 [(12, B (decide ((c : Int) < ((o).length : Int))))] (nx ?_))))
  rcases zft (decide ((c : Int) < ((o).length : Int))) with h | h
  ·rcases j with _ | j
   ·exact (zb0 q h).elim
   refine ct h (sn (sq (bl (rg (pu 1 [(7, I 1)] (nx (sq (rg (pu 1 [(8, I 0)] (nx ((be l) fun p T l => ?_)))))))))))
   refine ck (fun a i => Rep 46 [(0, Sl M (o).length O), (1, Sl H (v).length J), (5, I e), (6, I (c : Int)), (7, I p)] a /\ St w Z i []) ?_ fun a i ⟨f, d⟩ => go f (rn (pu 4 [(5, I (w64 (e + p)))] (nl (bn (qn (rn (pu 3 [(6, I (w64 ((c : Int) + 1)))] (nl ?_))))))))
   ·refine bl ?_
    refine CW.loop (fun n a i => ∃ (b : Int × Int), Rep 46 [(0, Sl M (o).length O), (1, Sl H (v).length J), (5, I e), (6, I (c : Int)), (7, I b.1), (8, I b.2)] a /\ St w Z i [] /\ loop (vn o v c) n b = some p) fu (fun a f => ⟨(1, 0), f.ag, d.keep [] rfl, T⟩) ?_
    rintro y a i ⟨b, f, d, s⟩
    rcases y with _ | y
    ·exact (jX s).elim
    refine go f (sq (sq ((be s) fun ae g s => ?_)))
    refine ck (fun a i => Rep 46 [(0, Sl M (o).length O), (1, Sl H (v).length J), (5, I e), (6, I (c : Int)), (7, I b.1), (8, I b.2), (25, B ae)] a /\ St w Z i []) ?_ fun a i ⟨f, d⟩ => go f (br s (fun s V => ?_) fun s V => ?_)
    ·refine rn (pu 3 [(15, I b.2), (16, Sl H (v).length J), (17, I (c : Int))] ((be g) fun F A g => ?_))
     obtain ⟨am, an, ao, ak, W, X, Y⟩ := h1.formv A
     obtain ⟨ap, rfl, z⟩ := X
     have z : Rd _ _ _ _ _ F := z
     obtain ⟨aq, ar, au, rfl⟩ := z.len
     refine (ix 22 1 A W) ?_
     refine OW.ld rfl rfl rfl rfl (by kernel_rfl) (Y 0 _ rfl _ _ d) ?_
     refine pu 3 [(22, B (decide (b.2 < ((F).length : Int))))] (si 22 g (fun g aa => ?_) fun g aa => ?_)
     ·refine pu 3 [(25, B (decide (b.1 <= 256)))] (nl ?_)
      obtain rfl := ij g
      exact me fun a f => ⟨f.ag, d.k []⟩
     refine pu 3 [(25, B false)] (nl ?_)
     obtain rfl := ij g
     exact me fun a f => ⟨f.ag, d.k []⟩
    ·refine sn (sq (bl (rn (pu 4 [(28, I b.1), (29, Sl M (o).length O), (30, Sl H (v).length J), (31, I (c : Int))] ((be s) fun af C s => ?_)))))
     obtain ⟨av, aw, ax, al, ab, ac, ad⟩ := h1.formv C
     obtain ⟨ay, rfl, m⟩ := ac
     have m : Rd _ _ _ _ _ af := m
     obtain ⟨az, a0, a1, rfl⟩ := m.len
     refine (ix 22 1 C ab) ?_
     refine OW.ld rfl rfl rfl rfl (by kernel_rfl) (ad 0 _ rfl _ _ d) ?_
     refine pu 1 [(34, I b.2)] ((be s) fun ah t s => ?_)
     obtain ⟨a3, a4, a6, D⟩ := m.formv (fun _ => ⟨_, rfl⟩) t
     refine (ix 3 1 t D) ?_
     refine OW.ld rfl rfl rfl rfl (by kernel_rfl) (m.cellv d t D 0 _ rfl) ?_
     refine (be s) fun G u s => ?_
     obtain ⟨ai, aj, a7, E⟩ := h0.formv (fun _ => ⟨_, rfl⟩) u
     refine (ix 43 5 u E) (pu 1 [(38, .pointer (some ⟨ai, aj + Int.toNat ah * 5 + 4, none⟩))] ?_)
     refine OW.ld rfl rfl rfl rfl (by kernel_rfl) (h0.cellv d u E 4 _ rfl) ?_
     exact pu 3 [(7, I (w64 (b.1 * (w64 (G.Imm + 1)))))] (nl (bn (qn (rn (pu 3 [(8, I (w64 (b.2 + 1)))] (nl (me fun a f => ⟨y, zls _, (w64 (b.1 * (w64 (G.Imm + 1))), w64 (b.2 + 1)), f.ag, d.k [], s⟩)))))))
    refine ex (te (te (bh ?_)))
    obtain rfl := ij s
    exact me fun a f => ⟨f.ag, d.k []⟩
   refine QW.say 6 rfl (congrArg (Value.int .i64) (zq h l1)) ?_
   exact me fun a f => ⟨j, zls _, c + 1, (w64 (e + p)), zm q, f.ag, d.k [], l⟩
  rcases j with _ | j
  ·refine cf h (ex (te (te (bh ?_))))
   obtain rfl := ij l
   exact me fun a f => ⟨f.ag, d.k []⟩
  exact (zb1 q h).elim
 obtain rfl := ij hF
 exact r1 (K _ (d.k []))
theorem zez {w Z fu v0 e r R} (d : vX fu e = some r) (s : St w Z w []) (t : Rd w Z v0 zj 5 e)
  (K : ∀ w', St w Z w' [] -> R (Rt (.tuple #[I r.1, I r.2])) w') : Calls Tryz.prog 54 [v0].toArray w R := by
 refine sr 85 Tryz.func54 rfl ?_
 obtain ⟨l1, o, q, rfl⟩ := t.len
 refine rg (pu 2 [] (nx (rg (pu 3 [(4, I ((e).length : Int))] (nx (sq (rg (pu 2 [(15, B (((e).length : Int) == 0))] (nx (br d (fun d am => ?_) fun d am => ?_))))))))))
 ·refine rg (pu 2 [(2, I 0), (3, I 10)] (nx (rt (tr ?_))))
  obtain rfl := ij d
  exact r2 (K _ (s.k []))
 refine sn (sq (rg (pu 2 [(17, B (decide (((e).length : Int) > 64)))] (nx (br d (fun d an => ?_) fun d an => ?_)))))
 ·refine rg (pu 2 [(2, I 0), (3, I 11)] (nx (rt (tr ?_))))
  obtain rfl := ij d
  exact r2 (K _ (s.k []))
 refine sn (sq (rg (pu 1 [(5, I 0)] (nx ((be d) fun G W d => ?_)))))
 refine ck (fun a l => ∃ (t143 : Unit), G = .inl t143 /\ Rep 85 [(0, Sl o (e).length q)] a /\ St w Z l []) ?_ ?_
 ·refine bl ?_
  refine CW.loop (fun n a l => ∃ (b : Nat) (D : Unit), b + n = (e).length /\ Rep 85 [(0, Sl o (e).length q), (4, I ((e).length : Int)), (5, I (b : Int))] a /\ St w Z l [] /\ zQ (xZ e) (fun (D : Unit) => (.inl ())) n b D = some G) (e).length (fun a f => ⟨0, (), Nat.zero_add _, f.ag, s.keep [] rfl, W⟩) ?_
  rintro m a l ⟨b, D, u, f, s, c⟩
  refine go f (sq (rg (pu 3 [(20, B (decide ((b : Int) < ((e).length : Int))))] (nx ?_))))
  rcases zft (decide ((b : Int) < ((e).length : Int))) with g | g
  ·rcases m with _ | m
   ·exact (zb0 u g).elim
   refine ct g (sn (sq (bl (sq (rg (pu 2 [(23, Sl o (e).length q), (24, I (b : Int))] ((be c) fun H h c => ?_)))))))
   obtain ⟨ap, aq, ar, E⟩ := t.formv (fun _ => ⟨_, rfl⟩) h
   refine (ix 43 5 h E) ((lN (zj H) (t.cellv s h E)) ((be c) fun r253 X c => (fn) (vb X (s.p []) fun au J => ⟨_, rfl, have s := s.j [] [] J; pu 1 [(28, B (!r253))] (nx (br c (fun c Y => ?_) fun c Y => ?_))⟩)))
   ·refine rg (pu 3 [(2, I (b : Int)), (3, I 12)] (nx (rt (tr (bt (tr (tr (bt (tr ?_)))))))))
    obtain rfl := ij c
    obtain rfl := ij d
    exact r2 (K _ (s.k []))
   refine sn (rg (pu 2 [(31, Sl o (e).length q), (32, I (b : Int))] ?_))
   obtain ⟨av, aw, ax, F⟩ := t.formv (fun _ => ⟨_, rfl⟩) h
   refine (ix 43 5 h F) ((lN (zj H) (t.cellv s h F)) ((be c) fun r270 aa c => (fn) (vq aa (s.p []) fun ay M => ⟨_, rfl, have s := s.j [] [] M; pu 7 [(6, I r270.1), (7, B r270.2.1), (8, B r270.2.2)] (nx (sq (sq ?_)))⟩)))
   refine ck (fun a l => Rep 85 [(0, Sl o (e).length q), (4, I ((e).length : Int)), (5, I (b : Int)), (8, B r270.2.2), (53, B (r270.2.1 && (decide ((w64 ((b : Int) + r270.1)) < 0) || decide ((w64 ((b : Int) + r270.1)) > (w64 (((e).length : Int) - 1))))))] a /\ St w Z l []) ?_ fun a l ⟨f, s⟩ => go f (br c (fun c ab => ?_) fun c ab => ?_)
   ·refine rn (pu 2 [(40, B r270.2.1)] (sp 40 (fun i => ?_) fun i => ?_))
    ·refine pu 5 [(45, B (decide ((w64 ((b : Int) + r270.1)) < 0)))] (sp 45 (fun x => ?_) fun x => ?_)
     ·refine pu 8 [(53, B true)] (nl ?_)
      exact QW.say 53 (v := B (r270.2.1 && (decide ((w64 ((b : Int) + r270.1)) < 0) || decide ((w64 ((b : Int) + r270.1)) > (w64 (((e).length : Int) - 1)))))) rfl (by rw [i, x]; try rfl) (me fun a f => ⟨f.ag, s.k []⟩)
     refine pu 8 [(53, B (decide ((w64 ((b : Int) + r270.1)) > (w64 (((e).length : Int) - 1)))))] (nl ?_)
     exact QW.say 53 (v := B (r270.2.1 && (decide ((w64 ((b : Int) + r270.1)) < 0) || decide ((w64 ((b : Int) + r270.1)) > (w64 (((e).length : Int) - 1)))))) rfl (by rw [i, x]; try rfl) (me fun a f => ⟨f.ag, s.k []⟩)
    refine pu 13 [(53, B false)] (nl ?_)
    exact QW.say 53 (v := B (r270.2.1 && (decide ((w64 ((b : Int) + r270.1)) < 0) || decide ((w64 ((b : Int) + r270.1)) > (w64 (((e).length : Int) - 1)))))) rfl (by rw [i]; try rfl) (me fun a f => ⟨f.ag, s.k []⟩)
   ·refine rg (pu 3 [(2, I (b : Int)), (3, I 30)] (nx (rt (tr (bt (tr (tr (bt (tr ?_)))))))))
    obtain rfl := ij c
    obtain rfl := ij d
    exact r2 (K _ (s.k []))
   refine sn (sq ?_)
   refine ck (fun a l => Rep 85 [(0, Sl o (e).length q), (4, I ((e).length : Int)), (5, I (b : Int)), (61, B (r270.2.2 && ((w64 ((b : Int) + 1)) == ((e).length : Int))))] a /\ St w Z l []) ?_ fun a l ⟨f, s⟩ => go f (br c (fun c ac => ?_) fun c ac => ?_)
   ·refine rn (pu 2 [(56, B r270.2.2)] (sp 56 (fun y => ?_) fun y => ?_))
    ·refine pu 5 [(61, B ((w64 ((b : Int) + 1)) == ((e).length : Int)))] (nl ?_)
     exact QW.say 61 (v := B (r270.2.2 && ((w64 ((b : Int) + 1)) == ((e).length : Int)))) rfl (by rw [y]; try rfl) (me fun a f => ⟨f.ag, s.k []⟩)
    refine pu 5 [(61, B false)] (nl ?_)
    exact QW.say 61 (v := B (r270.2.2 && ((w64 ((b : Int) + 1)) == ((e).length : Int)))) rfl (by rw [y]; try rfl) (me fun a f => ⟨f.ag, s.k []⟩)
   ·refine rg (pu 3 [(2, I (b : Int)), (3, I 36)] (nx (rt (bt (tr (tr (bt (tr ?_))))))))
    obtain rfl := ij c
    obtain rfl := ij d
    exact r2 (K _ (s.k []))
   refine sk (bn (qn (rn (pu 3 [(5, I (w64 ((b : Int) + 1)))] (nl ?_)))))
   refine QW.say 5 rfl (congrArg (Value.int .i64) (zq g l1)) ?_
   exact me fun a f => ⟨m, zls _, b + 1, (), zm u, f.ag, s.k [], c⟩
  rcases m with _ | m
  ·refine cf g (ex (te (te (bh ?_))))
   obtain rfl := ij c
   exact me fun a f => ⟨(), rfl, f.ag, s.k []⟩
  exact (zb1 u g).elim
 rintro a l ⟨t143, rfl, f, s⟩
 refine go f (rg (pu 1 [(63, Sl o (e).length q)] ((be d) fun r287 ad d => (fn) (zd3 ad (s.p []) (t.give s []) fun az ao a0 O => ⟨_, rfl, have s := s.j [] [] O; ?_⟩))))
 obtain ⟨a1, z, A, rfl⟩ := s.nq 0
 refine pu 1 [(9, Sl z (r287).length A)] (nx (rg (pu 2 [(66, Sl o (e).length q), (67, Sl z (r287).length A)] ((be d) fun r299 ae d => (fn) (zds ae (s.p []) (t.give s []) (s.seeN (R := zeM) 0 rfl [] rfl) fun a3 Q => ⟨_, rfl, have s := s.j [] [0] Q; pu 5 [(10, I r299.1), (11, B r299.2)] (nx (sq (rg (pu 1 [(71, B r299.2)] (nx (br d (fun d af => ?_) fun d af => ?_))))))⟩)))))
 ·refine rg (pu 3 [(2, I r299.1), (3, I 31)] (nx (rt (tr ?_))))
  obtain rfl := ij d
  exact r2 (K _ (s.k []))
 refine sn (rg (pu 2 [(74, Sl o (e).length q), (75, Sl z (r287).length A)] ((be d) fun C ah d => (fn) (zdt ah (s.p []) (t.give s []) (s.seeN (R := zeM) 0 rfl [] rfl) fun a4 T => ⟨_, rfl, have s := s.j [] [0] T; pu 5 [(10, I C.1), (11, B C.2)] (nx (sq (rg (pu 1 [(79, B C.2)] (nx (br d (fun d ai => ?_) fun d ai => ?_))))))⟩))))
 ·refine rg (pu 3 [(2, I C.1), (3, I 31)] (nx (rt (tr ?_))))
  obtain rfl := ij d
  exact r2 (K _ (s.k []))
 refine sn (sq (rg (pu 2 [(81, Sl o (e).length q), (82, Sl z (r287).length A)] ((be d) fun al aj d => (fn) (ze2 aj (s.p []) (t.give s []) (s.seeN (R := zeM) 0 rfl [] rfl) fun a5 V => ⟨_, rfl, have s := s.j [] [0] V; pu 1 [(84, B (decide (al > 256)))] (nx (br d (fun d ak => ?_) fun d ak => ?_))⟩)))))
 ·refine rg (pu 2 [(2, I 0), (3, I 32)] (nx (rt (tr ?_))))
  obtain rfl := ij d
  exact r2 (K _ (s.k []))
 refine sn (rg (pu 2 [(2, I 0), (3, I 0)] (nx (rt ?_))))
 obtain rfl := ij d
 exact r2 (K _ (s.k []))
theorem xR {w Z a b r R} (c : xp a b = some r) (s : St w Z w [])
  (K : ∀ w', St w Z w' [] -> R (Rt (Ag [I r.Ki, U r.Sp.Lo, U r.Sp.Hi, I r.Map])) w') : Calls Tryz.prog 141 [U a, U b].toArray w R := by
 refine sr 9 Tryz.func141 rfl (rg ((al s [I 0, U 0, U 0, I 0]) fun d e s => nx (rg (pu 4 [(8, Ag [I 1, U a, U b, I 0])] ((st s 0 [I 1, U a, U b, I 0]) fun f s => nx (rt ?_))))))
 obtain rfl := ij c
 exact QW.ret_c rfl rfl (rl (cs := [I 1, U a, U b, I 0]) (s.blkN 0 rfl 0 4)) (K _ (s.k []))
theorem qT {w Z a n h r R} (c : qW a h = some r) (s : St w Z w []) (i : Rd w Z n zb 4 h)
  (K : ∀ w', St w Z w' [] -> R (Rt (Ag [I r.Ki, U r.Sp.Lo, U r.Sp.Hi, I r.Map])) w') : Calls Tryz.prog 96 [Ag [I a.Op, I a.D, I a.A, I a.B, I a.Imm], n].toArray w R := by
 refine sr 20 Tryz.func96 rfl ?_
 obtain ⟨F, o, q, rfl⟩ := i.len
 refine rg ((bx s [I a.Op, I a.D, I a.A, I a.B, I a.Imm]) fun f G s => (al s [I 0, U 0, U 0, I 0]) fun t u s => nx (sq (rg (pu 1 [(5, Po f 3)] ((ld s 0) (pu 1 [(7, B (a.B == 8))] (nx (br c (fun c l => ?_) fun c l => ?_))))))))
 ·refine rg (pu 1 [(8, Po f 4)] ((ld s 0) (pu 2 [(10, U (zp a.Imm)), (11, Po f 4)] ((ld s 0) (pu 1 [(13, U (zp a.Imm))] ((be c) fun r18 m c => (fn) (xR m (s.p []) fun v g => ⟨_, rfl, have s := s.j [] [0, 1] g; (st s 1 [I r18.Ki, U r18.Sp.Lo, U r18.Sp.Hi, I r18.Map]) fun x s => nx (rt (tr ?_))⟩)))))))
  obtain rfl := ij c
  exact QW.ret_c rfl rfl (rl (cs := [I r18.Ki, U r18.Sp.Lo, U r18.Sp.Hi, I r18.Map]) (s.blkN 1 rfl 0 4)) (K _ (s.k []))
 refine sn (rg (pu 2 [(15, Sl o (h).length q), (16, Po f 3)] ((ld s 0) ((be c) fun b d c => ?_))))
 obtain ⟨y, z, C, e⟩ := i.formv (fun _ => ⟨_, rfl⟩) d
 refine (ix 156 4 d e) ((lN (zb b) (i.cellv s d e)) ((st s 1 [I b.Ki, U b.Sp.Lo, U b.Sp.Hi, I b.Map]) fun E s => nx (rt ?_)))
 obtain rfl := ij c
 exact QW.ret_c rfl rfl (rl (cs := [I b.Ki, U b.Sp.Lo, U b.Sp.Hi, I b.Map]) (s.blkN 1 rfl 0 4)) (K _ (s.k []))
theorem qj {w Z a r R} (c : zK a = some r) (s : St w Z w [])
  (K : ∀ w', St w Z w' [] -> R (Rt (B r)) w') : Calls Tryz.prog 166 [Ag [U a.Lo, U a.Hi]].toArray w R := by
 refine sr 9 Tryz.func166 rfl (rg ((bx s [U a.Lo, U a.Hi]) fun b d s => pu 1 [] (nx (rg (pu 1 [(3, Po b 1)] ((ld s 0) (pu 1 [(5, Pt b)] ((ld s 0) (pu 3 [(2, B (!decide (a.Hi < a.Lo)))] (nx (rt ?_)))))))))))
 obtain rfl := ij c
 exact r1 (K _ (s.k []))
theorem jT {w Z d e r R} (o : qs d e = some r) (g : St w Z w [])
  (K : ∀ w', St w Z w' [] -> R (Rt (U r)) w') : Calls Tryz.prog 105 [U d, U e].toArray w R := by
 refine sr 36 Tryz.func105 rfl (rg (pu 1 [] (nx (rg (pu 2 [(5, U 0), (6, U 0)] (nx (sq (rg (pu 1 [(7, I 0)] (nx ((be o) fun j p o => ?_)))))))))))
 refine ck (fun a l => Rep 36 [(5, U j)] a /\ St w Z l []) ?_ fun a l ⟨c, g⟩ => go c (rg (pu 2 [(4, U j)] (nx (rt ?_))))
 ·refine bl ?_
  refine CW.loop (fun n a l => ∃ (s : Nat) (b : Int × Int), s + n = 64 /\ Rep 36 [(0, U d), (1, U e), (5, U b.1), (6, U b.2), (7, I (s : Int))] a /\ St w Z l [] /\ zQ (qp d e) (fun (b : Int × Int) => b.1) n s b = some j) 64 (fun a c => ⟨0, (0, 0), Nat.zero_add _, c.ag, g.keep [] rfl, p⟩) ?_
  rintro h a l ⟨s, b, i, c, g, m⟩
  refine go c (sq (rg (pu 2 [(10, B (decide ((s : Int) < 64)))] (nx ?_))))
  rcases zft (decide ((s : Int) < 64)) with f | f
  ·rcases h with _ | h
   ·exact (zb0 i f).elim
   refine ct f (sn (sq (bl (rg (pu 3 [(13, U d), (15, U (zp (s : Int)))] ?_)))))
   refine OW.op (v := U (qQ .u64 d (zp (s : Int)))) rfl rfl rfl rfl (fun a c => zeV rfl rfl rfl (zhD _) a _ c) ?_
   refine pu 4 [(17, U (xP .u64 (qQ .u64 d (zp (s : Int))) 1)), (18, U e), (20, U (zp (s : Int)))] ?_
   refine OW.op (v := U (qQ .u64 e (zp (s : Int)))) rfl rfl rfl rfl (fun a c => zeV rfl rfl rfl (zhD _) a _ c) ?_
   refine pu 5 [(8, U (zp ((zp ((xP .u64 (qQ .u64 d (zp (s : Int))) 1) + (xP .u64 (qQ .u64 e (zp (s : Int))) 1))) + b.2)))] (nx (rg (pu 5 [(26, U b.1), (28, U (xP .u64 (zp ((zp ((xP .u64 (qQ .u64 d (zp (s : Int))) 1) + (xP .u64 (qQ .u64 e (zp (s : Int))) 1))) + b.2)) 1)), (30, U (zp (s : Int)))] ?_)))
   refine OW.op (v := U (zbO .u64 (xP .u64 (zp ((zp ((xP .u64 (qQ .u64 d (zp (s : Int))) 1) + (xP .u64 (qQ .u64 e (zp (s : Int))) 1))) + b.2)) 1) (zp (s : Int)))) rfl rfl rfl rfl (fun a c => zfQ rfl rfl rfl (zhD _) a _ c) ?_
   refine pu 2 [(5, U (bOr .u64 b.1 (zbO .u64 (xP .u64 (zp ((zp ((xP .u64 (qQ .u64 d (zp (s : Int))) 1) + (xP .u64 (qQ .u64 e (zp (s : Int))) 1))) + b.2)) 1) (zp (s : Int)))))] (nx (rn (pu 3 [(6, U (qQ .u64 (zp ((zp ((xP .u64 (qQ .u64 d (zp (s : Int))) 1) + (xP .u64 (qQ .u64 e (zp (s : Int))) 1))) + b.2)) 1))] (nl (bn (qn (rn (pu 3 [(7, I (w64 ((s : Int) + 1)))] (nl ?_)))))))))
   refine QW.say 7 rfl (congrArg (Value.int .i64) (zq f (by decide))) ?_
   exact me fun a c => ⟨h, zls _, s + 1, (bOr .u64 b.1 (zbO .u64 (xP .u64 (zp ((zp ((xP .u64 (qQ .u64 d (zp (s : Int))) 1) + (xP .u64 (qQ .u64 e (zp (s : Int))) 1))) + b.2)) 1) (zp (s : Int))), qQ .u64 (zp ((zp ((xP .u64 (qQ .u64 d (zp (s : Int))) 1) + (xP .u64 (qQ .u64 e (zp (s : Int))) 1))) + b.2)) 1), zm i, c.ag, g.k [], m⟩
  rcases h with _ | h
  ·refine cf f (ex (te (te (bh ?_))))
   obtain rfl := ij m
   exact me fun a c => ⟨c.ag, g.k []⟩
  exact (zb1 i f).elim
 obtain rfl := ij o
 exact r1 (K _ (g.k []))
theorem zbS {w Z d e r R} (a : vg d e = some r) (s : St w Z w [])
  (K : ∀ w', St w Z w' [] -> R (Rt (U r)) w') : Calls Tryz.prog 106 [U d, U e].toArray w R := by
 refine sr 10 Tryz.func106 rfl (rg (pu 1 [] (nx (rg (pu 3 [(5, U d), (7, U (zgg .u64 18446744073709551615 e))] ((be a) fun l f a => (fn) (jT f (s.p []) fun h b => ⟨_, rfl, have s := s.j [] [] b; (be a) fun r13 g a => (fn) (jT g (s.p []) fun i c => ⟨_, rfl, have s := s.j [] [] c; pu 1 [(4, U r13)] (nx (rt ?_))⟩)⟩)))))))
 obtain rfl := ij a
 exact r1 (K _ (s.k []))
theorem zeA {w Z A l r R} (C : vY A l = some r) (b : St w Z w [])
  (K : ∀ w', St w Z w' [] -> R (Rt (U r)) w') : Calls Tryz.prog 107 [U A, U l].toArray w R := by
 refine sr 24 Tryz.func107 rfl (rg (pu 1 [] (nx (rg (pu 1 [(5, U 0)] (nx (sq (rg (pu 1 [(6, I 0)] (nx ((be C) fun o D C => ?_)))))))))))
 refine ck (fun a m => Rep 24 [(5, U o)] a /\ St w Z m []) ?_ fun a m ⟨e, b⟩ => go e (rg (pu 2 [(4, U o)] (nx (rt ?_))))
 ·refine bl ?_
  refine CW.loop (fun n a m => ∃ (s : Nat) (c : Int × Int), s + n = 64 /\ Rep 24 [(0, U c.1), (1, U l), (5, U c.2), (6, I (s : Int))] a /\ St w Z m [] /\ zQ (qy l) (fun (c : Int × Int) => c.2) n s c = some o) 64 (fun a e => ⟨0, (A, 0), Nat.zero_add _, e.ag, b.keep [] rfl, D⟩) ?_
  rintro h a m ⟨s, c, i, e, b, f⟩
  refine go e (sq (rg (pu 2 [(8, B (decide ((s : Int) < 64)))] (nx ?_))))
  rcases zft (decide ((s : Int) < 64)) with g | g
  ·rcases h with _ | h
   ·exact (zb0 i g).elim
   refine ct g (sn (sq (bl (sq (rg (pu 3 [(11, U l), (13, U (zp (s : Int)))] ?_))))))
   refine OW.op (v := U (qQ .u64 l (zp (s : Int)))) rfl rfl rfl rfl (fun a e => zeV rfl rfl rfl (zhD _) a _ e) ?_
   refine pu 2 [(16, B ((xP .u64 (qQ .u64 l (zp (s : Int))) 1) == 1))] (nx ((be f) fun q d f => ?_))
   refine ck (fun a m => Rep 24 [(0, U c.1), (1, U l), (5, U q), (6, I (s : Int))] a /\ St w Z m []) ?_ fun a m ⟨e, b⟩ => go e (rn (pu 2 [(20, U c.1), (21, U c.1)] ((be f) fun r191 x f => (fn) (jT x (b.p []) fun E t => ⟨_, rfl, have b := b.j [] [] t; pu 1 [(0, U r191)] (nl (bn (qn (rn (pu 3 [(6, I (w64 ((s : Int) + 1)))] (nl ?_))))))⟩))))
   ·refine br d (fun d y => ?_) fun d y => ?_
    ·refine rn (pu 2 [(17, U c.2), (18, U c.1)] ((be d) fun r183 z d => (fn) (jT z (b.p []) fun F u => ⟨_, rfl, have b := b.j [] [] u; pu 1 [(5, U r183)] (nl ?_)⟩)))
     obtain rfl := ij d
     exact me fun a e => ⟨e.ag, b.k []⟩
    refine sk ?_
    obtain rfl := ij d
    exact me fun a e => ⟨e.ag, b.k []⟩
   refine QW.say 6 rfl (congrArg (Value.int .i64) (zq g (by decide))) ?_
   exact me fun a e => ⟨h, zls _, s + 1, (r191, q), zm i, e.ag, b.k [], f⟩
  rcases h with _ | h
  ·refine cf g (ex (te (te (bh ?_))))
   obtain rfl := ij f
   exact me fun a e => ⟨e.ag, b.k []⟩
  exact (zb1 i g).elim
 obtain rfl := ij C
 exact r1 (K _ (b.k []))
theorem zeB {w Z fu e f r R} (t : vZ fu e f = some r) (d : St w Z w [])
  (K : ∀ w', St w Z w' [] -> R (Rt (.tuple #[U r.1, U r.2])) w') : Calls Tryz.prog 108 [U e, U f].toArray w R := by
 refine sr 41 Tryz.func108 rfl (rg (pu 2 [] (nx (rg (pu 2 [(6, U 0), (7, U 0)] (nx (sq (rg (pu 1 [(8, I 63)] (nx ((be t) fun g u t => ?_)))))))))))
 refine ck (fun a h => Rep 41 [(6, U g.1), (7, U g.2)] a /\ St w Z h []) ?_ fun a h ⟨c, d⟩ => go c (rg (pu 4 [(4, U g.1), (5, U g.2)] (nx (rt ?_))))
 ·refine bl ?_
  refine CW.loop (fun n a h => ∃ (s : Int × Int × Int), Rep 41 [(0, U e), (1, U f), (6, U s.1), (7, U s.2.1), (8, I s.2.2)] a /\ St w Z h [] /\ loop (qz e f) n s = some g) fu (fun a c => ⟨(0, 0, 63), c.ag, d.keep [] rfl, u⟩) ?_
  rintro l a h ⟨s, c, d, b⟩
  rcases l with _ | l
  ·exact (jX b).elim
  refine go c (sq (rg (pu 2 [(11, B (decide (s.2.2 >= 0)))] (nx (br b (fun b x => ?_) fun b x => ?_)))))
  ·refine sn (sq (bl (rg (pu 3 [(9, U (qQ .u64 s.2.1 63))] (nx (rg (pu 5 [(17, U (zbO .u64 s.2.1 1)), (18, U e), (20, U (zp s.2.2))] ((be b) fun D y b => ?_))))))))
   refine OW.op (v := U (qQ .u64 e (zp s.2.2))) rfl rfl rfl rfl (fun a c => zeV rfl rfl rfl (zhE y) a _ c) ?_
   refine pu 3 [(7, U (bOr .u64 (zbO .u64 s.2.1 1) (xP .u64 (qQ .u64 e (zp s.2.2)) 1)))] (nx (sq ?_))
   refine ck (fun a h => Rep 41 [(0, U e), (1, U f), (6, U s.1), (7, U (bOr .u64 (zbO .u64 s.2.1 1) (xP .u64 (qQ .u64 e (zp s.2.2)) 1))), (8, I s.2.2), (30, B (((qQ .u64 s.2.1 63) == 1) || decide ((bOr .u64 (zbO .u64 s.2.1 1) (xP .u64 (qQ .u64 e (zp s.2.2)) 1)) >= f)))] a /\ St w Z h []) ?_ fun a h ⟨c, d⟩ => go c (br b (fun b z => ?_) fun b z => ?_)
   ·refine rn (pu 3 [(26, B ((qQ .u64 s.2.1 63) == 1))] (sp 26 (fun i => ?_) fun i => ?_))
    ·refine pu 4 [(30, B true)] (nl ?_)
     exact QW.say 30 (v := B (((qQ .u64 s.2.1 63) == 1) || decide ((bOr .u64 (zbO .u64 s.2.1 1) (xP .u64 (qQ .u64 e (zp s.2.2)) 1)) >= f))) rfl (by rw [i]; try rfl) (me fun a c => ⟨c.ag, d.k []⟩)
    refine pu 4 [(30, B (decide ((bOr .u64 (zbO .u64 s.2.1 1) (xP .u64 (qQ .u64 e (zp s.2.2)) 1)) >= f)))] (nl ?_)
    exact QW.say 30 (v := B (((qQ .u64 s.2.1 63) == 1) || decide ((bOr .u64 (zbO .u64 s.2.1 1) (xP .u64 (qQ .u64 e (zp s.2.2)) 1)) >= f))) rfl (by rw [i]; try rfl) (me fun a c => ⟨c.ag, d.k []⟩)
   ·refine rg (pu 2 [(31, U (bOr .u64 (zbO .u64 s.2.1 1) (xP .u64 (qQ .u64 e (zp s.2.2)) 1))), (32, U f)] ((be b) fun r100 o b => (fn) (zbS o (d.p []) fun A m => ⟨_, rfl, have d := d.j [] [] m; pu 1 [(7, U r100)] (nx (rn (pu 3 [(34, U s.1), (36, U (zp s.2.2))] ((be b) fun C q b => ?_))))⟩)))
    refine OW.op (v := U (zbO .u64 1 (zp s.2.2))) rfl rfl rfl rfl (fun a c => zfQ rfl rfl rfl (zhE q) a _ c) ?_
    exact pu 2 [(6, U (bOr .u64 s.1 (zbO .u64 1 (zp s.2.2))))] (nl (bn (qn (rn (pu 3 [(8, I (w64 (s.2.2 - 1)))] (nl (me fun a c => ⟨l, zls _, (bOr .u64 s.1 (zbO .u64 1 (zp s.2.2)), r100, w64 (s.2.2 - 1)), c.ag, d.k [], b⟩)))))))
   exact sk (bn (qn (rn (pu 3 [(8, I (w64 (s.2.2 - 1)))] (nl (me fun a c => ⟨l, zls _, (s.1, bOr .u64 (zbO .u64 s.2.1 1) (xP .u64 (qQ .u64 e (zp s.2.2)) 1), w64 (s.2.2 - 1)), c.ag, d.k [], b⟩))))))
  refine ex (te (te (bh ?_)))
  obtain rfl := ij b
  exact me fun a c => ⟨c.ag, d.k []⟩
 obtain rfl := ij t
 exact r2 (K _ (d.k []))
theorem zcZ {w Z fu f l g r R} (b : qa fu f l g = some r) (s : St w Z w [])
  (K : ∀ w', St w Z w' [] -> R (Rt (.tuple #[U r.1, B r.2])) w') : Calls Tryz.prog 70 [I f, U l, U g].toArray w R := by
 refine sr 88 Tryz.func70 rfl (rg (pu 2 [] (nx (sq (rg (pu 1 [(11, I f)] (nx (bl (rg (pu 2 [(12, B (f == 1))] (nx (br b (fun b ah => ?_) fun b ah => ?_))))))))))))
 ·refine rg (pu 2 [(14, U l), (15, U g)] ((be b) fun r6 ai b => (fn) (jT ai (s.p []) fun w8 J => ⟨_, rfl, have s := s.j [] [] J; pu 2 [(6, U r6), (7, B true)] (nx (rt (bt (tr ?_))))⟩)))
  obtain rfl := ij b
  exact r2 (K _ (s.k []))
 refine rg (pu 2 [(17, B (f == 2))] (nx (br b (fun b M => ?_) fun b M => ?_)))
 ·refine rg (pu 2 [(19, U l), (20, U g)] ((be b) fun r15 O b => (fn) (zbS O (s.p []) fun am z => ⟨_, rfl, have s := s.j [] [] z; pu 2 [(6, U r15), (7, B true)] (nx (rt (bt (tr ?_))))⟩)))
  obtain rfl := ij b
  exact r2 (K _ (s.k []))
 refine rg (pu 2 [(22, B (f == 3))] (nx (br b (fun b Q => ?_) fun b Q => ?_)))
 ·refine rg (pu 2 [(24, U l), (25, U g)] ((be b) fun r24 T b => (fn) (zeA T (s.p []) fun an A => ⟨_, rfl, have s := s.j [] [] A; pu 2 [(6, U r24), (7, B true)] (nx (rt (bt (tr ?_))))⟩)))
  obtain rfl := ij b
  exact r2 (K _ (s.k []))
 refine sq (rg (pu 2 [(27, B (f == 4))] (nx ((be b) fun aj m b => ?_))))
 refine ck (fun a h => Rep 88 [(0, I f), (1, U l), (2, U g), (11, I f), (27, B aj)] a /\ St w Z h []) ?_ fun a h ⟨d, s⟩ => go d (br b (fun b V => ?_) fun b V => ?_)
 ·refine br m (fun m W => ?_) fun m W => ?_
  ·refine sk ?_
   obtain rfl := ij m
   exact me fun a d => ⟨d.ag, s.k []⟩
  refine rn (pu 2 [(27, B (f == 5))] (nl ?_))
  obtain rfl := ij m
  exact me fun a d => ⟨d.ag, s.k []⟩
 ·refine rg (pu 3 [(8, U 0), (9, U l)] (nx (sq (rg (pu 2 [(32, B (decide (g > 0)))] (nx ((be b) fun u i b => ?_)))))))
  refine ck (fun a h => Rep 88 [(0, I f), (8, U u.1), (9, U u.2)] a /\ St w Z h []) ?_ fun a h ⟨d, s⟩ => go d (sq (rg (pu 2 [(40, B (f == 4))] (nx (br b (fun b X => ?_) fun b X => ?_)))))
  ·refine br i (fun i Y => ?_) fun i Y => ?_
   ·refine rn (pu 2 [(34, U l), (35, U g)] ((be i) fun H aa i => (fn) (zeB aa (s.p []) fun ao C => ⟨_, rfl, have s := s.j [] [] C; pu 5 [(8, U H.1), (9, U H.2)] (nl ?_)⟩)))
    obtain rfl := ij i
    exact me fun a d => ⟨d.ag, s.k []⟩
   refine sk ?_
   obtain rfl := ij i
   exact me fun a d => ⟨d.ag, s.k []⟩
  ·refine rg (pu 3 [(6, U u.1), (7, B true)] (nx (rt (tr (bt (tr ?_))))))
   obtain rfl := ij b
   exact r2 (K _ (s.k []))
  refine sn (rg (pu 3 [(6, U u.2), (7, B true)] (nx (rt (bt (tr ?_))))))
  obtain rfl := ij b
  exact r2 (K _ (s.k []))
 refine rg (pu 2 [(43, B (f == 6))] (nx (br b (fun b ab => ?_) fun b ab => ?_)))
 ·refine rg (pu 8 [(6, U (zgg .u64 18446744073709551615 (bOr .u64 (zgg .u64 18446744073709551615 l) (zgg .u64 18446744073709551615 g)))), (7, B true)] (nx (rt (bt (tr ?_)))))
  obtain rfl := ij b
  exact r2 (K _ (s.k []))
 refine rg (pu 2 [(51, B (f == 7))] (nx (br b (fun b ac => ?_) fun b ac => ?_)))
 ·refine rg (pu 8 [(6, U (zgg .u64 18446744073709551615 (xP .u64 (zgg .u64 18446744073709551615 l) (zgg .u64 18446744073709551615 g)))), (7, B true)] (nx (rt (bt (tr ?_)))))
  obtain rfl := ij b
  exact r2 (K _ (s.k []))
 refine rg (pu 2 [(59, B (f == 8))] (nx (br b (fun b ad => ?_) fun b ad => ?_)))
 ·refine rg (pu 9 [(6, U (bOr .u64 (zeU .u64 l g) (zeU .u64 g l))), (7, B true)] (nx (rt (bt (tr ?_)))))
  obtain rfl := ij b
  exact r2 (K _ (s.k []))
 refine sq (rg (pu 2 [(68, B (f == 9))] (nx ((be b) fun ak o b => ?_))))
 refine ck (fun a h => Rep 88 [(0, I f), (1, U l), (2, U g), (68, B ak)] a /\ St w Z h []) ?_ fun a h ⟨d, s⟩ => go d (br b (fun b ae => ?_) fun b ae => ?_)
 ·refine br o (fun o af => ?_) fun o af => ?_
  ·refine sk ?_
   obtain rfl := ij o
   exact me fun a d => ⟨d.ag, s.k []⟩
  refine rn (pu 2 [(68, B (f == 10))] (nl ?_))
  obtain rfl := ij o
  exact me fun a d => ⟨d.ag, s.k []⟩
 ·refine sq (rg (pu 1 [(10, U 0)] (nx ((be b) fun x D b => ?_))))
  refine ck (fun a h => Rep 88 [(1, U x)] a /\ St w Z h []) ?_ fun a h ⟨d, s⟩ => go d (rg (pu 3 [(6, U x), (7, B true)] (nx (rt (bt (tr ?_))))))
  ·refine bl ?_
   refine CW.loop (fun n a h => ∃ (c : Int × Int), Rep 88 [(0, I f), (1, U c.1), (2, U g), (10, U c.2)] a /\ St w Z h [] /\ loop (qv f g) n c = some x) fu (fun a d => ⟨(l, 0), d.ag, s.keep [] rfl, D⟩) ?_
   rintro q a h ⟨c, d, s, e⟩
   rcases q with _ | q
   ·exact (jX e).elim
   refine go d (sq (sq ?_))
   refine ck (fun a h => Rep 88 [(0, I f), (1, U c.1), (2, U g), (10, U c.2), (77, B (decide (c.2 < g) && decide (c.1 > 0)))] a /\ St w Z h []) ?_ fun a h ⟨d, s⟩ => go d (br e (fun e E => ?_) fun e E => ?_)
   ·refine rn (pu 4 [(74, B (decide (c.2 < g)))] (sp 74 (fun t => ?_) fun t => ?_))
    ·refine pu 3 [(77, B (decide (c.1 > 0)))] (nl ?_)
     exact QW.say 77 (v := B (decide (c.2 < g) && decide (c.1 > 0))) rfl (by rw [t]; try rfl) (me fun a d => ⟨d.ag, s.k []⟩)
    refine pu 3 [(77, B false)] (nl ?_)
    exact QW.say 77 (v := B (decide (c.2 < g) && decide (c.1 > 0))) rfl (by rw [t]; try rfl) (me fun a d => ⟨d.ag, s.k []⟩)
   ·refine sn (sq (bl (rg (pu 2 [(81, B (f == 9))] (nx (br e (fun e F => ?_) fun e F => ?_))))))
    ·exact rn (pu 2 [(82, U c.1), (83, U c.1)] ((be e) fun r134 G e => (fn) (jT G (s.p []) fun al y => ⟨_, rfl, have s := s.j [] [] y; pu 1 [(1, U r134)] (nl (bn (qn (rn (pu 3 [(10, U (zp (c.2 + 1)))] (nl (me fun a d => ⟨q, zls _, (r134, zp (c.2 + 1)), d.ag, s.k [], e⟩)))))))⟩)))
    exact rn (pu 3 [(1, U (zp (c.1.tdiv 2)))] (nl (bn (qn (rn (pu 3 [(10, U (zp (c.2 + 1)))] (nl (me fun a d => ⟨q, zls _, (zp (c.1.tdiv 2), zp (c.2 + 1)), d.ag, s.k [], e⟩))))))))
   refine ex (te (te (bh ?_)))
   obtain rfl := ij e
   exact me fun a d => ⟨d.ag, s.k []⟩
  obtain rfl := ij b
  exact r2 (K _ (s.k []))
 refine sk (bn (qn (rg (pu 2 [(6, U 0), (7, B false)] (nx (rt ?_))))))
 obtain rfl := ij b
 exact r2 (K _ (s.k []))
theorem zeC {w Z c e r R} (f : zaa c e = some r) (b : St w Z w [])
  (K : ∀ w', St w Z w' [] -> R (Rt (B r)) w') : Calls Tryz.prog 172 [U c, U e].toArray w R := by
 refine sr 13 Tryz.func172 rfl (rg (pu 1 [] (nx (sq ((be f) fun j s f => ?_)))))
 refine ck (fun a g => Rep 13 [(4, B j)] a /\ St w Z g []) ?_ fun a g ⟨d, b⟩ => go d (rt ?_)
 ·refine rn (pu 3 [(7, B (decide (c > 0)))] (si 7 s (fun s h => ?_) fun s h => ?_))
  ·refine pu 2 [(8, U e), (9, U c)] ((be s) fun l i s => ?_)
   refine OW.quo rfl rfl rfl rfl rfl (zi5 i) ?_
   refine pu 3 [(4, B (decide (e > (zp (Int.tdiv 18446744073709551615 c)))))] (nl ?_)
   obtain rfl := ij s
   exact me fun a d => ⟨d.ag, b.k []⟩
  refine pu 6 [(4, B false)] (nl ?_)
  obtain rfl := ij s
  exact me fun a d => ⟨d.ag, b.k []⟩
 obtain rfl := ij f
 exact r1 (K _ (b.k []))
theorem zcg {w Z fu e r R} (h : xJ fu e = some r) (b : St w Z w [])
  (K : ∀ w', St w Z w' [] -> R (Rt (U r)) w') : Calls Tryz.prog 173 [U e].toArray w R := by
 refine sr 11 Tryz.func173 rfl (rg (pu 1 [] (nx (rg (pu 1 [(3, U 0)] (nx (sq ((be h) fun i l h => ?_))))))))
 refine ck (fun a f => Rep 11 [(3, U i)] a /\ St w Z f []) ?_ fun a f ⟨d, b⟩ => go d (rg (pu 2 [(2, U i)] (nx (rt ?_))))
 ·refine bl ?_
  refine CW.loop (fun n a f => ∃ (c : Int), Rep 11 [(0, U e), (3, U c)] a /\ St w Z f [] /\ loop (jL e) n c = some i) fu (fun a d => ⟨0, d.ag, b.keep [] rfl, l⟩) ?_
  rintro g a f ⟨c, d, b, s⟩
  rcases g with _ | g
  ·exact (jX s).elim
  refine go d (sq (rg (pu 3 [(6, B (decide (c < e)))] (nx (br s (fun s j => ?_) fun s j => ?_)))))
  ·exact sn (bl (rn (pu 4 [(3, U (zp ((zp (2 * c)) + 1)))] (nl (bn (me fun a d => ⟨g, zls _, (zp ((zp (2 * c)) + 1)), d.ag, b.k [], s⟩))))))
  refine ex (te (te (bh ?_)))
  obtain rfl := ij s
  exact me fun a d => ⟨d.ag, b.k []⟩
 obtain rfl := ij h
 exact r1 (K _ (b.k []))
theorem zdC {w Z fu i f r R} (m : xq fu i f = some r) (s : St w Z w [])
  (K : ∀ w', St w Z w' [] -> R (Rt (.tuple #[Ag [U r.1.Lo, U r.1.Hi], B r.2])) w') : Calls Tryz.prog 174 [Ag [U i.Lo, U i.Hi], U f].toArray w R := by
 refine sr 30 Tryz.func174 rfl (rg ((bx s [U i.Lo, U i.Hi]) fun e A s => (al s [U 0, U 0]) fun j C s => pu 1 [] (nx (sq (rg (pu 1 [(6, U 0)] (nx ((be m) fun o p m => ?_))))))))
 refine ck (fun a g => ∃ (t42 : zd), o = .inl t42 /\ Rep 30 [(2, Pt e), (4, Pt j)] a /\ St w Z g [zs e 154 [U t42.Lo, U t42.Hi], zs j 154 [U 0, U 0]]) ?_ ?_
 ·refine bl ?_
  refine CW.loop (fun n a g => ∃ (b : zd × Int), Rep 30 [(1, U f), (2, Pt e), (4, Pt j), (6, U b.2)] a /\ St w Z g [zs e 154 [U b.1.Lo, U b.1.Hi], zs j 154 [U 0, U 0]] /\ loop (qF f) n b = some o) fu (fun a d => ⟨(i, 0), d.ag, s.keep [0, 1] rfl, p⟩) ?_
  rintro l a g ⟨b, d, s, c⟩
  rcases l with _ | l
  ·exact (jX c).elim
  refine go d (sq (sq ?_))
  refine ck (fun a g => Rep 30 [(1, U f), (2, Pt e), (4, Pt j), (6, U b.2), (14, B (decide (b.2 < f) && decide (b.1.Hi > 0)))] a /\ St w Z g [zs e 154 [U b.1.Lo, U b.1.Hi], zs j 154 [U 0, U 0]]) ?_ fun a g ⟨d, s⟩ => go d (br c (fun c q => ?_) fun c q => ?_)
  ·refine rn (pu 4 [(10, B (decide (b.2 < f)))] (sp 10 (fun h => ?_) fun h => ?_))
   ·refine pu 1 [(11, Po e 1)] ((ld s 0) (pu 2 [(14, B (decide (b.1.Hi > 0)))] (nl ?_)))
    exact QW.say 14 (v := B (decide (b.2 < f) && decide (b.1.Hi > 0))) rfl (by rw [h]; try rfl) (me fun a d => ⟨d.ag, s.k [0, 1]⟩)
   refine pu 4 [(14, B false)] (nl ?_)
   exact QW.say 14 (v := B (decide (b.2 < f) && decide (b.1.Hi > 0))) rfl (by rw [h]; try rfl) (me fun a d => ⟨d.ag, s.k [0, 1]⟩)
  ·refine sn (sq (bl (sq (rg (pu 1 [(17, Po e 1)] ((ld s 0) (pu 1 [(19, B (decide (b.1.Hi > 9223372036854775807)))] (nx (br c (fun c t => ?_) fun c t => ?_)))))))))
   ·refine rg (pu 1 [(20, Ag [U 0, U 0])] ((st s 1 [U 0, U 0]) fun u s => pu 1 [(5, B false)] (nx (rt (tr (bt (tr (tr (bt (tr ?_))))))))))
    obtain rfl := ij c
    obtain rfl := ij m
    exact QW.ret_ct rfl rfl (rl (cs := [U 0, U 0]) (s.blkN 1 rfl 0 2)) rfl (K _ (s.k []))
   exact sn (rg (pu 1 [(21, Pt e)] ((ld s 0) (pu 2 [(23, U (zp (2 * b.1.Lo))), (24, Pt e)] ((st s 0 [U (zp (2 * b.1.Lo)), U b.1.Hi]) fun x s => nx (rn (pu 1 [(25, Po e 1)] ((ld s 0) (pu 2 [(27, U (zp (2 * b.1.Hi))), (28, Po e 1)] ((st s 0 [U (zp (2 * b.1.Lo)), U (zp (2 * b.1.Hi))]) fun y s => nl (bn (qn (rn (pu 3 [(6, U (zp (b.2 + 1)))] (nl (me fun a d => ⟨l, zls _, ((zd.mk (zp (2 * b.1.Lo)) (zp (2 * b.1.Hi))), zp (b.2 + 1)), d.ag, s.k [0, 1], c⟩))))))))))))))))
  refine ex (te (te (bh ?_)))
  obtain rfl := ij c
  exact me fun a d => ⟨b.1, rfl, d.ag, s.k [0, 1]⟩
 rintro a g ⟨t42, rfl, d, s⟩
 refine go d (rg ((lN [U t42.Lo, U t42.Hi] (s.blkN 0 rfl 0 2)) ((st s 1 [U t42.Lo, U t42.Hi]) fun z s => pu 1 [(5, B true)] (nx (rt ?_)))))
 obtain rfl := ij m
 exact QW.ret_ct rfl rfl (rl (cs := [U t42.Lo, U t42.Hi]) (s.blkN 1 rfl 0 2)) rfl (K _ (s.k []))
theorem zch {w Z fu j e r R} (l : vv fu j e = some r) (c : St w Z w [])
  (K : ∀ w', St w Z w' [] -> R (Rt (U r)) w') : Calls Tryz.prog 175 [U j, U e].toArray w R := by
 refine sr 18 Tryz.func175 rfl (rg (pu 1 [] (nx (sq (rg (pu 1 [(5, U 0)] (nx ((be l) fun h m l => ?_))))))))
 refine ck (fun a f => Rep 18 [(0, U h)] a /\ St w Z f []) ?_ fun a f ⟨b, c⟩ => go b (rg (pu 2 [(4, U h)] (nx (rt ?_))))
 ·refine bl ?_
  refine CW.loop (fun n a f => ∃ (s : Int × Int), Rep 18 [(0, U s.1), (1, U e), (5, U s.2)] a /\ St w Z f [] /\ loop (jM e) n s = some h) fu (fun a b => ⟨(j, 0), b.ag, c.keep [] rfl, m⟩) ?_
  rintro i a f ⟨s, b, c, d⟩
  rcases i with _ | i
  ·exact (jX d).elim
  refine go b (sq (sq ?_))
  refine ck (fun a f => Rep 18 [(0, U s.1), (1, U e), (5, U s.2), (12, B (decide (s.2 < e) && decide (s.1 > 0)))] a /\ St w Z f []) ?_ fun a f ⟨b, c⟩ => go b (br d (fun d o => ?_) fun d o => ?_)
  ·refine rn (pu 4 [(9, B (decide (s.2 < e)))] (sp 9 (fun g => ?_) fun g => ?_))
   ·refine pu 3 [(12, B (decide (s.1 > 0)))] (nl ?_)
    exact QW.say 12 (v := B (decide (s.2 < e) && decide (s.1 > 0))) rfl (by rw [g]; try rfl) (me fun a b => ⟨b.ag, c.k []⟩)
   refine pu 3 [(12, B false)] (nl ?_)
   exact QW.say 12 (v := B (decide (s.2 < e) && decide (s.1 > 0))) rfl (by rw [g]; try rfl) (me fun a b => ⟨b.ag, c.k []⟩)
  ·exact sn (sq (bl (rn (pu 3 [(0, U (zp (s.1.tdiv 2)))] (nl (bn (qn (rn (pu 3 [(5, U (zp (s.2 + 1)))] (nl (me fun a b => ⟨i, zls _, (zp (s.1.tdiv 2), zp (s.2 + 1)), b.ag, c.k [], d⟩)))))))))))
  refine ex (te (te (bh ?_)))
  obtain rfl := ij d
  exact me fun a b => ⟨b.ag, c.k []⟩
 obtain rfl := ij l
 exact r1 (K _ (c.k []))
theorem zbq {w Z fu h c d r R} (b : zbv fu h c d = some r) (s : St w Z w [])
  (K : ∀ w', St w Z w' [] -> R (Rt (.tuple #[Ag [U r.1.Lo, U r.1.Hi], B r.2])) w') : Calls Tryz.prog 163 [I h, Ag [U c.Lo, U c.Hi], Ag [U d.Lo, U d.Hi]].toArray w R := by
 refine sr 215 Tryz.func163 rfl (rg ((bx s [U c.Lo, U c.Hi]) fun g w8 s => (bx s [U d.Lo, U d.Hi]) fun f bz s => (al s [U 0, U 0]) fun n b0 s => pu 1 [] (nx (sq (sq ((be b) fun a5 e b => ?_))))))
 refine ck (fun a o => Rep 215 [(0, I h), (4, Pt g), (5, Pt f), (6, Pt n), (28, B a5)] a /\ St w Z o [zs g 154 [U c.Lo, U c.Hi], zs f 154 [U d.Lo, U d.Hi], zs n 154 [U 0, U 0]]) ?_ fun a o ⟨i, s⟩ => go i (br b (fun b aj => ?_) fun b aj => ?_)
 ·refine rn (pu 3 [(15, B (decide (h < 1)))] (si 15 e (fun e ak => ?_) fun e ak => ?_))
  ·refine pu 13 [(28, B true)] (nl ?_)
   obtain rfl := ij e
   exact me fun a i => ⟨i.ag, s.k [0, 1, 2]⟩
  refine pu 4 [(19, B (decide (h > 10)))] (si 19 e (fun e am => ?_) fun e am => ?_)
  ·refine pu 9 [(28, B true)] (nl ?_)
   obtain rfl := ij e
   exact me fun a i => ⟨i.ag, s.k [0, 1, 2]⟩
  refine (lN [U c.Lo, U c.Hi] (s.blkN 0 rfl 0 2)) ((be e) fun r28 an e => (fn) (qj an (s.p []) fun b1 C => ⟨_, rfl, have s := s.j [] [0, 1, 2] C; pu 3 [(24, B (!r28))] (si 24 e (fun e ao => ?_) fun e ao => ?_)⟩))
  ·refine pu 4 [(28, B true)] (nl ?_)
   obtain rfl := ij e
   exact me fun a i => ⟨i.ag, s.k [0, 1, 2]⟩
  refine (lN [U d.Lo, U d.Hi] (s.blkN 1 rfl 0 2)) ((be e) fun a6 aq e => (fn) (qj aq (s.p []) fun b2 D => ⟨_, rfl, have s := s.j [] [0, 1, 2] D; pu 2 [(28, B (!a6))] (nl ?_)⟩))
  obtain rfl := ij e
  exact me fun a i => ⟨i.ag, s.k [0, 1, 2]⟩
 ·refine rg (pu 1 [(29, Ag [U 0, U 0])] ((st s 2 [U 0, U 0]) fun b3 s => pu 1 [(7, B false)] (nx (rt (tr ?_)))))
  obtain rfl := ij b
  exact QW.ret_ct rfl rfl (rl (cs := [U 0, U 0]) (s.blkN 2 rfl 0 2)) rfl (K _ (s.k []))
 refine sn (rg (pu 1 [(30, Ag [U 0, U 18446744073709551615])] ((al s [U 0, U 0]) fun ai b4 s => (st s 3 [U 0, U 18446744073709551615]) fun b5 s => nx (sq (sq ?_)))))
 refine ck (fun a o => Rep 215 [(0, I h), (4, Pt g), (5, Pt f), (6, Pt n), (8, Pt ai), (42, B ((c.Lo == c.Hi) && (d.Lo == d.Hi)))] a /\ St w Z o [zs g 154 [U c.Lo, U c.Hi], zs f 154 [U d.Lo, U d.Hi], zs n 154 [U 0, U 0], zs ai 154 [U 0, U 18446744073709551615]]) ?_ fun a o ⟨i, s⟩ => go i (br b (fun b ar => ?_) fun b ar => ?_)
 ·refine rn (pu 1 [(31, Pt g)] ((ld s 0) (pu 1 [(33, Po g 1)] ((ld s 0) (pu 2 [(36, B (c.Lo == c.Hi))] (sp 36 (fun m => ?_) fun m => ?_))))))
  ·refine pu 1 [(37, Pt f)] ((ld s 1) (pu 1 [(39, Po f 1)] ((ld s 1) (pu 2 [(42, B (d.Lo == d.Hi))] (nl ?_)))))
   exact QW.say 42 (v := B ((c.Lo == c.Hi) && (d.Lo == d.Hi))) rfl (by rw [m]; try rfl) (me fun a i => ⟨i.ag, s.k [0, 1, 2, 3]⟩)
  refine pu 6 [(42, B false)] (nl ?_)
  exact QW.say 42 (v := B ((c.Lo == c.Hi) && (d.Lo == d.Hi))) rfl (by rw [m]; try rfl) (me fun a i => ⟨i.ag, s.k [0, 1, 2, 3]⟩)
 ·refine rg (pu 2 [(44, I h), (45, Pt g)] ((ld s 0) (pu 1 [(47, Pt f)] ((ld s 1) ((be b) fun l au b => (fn) (zcZ au (s.p []) fun b6 E => ⟨_, rfl, have s := s.j [] [0, 1, 2, 3] E; pu 5 [(9, U l.1)] (nx (rg (pu 3 [(54, Ag [U l.1, U l.1])] ((st s 2 [U l.1, U l.1]) fun b8 s => pu 1 [(7, B true)] (nx (rt (tr ?_)))))))⟩))))))
  obtain rfl := ij b
  exact QW.ret_ct rfl rfl (rl (cs := [U l.1, U l.1]) (s.blkN 2 rfl 0 2)) rfl (K _ (s.k []))
 refine sn (sq (rg (pu 1 [(55, I h)] (nx (bl (rg (pu 2 [(56, B (h == 1))] (nx (br b (fun b av => ?_) fun b av => ?_)))))))))
 ·refine sq (rg (pu 1 [(58, Po g 1)] ((ld s 0) (pu 1 [(60, Po f 1)] ((ld s 1) (pu 2 [(63, B (decide (c.Hi > (zp (18446744073709551615 - d.Hi)))))] (nx (br b (fun b aw => ?_) fun b aw => ?_))))))))
  ·refine rg ((lN [U 0, U 18446744073709551615] (s.blkN 3 rfl 0 2)) ((st s 2 [U 0, U 18446744073709551615]) fun ca s => pu 1 [(7, B true)] (nx (rt (tr (bt (tr ?_)))))))
   obtain rfl := ij b
   exact QW.ret_ct rfl rfl (rl (cs := [U 0, U 18446744073709551615]) (s.blkN 2 rfl 0 2)) rfl (K _ (s.k []))
  refine sn (rg (pu 1 [(65, Pt g)] ((ld s 0) (pu 1 [(67, Pt f)] ((ld s 1) (pu 2 [(69, U (zp (c.Lo + d.Lo))), (70, Po g 1)] ((ld s 0) (pu 1 [(72, Po f 1)] ((ld s 1) (pu 2 [(75, Ag [U (zp (c.Lo + d.Lo)), U (zp (c.Hi + d.Hi))])] ((st s 2 [U (zp (c.Lo + d.Lo)), U (zp (c.Hi + d.Hi))]) fun cb s => pu 1 [(7, B true)] (nx (rt (bt (tr ?_)))))))))))))))
  obtain rfl := ij b
  exact QW.ret_ct rfl rfl (rl (cs := [U (zp (c.Lo + d.Lo)), U (zp (c.Hi + d.Hi))]) (s.blkN 2 rfl 0 2)) rfl (K _ (s.k []))
 refine rg (pu 2 [(76, B (h == 2))] (nx (br b (fun b ax => ?_) fun b ax => ?_)))
 ·refine sq (rg (pu 1 [(78, Pt g)] ((ld s 0) (pu 1 [(80, Po f 1)] ((ld s 1) (pu 1 [(82, B (decide (c.Lo < d.Hi)))] (nx (br b (fun b ay => ?_) fun b ay => ?_))))))))
  ·refine rg ((lN [U 0, U 18446744073709551615] (s.blkN 3 rfl 0 2)) ((st s 2 [U 0, U 18446744073709551615]) fun cc s => pu 1 [(7, B true)] (nx (rt (tr (bt (tr ?_)))))))
   obtain rfl := ij b
   exact QW.ret_ct rfl rfl (rl (cs := [U 0, U 18446744073709551615]) (s.blkN 2 rfl 0 2)) rfl (K _ (s.k []))
  refine sn (rg (pu 1 [(84, Pt g)] ((ld s 0) (pu 1 [(86, Po f 1)] ((ld s 1) (pu 2 [(88, U (zp (c.Lo - d.Hi))), (89, Po g 1)] ((ld s 0) (pu 1 [(91, Pt f)] ((ld s 1) (pu 2 [(94, Ag [U (zp (c.Lo - d.Hi)), U (zp (c.Hi - d.Lo))])] ((st s 2 [U (zp (c.Lo - d.Hi)), U (zp (c.Hi - d.Lo))]) fun cd s => pu 1 [(7, B true)] (nx (rt (bt (tr ?_)))))))))))))))
  obtain rfl := ij b
  exact QW.ret_ct rfl rfl (rl (cs := [U (zp (c.Lo - d.Hi)), U (zp (c.Hi - d.Lo))]) (s.blkN 2 rfl 0 2)) rfl (K _ (s.k []))
 refine rg (pu 2 [(95, B (h == 3))] (nx (br b (fun b az => ?_) fun b az => ?_)))
 ·refine sq (rg (pu 1 [(97, Po g 1)] ((ld s 0) (pu 1 [(99, Po f 1)] ((ld s 1) ((be b) fun ce a0 b => (fn) (zeC a0 (s.p []) fun cf F => ⟨_, rfl, have s := s.j [] [0, 1, 2, 3] F; nx (br b (fun b a1 => ?_) fun b a1 => ?_)⟩)))))))
  ·refine rg ((lN [U 0, U 18446744073709551615] (s.blkN 3 rfl 0 2)) ((st s 2 [U 0, U 18446744073709551615]) fun cg s => pu 1 [(7, B true)] (nx (rt (tr (bt (tr ?_)))))))
   obtain rfl := ij b
   exact QW.ret_ct rfl rfl (rl (cs := [U 0, U 18446744073709551615]) (s.blkN 2 rfl 0 2)) rfl (K _ (s.k []))
  refine sn (rg (pu 1 [(103, Pt g)] ((ld s 0) (pu 1 [(105, Pt f)] ((ld s 1) (pu 2 [(107, U (zp (c.Lo * d.Lo))), (108, Po g 1)] ((ld s 0) (pu 1 [(110, Po f 1)] ((ld s 1) (pu 2 [(113, Ag [U (zp (c.Lo * d.Lo)), U (zp (c.Hi * d.Hi))])] ((st s 2 [U (zp (c.Lo * d.Lo)), U (zp (c.Hi * d.Hi))]) fun ch s => pu 1 [(7, B true)] (nx (rt (bt (tr ?_)))))))))))))))
  obtain rfl := ij b
  exact QW.ret_ct rfl rfl (rl (cs := [U (zp (c.Lo * d.Lo)), U (zp (c.Hi * d.Hi))]) (s.blkN 2 rfl 0 2)) rfl (K _ (s.k []))
 refine rg (pu 2 [(114, B (h == 4))] (nx (br b (fun b a2 => ?_) fun b a2 => ?_)))
 ·refine sq (rg (pu 1 [(116, Pt f)] ((ld s 1) (pu 1 [(118, B (d.Lo == 0))] (nx (br b (fun b a3 => ?_) fun b a3 => ?_))))))
  ·refine rg (pu 1 [(119, Po g 1)] ((ld s 0) (pu 1 [(121, Ag [U 0, U c.Hi])] ((st s 2 [U 0, U c.Hi]) fun ci s => pu 1 [(7, B true)] (nx (rt (tr (bt (tr ?_)))))))))
   obtain rfl := ij b
   exact QW.ret_ct rfl rfl (rl (cs := [U 0, U c.Hi]) (s.blkN 2 rfl 0 2)) rfl (K _ (s.k []))
  refine sn (sq ?_)
  refine CW.tail 11 (by kernel_rfl) (by kernel_rfl) ?_
  intro cj G
  have s := s.same G
  refine op' 1 [(122, Pt g)] ((od s 0) (op' 1 [(124, Po f 1)] ((od s 1) ((be b) fun cl a4 b => ?_))))
  refine OS.quo rfl rfl rfl rfl rfl rfl (zi5 a4) ?_
  refine op' 1 [(127, Po g 1)] ((od s 0) (op' 1 [(129, Pt f)] ((od s 1) ((be b) fun cm H b => ?_))))
  refine OS.quo rfl rfl rfl rfl rfl rfl (zi5 H) ?_
  refine op' 1 [(132, Ag [U (zp (c.Lo.tdiv d.Hi)), U (zp (c.Hi.tdiv d.Lo))])] ?_
  refine OS.on ?_
  refine (st s 2 [U (zp (c.Lo.tdiv d.Hi)), U (zp (c.Hi.tdiv d.Lo))]) fun a7 s => pu 1 [(7, B true)] (nx (rt (bt (tr ?_))))
  obtain rfl := ij b
  exact QW.ret_ct rfl rfl (rl (cs := [U (zp (c.Lo.tdiv d.Hi)), U (zp (c.Hi.tdiv d.Lo))]) (s.blkN 2 rfl 0 2)) rfl (K _ (s.k []))
 refine rg (pu 2 [(133, B (h == 5))] (nx (br b (fun b J => ?_) fun b J => ?_)))
 ·refine sq (rg (pu 1 [(135, Pt f)] ((ld s 1) (pu 1 [(137, B (d.Lo == 0))] (nx (br b (fun b M => ?_) fun b M => ?_))))))
  ·refine rg (pu 1 [(138, Po g 1)] ((ld s 0) (pu 1 [(140, Ag [U 0, U c.Hi])] ((st s 2 [U 0, U c.Hi]) fun a8 s => pu 1 [(7, B true)] (nx (rt (tr (bt (tr ?_)))))))))
   obtain rfl := ij b
   exact QW.ret_ct rfl rfl (rl (cs := [U 0, U c.Hi]) (s.blkN 2 rfl 0 2)) rfl (K _ (s.k []))
  refine sn (sq (rg (pu 1 [(141, Po g 1)] ((ld s 0) (pu 1 [(143, Pt f)] ((ld s 1) (pu 1 [(145, B (decide (c.Hi < d.Lo)))] (nx (br b (fun b O => ?_) fun b O => ?_)))))))))
  ·refine rg ((lN [U c.Lo, U c.Hi] (s.blkN 0 rfl 0 2)) ((st s 2 [U c.Lo, U c.Hi]) fun a9 s => pu 1 [(7, B true)] (nx (rt (tr (bt (tr ?_)))))))
   obtain rfl := ij b
   exact QW.ret_ct rfl rfl (rl (cs := [U c.Lo, U c.Hi]) (s.blkN 2 rfl 0 2)) rfl (K _ (s.k []))
  refine sn (rg (pu 1 [(147, Po g 1)] ((ld s 0) (pu 1 [(149, Po f 1)] ((ld s 1) (pu 3 [(153, Ag [U 0, U (vH c.Hi (zp (d.Hi - 1)))])] ((st s 2 [U 0, U (vH c.Hi (zp (d.Hi - 1)))]) fun ba s => pu 1 [(7, B true)] (nx (rt (bt (tr ?_)))))))))))
  obtain rfl := ij b
  exact QW.ret_ct rfl rfl (rl (cs := [U 0, U (vH c.Hi (zp (d.Hi - 1)))]) (s.blkN 2 rfl 0 2)) rfl (K _ (s.k []))
 refine rg (pu 2 [(154, B (h == 6))] (nx (br b (fun b Q => ?_) fun b Q => ?_)))
 ·refine rg (pu 1 [(156, Po g 1)] ((ld s 0) (pu 1 [(158, Po f 1)] ((ld s 1) (pu 2 [(161, Ag [U 0, U (vH c.Hi d.Hi)])] ((st s 2 [U 0, U (vH c.Hi d.Hi)]) fun bb s => pu 1 [(7, B true)] (nx (rt (bt (tr ?_))))))))))
  obtain rfl := ij b
  exact QW.ret_ct rfl rfl (rl (cs := [U 0, U (vH c.Hi d.Hi)]) (s.blkN 2 rfl 0 2)) rfl (K _ (s.k []))
 refine rg (pu 2 [(162, B (h == 7))] (nx (br b (fun b T => ?_) fun b T => ?_)))
 ·refine sq ?_
  refine CW.plan (by kernel_rfl) ?_
  intro bc q
  have s := s.same q
  refine ap [0] [(164, Pt g)] ((ad 1 s 0) (ap [2] [(166, Pt f)] ((ad 3 s 1) (ap [4, 5] [(168, U (zay c.Lo d.Lo)), (169, Po g 1)] ((ad 6 s 0) (ap [7] [(171, Po f 1)] ((ad 8 s 1) (ap [9] [(173, U (zay c.Hi d.Hi))] ((aa 10 [3, 1]) ((be b) fun r124 V b => (fn) (zcg V (s.p []) fun bd t => ⟨_, rfl, have s := s.j [] [0, 1, 2, 3] t; ?_⟩)))))))))))
  refine OA.next ⟨(s.blk 1 rfl rfl), (s.blk 0 rfl rfl), trivial⟩ ?_
  refine ap [11] [(175, Ag [U (zay c.Lo d.Lo), U r124])] ((aa 12 []) ((st s 2 [U (zay c.Lo d.Lo), U r124]) fun bf s => ?_))
  refine OA.next trivial ?_
  refine (aa 13 []) (pu 1 [(7, B true)] ?_)
  refine OA.next trivial ?_
  refine aF (qn (rt (bt (tr ?_))))
  obtain rfl := ij b
  exact QW.ret_ct rfl rfl (rl (cs := [U (zay c.Lo d.Lo), U r124]) (s.blkN 2 rfl 0 2)) rfl (K _ (s.k []))
 refine rg (pu 2 [(176, B (h == 8))] (nx (br b (fun b W => ?_) fun b W => ?_)))
 ·refine rg (pu 1 [(178, Po g 1)] ((ld s 0) (pu 1 [(180, Po f 1)] ((ld s 1) (pu 1 [(182, U (zay c.Hi d.Hi))] ((be b) fun r135 X b => (fn) (zcg X (s.p []) fun bg u => ⟨_, rfl, have s := s.j [] [0, 1, 2, 3] u; pu 1 [(184, Ag [U 0, U r135])] ((st s 2 [U 0, U r135]) fun bh s => pu 1 [(7, B true)] (nx (rt (bt (tr ?_)))))⟩)))))))
  obtain rfl := ij b
  exact QW.ret_ct rfl rfl (rl (cs := [U 0, U r135]) (s.blkN 2 rfl 0 2)) rfl (K _ (s.k []))
 refine rg (pu 2 [(185, B (h == 9))] (nx (br b (fun b Y => ?_) fun b Y => ?_)))
 ·refine sq (rg (pu 1 [(187, Pt f)] ((ld s 1) (pu 1 [(189, Po f 1)] ((ld s 1) (pu 1 [(191, B (d.Lo != d.Hi))] (nx (br b (fun b ab => ?_) fun b ab => ?_))))))))
  ·refine rg ((lN [U 0, U 18446744073709551615] (s.blkN 3 rfl 0 2)) ((st s 2 [U 0, U 18446744073709551615]) fun bi s => pu 1 [(7, B true)] (nx (rt (tr (bt (tr ?_)))))))
   obtain rfl := ij b
   exact QW.ret_ct rfl rfl (rl (cs := [U 0, U 18446744073709551615]) (s.blkN 2 rfl 0 2)) rfl (K _ (s.k []))
  refine sn (rg ((lN [U c.Lo, U c.Hi] (s.blkN 0 rfl 0 2)) (pu 1 [(195, Pt f)] ((ld s 1) ((be b) fun r151 ac b => (fn) (zdC ac (s.p []) fun bj x => ⟨_, rfl, have s := s.j [] [0, 1, 2, 3] x; pu 3 [(198, Ag [U r151.1.Lo, U r151.1.Hi]), (199, B r151.2)] ((al s [U 0, U 0]) fun bk bm s => (st s 4 [U r151.1.Lo, U r151.1.Hi]) fun bo s => pu 1 [(12, B r151.2)] (nx (sq (rg (pu 2 [(201, B (!r151.2))] (nx (br b (fun b ae => ?_) fun b ae => ?_)))))))⟩))))))
  ·refine rg ((lN [U 0, U 18446744073709551615] (s.blkN 3 rfl 0 2)) ((st s 2 [U 0, U 18446744073709551615]) fun bp s => pu 1 [(7, B true)] (nx (rt (tr (bt (tr ?_)))))))
   obtain rfl := ij b
   exact QW.ret_ct rfl rfl (rl (cs := [U 0, U 18446744073709551615]) (s.blkN 2 rfl 0 2)) rfl (K _ (s.k []))
  refine sn (rg ((lN [U r151.1.Lo, U r151.1.Hi] (s.blkN 4 rfl 0 2)) ((st s 2 [U r151.1.Lo, U r151.1.Hi]) fun bq s => pu 1 [(7, B true)] (nx (rt (bt (tr ?_)))))))
  obtain rfl := ij b
  exact QW.ret_ct rfl rfl (rl (cs := [U r151.1.Lo, U r151.1.Hi]) (s.blkN 2 rfl 0 2)) rfl (K _ (s.k []))
 refine sk (bn (qn (sq ?_)))
 refine CW.plan (by kernel_rfl) ?_
 intro bs y
 have s := s.same y
 refine ap [0] [(204, Pt g)] ((ad 1 s 0) (ap [2] [(206, Po f 1)] ((ad 3 s 1) (ap [5] [(209, Po g 1)] ((ad 6 s 0) (ap [7] [(211, Pt f)] ((ad 8 s 1) ((aa 4 [8, 6]) ((be b) fun r176 af b => (fn) (zch af (s.p []) fun bu z => ⟨_, rfl, have s := s.j [] [0, 1, 2, 3] z; ?_⟩))))))))))
 refine OA.next ⟨(s.blk 1 rfl rfl), (s.blk 0 rfl rfl), trivial⟩ ?_
 refine (aa 9 []) ((be b) fun r180 ah b => (fn) (zch ah (s.p []) fun bv A => ⟨_, rfl, have s := s.j [] [0, 1, 2, 3] A; ?_⟩))
 refine OA.next trivial ?_
 refine ap [10] [(214, Ag [U r176, U r180])] ((aa 11 []) ((st s 2 [U r176, U r180]) fun bw s => ?_))
 refine OA.next trivial ?_
 refine (aa 12 []) (pu 1 [(7, B true)] ?_)
 refine OA.next trivial ?_
 refine aF (qn (rt ?_))
 obtain rfl := ij b
 exact QW.ret_ct rfl rfl (rl (cs := [U r176, U r180]) (s.blkN 2 rfl 0 2)) rfl (K _ (s.k []))
theorem zci {w Z r R} (b : zaB = some r) (s : St w Z w [])
  (K : ∀ w', St w Z w' [] -> R (Rt (Ag [I r.Ki, U r.Sp.Lo, U r.Sp.Hi, I r.Map])) w') : Calls Tryz.prog 94 [].toArray w R := by
 refine sr 2 Tryz.func94 rfl (rg ((al s [I 0, U 0, U 0, I 0]) fun f g s => nx (rg ((be b) fun r10 c b => (fn) (xR c (s.p []) fun d a => ⟨_, rfl, have s := s.j [] [0] a; (st s 0 [I r10.Ki, U r10.Sp.Lo, U r10.Sp.Hi, I r10.Map]) fun e s => nx (rt ?_)⟩)))))
 obtain rfl := ij b
 exact QW.ret_c rfl rfl (rl (cs := [I r10.Ki, U r10.Sp.Lo, U r10.Sp.Hi, I r10.Map]) (s.blkN 0 rfl 0 4)) (K _ (s.k []))
theorem qE {w Z a r R} (b : qX a = some r) (s : St w Z w [])
  (K : ∀ w', St w Z w' [] -> R (Rt (Ag [I r.Ki, U r.Sp.Lo, U r.Sp.Hi, I r.Map])) w') : Calls Tryz.prog 142 [U a].toArray w R := by
 refine sr 6 Tryz.func142 rfl (rg ((al s [I 0, U 0, U 0, I 0]) fun c d s => nx (rg (pu 3 [(5, Ag [I 1, U 0, U a, I 0])] ((st s 0 [I 1, U 0, U a, I 0]) fun e s => nx (rt ?_))))))
 obtain rfl := ij b
 exact QW.ret_c rfl rfl (rl (cs := [I 1, U 0, U a, I 0]) (s.blkN 0 rfl 0 4)) (K _ (s.k []))
theorem zd4 {w Z h r R} (b : za1 h = some r) (s : St w Z w [])
  (K : ∀ w', St w Z w' [] -> R (Rt (.tuple #[Ag [I r.1.Ki, U r.1.Sp.Lo, U r.1.Sp.Hi, I r.1.Map], B r.2])) w') : Calls Tryz.prog 164 [I h].toArray w R := by
 refine sr 19 Tryz.func164 rfl (rg ((al s [I 0, U 0, U 0, I 0]) fun l V s => pu 1 [] (nx (sq (rg (pu 1 [(4, I h)] (nx (bl (sq (rg (pu 2 [(5, B (h == 0))] (nx ((be b) fun F e b => ?_)))))))))))))
 refine ck (fun a i => Rep 19 [(2, Pt l), (4, I h), (5, B F)] a /\ St w Z i [zs l 156 [I 0, U 0, U 0, I 0]]) ?_ fun a i ⟨d, s⟩ => go d (br b (fun b q => ?_) fun b q => ?_)
 ·refine br e (fun e D => ?_) fun e D => ?_
  ·refine sk ?_
   obtain rfl := ij e
   exact me fun a d => ⟨d.ag, s.k [0]⟩
  refine rg (pu 2 [(5, B (h == 4))] (nx (br e (fun e t => ?_) fun e t => ?_)))
  ·refine sk ?_
   obtain rfl := ij e
   exact me fun a d => ⟨d.ag, s.k [0]⟩
  refine rn (pu 2 [(5, B (h == 5))] (nl ?_))
  obtain rfl := ij e
  exact me fun a d => ⟨d.ag, s.k [0]⟩
 ·refine rg ((be b) fun r17 u b => (fn) (qE u (s.p []) fun G m => ⟨_, rfl, have s := s.j [] [0] m; (st s 0 [I r17.Ki, U r17.Sp.Lo, U r17.Sp.Hi, I r17.Map]) fun H s => pu 1 [(3, B true)] (nx (rt (bt (tr ?_))))⟩))
  obtain rfl := ij b
  exact QW.ret_ct rfl rfl (rl (cs := [I r17.Ki, U r17.Sp.Lo, U r17.Sp.Hi, I r17.Map]) (s.blkN 0 rfl 0 4)) rfl (K _ (s.k []))
 refine sq (rg (pu 2 [(10, B (h == 1))] (nx ((be b) fun E c b => ?_))))
 refine ck (fun a i => Rep 19 [(2, Pt l), (4, I h), (10, B E)] a /\ St w Z i [zs l 156 [I 0, U 0, U 0, I 0]]) ?_ fun a i ⟨d, s⟩ => go d (br b (fun b v => ?_) fun b v => ?_)
 ·refine br c (fun c x => ?_) fun c x => ?_
  ·refine sk ?_
   obtain rfl := ij c
   exact me fun a d => ⟨d.ag, s.k [0]⟩
  refine rg (pu 2 [(10, B (h == 2))] (nx (br c (fun c y => ?_) fun c y => ?_)))
  ·refine sk ?_
   obtain rfl := ij c
   exact me fun a d => ⟨d.ag, s.k [0]⟩
  refine rn (pu 2 [(10, B (h == 3))] (nl ?_))
  obtain rfl := ij c
  exact me fun a d => ⟨d.ag, s.k [0]⟩
 ·refine rg ((be b) fun f z b => (fn) (qE z (s.p []) fun J n => ⟨_, rfl, have s := s.j [] [0] n; (st s 0 [I f.Ki, U f.Sp.Lo, U f.Sp.Hi, I f.Map]) fun M s => pu 1 [(3, B true)] (nx (rt (bt (tr ?_))))⟩))
  obtain rfl := ij b
  exact QW.ret_ct rfl rfl (rl (cs := [I f.Ki, U f.Sp.Lo, U f.Sp.Hi, I f.Map]) (s.blkN 0 rfl 0 4)) rfl (K _ (s.k []))
 refine rg (pu 2 [(15, B (h == 6))] (nx (br b (fun b A => ?_) fun b A => ?_)))
 ·refine rg ((be b) fun g C b => (fn) (qE C (s.p []) fun O o => ⟨_, rfl, have s := s.j [] [0] o; (st s 0 [I g.Ki, U g.Sp.Lo, U g.Sp.Hi, I g.Map]) fun Q s => pu 1 [(3, B true)] (nx (rt (bt (tr ?_))))⟩))
  obtain rfl := ij b
  exact QW.ret_ct rfl rfl (rl (cs := [I g.Ki, U g.Sp.Lo, U g.Sp.Hi, I g.Map]) (s.blkN 0 rfl 0 4)) rfl (K _ (s.k []))
 refine sk (bn (qn (rg (pu 1 [(18, Ag [I 0, U 0, U 0, I 0])] ((st s 0 [I 0, U 0, U 0, I 0]) fun T s => pu 1 [(3, B false)] (nx (rt ?_)))))))
 obtain rfl := ij b
 exact QW.ret_ct rfl rfl (rl (cs := [I 0, U 0, U 0, I 0]) (s.blkN 0 rfl 0 4)) rfl (K _ (s.k []))
theorem zbb {w Z c e r R} (g : xr c e = some r) (b : St w Z w [])
  (K : ∀ w', St w Z w' [] -> R (Rt (B r)) w') : Calls Tryz.prog 167 [Ag [U c.Lo, U c.Hi], U e].toArray w R := by
 refine sr 19 Tryz.func167 rfl (rg ((bx b [U c.Lo, U c.Hi]) fun m t b => pu 1 [] (nx (sq ((be g) fun n s g => ?_)))))
 refine ck (fun a o => Rep 19 [(4, B n)] a /\ St w Z o []) ?_ fun a o ⟨d, b⟩ => go d (rt ?_)
 ·refine rn ((lN [U c.Lo, U c.Hi] (b.blkN 0 rfl 0 2)) ((be s) fun r17 h s => (fn) (qj h (b.p []) fun q f => ⟨_, rfl, have b := b.j [] [0] f; pu 1 [(7, B r17)] (si 7 s (fun s i => ?_) fun s i => ?_)⟩)))
  ·refine pu 2 [(8, U e), (9, Pt m)] ((ld b 0) (pu 3 [(13, B (decide (e >= c.Lo)))] (si 13 s (fun s l => ?_) fun s l => ?_)))
   ·refine pu 2 [(14, U e), (15, Po m 1)] ((ld b 0) (pu 3 [(4, B (decide (e <= c.Hi)))] (nl ?_)))
    obtain rfl := ij s
    exact me fun a d => ⟨d.ag, b.k []⟩
   refine pu 6 [(4, B false)] (nl ?_)
   obtain rfl := ij s
   exact me fun a d => ⟨d.ag, b.k []⟩
  refine pu 12 [(4, B false)] (nl ?_)
  obtain rfl := ij s
  exact me fun a d => ⟨d.ag, b.k []⟩
 obtain rfl := ij g
 exact r1 (K _ (b.k []))
theorem vT {w Z e b c f r R} (d : vB e b c f = some r) (s : St w Z w [])
  (K : ∀ w', St w Z w' [] -> R (Rt (.tuple #[Ag [U r.1.Lo, U r.1.Hi], B r.2])) w') : Calls Tryz.prog 165 [I e, Ag [U b.Lo, U b.Hi], Ag [U c.Lo, U c.Hi], B f].toArray w R := by
 refine sr 132 Tryz.func165 rfl (rg ((bx s [U b.Lo, U b.Hi]) fun i w8 s => (bx s [U c.Lo, U c.Hi]) fun q ak s => (al s [U 0, U 0]) fun n am s => pu 1 [] (nx (sq (sq ((be d) fun ah h d => ?_))))))
 refine ck (fun a o => Rep 132 [(0, I e), (3, B f), (5, Pt i), (6, Pt q), (8, Pt n), (28, B ah)] a /\ St w Z o [zs i 154 [U b.Lo, U b.Hi], zs q 154 [U c.Lo, U c.Hi], zs n 154 [U 0, U 0]]) ?_ fun a o ⟨g, s⟩ => go g (br d (fun d G => ?_) fun d G => ?_)
 ·refine rn (pu 3 [(15, B (decide (e < 16)))] (si 15 h (fun h H => ?_) fun h H => ?_))
  ·refine pu 13 [(28, B true)] (nl ?_)
   obtain rfl := ij h
   exact me fun a g => ⟨g.ag, s.k [0, 1, 2]⟩
  refine pu 4 [(19, B (decide (e > 19)))] (si 19 h (fun h J => ?_) fun h J => ?_)
  ·refine pu 9 [(28, B true)] (nl ?_)
   obtain rfl := ij h
   exact me fun a g => ⟨g.ag, s.k [0, 1, 2]⟩
  refine (lN [U b.Lo, U b.Hi] (s.blkN 0 rfl 0 2)) ((be h) fun r28 M h => (fn) (qj M (s.p []) fun an D => ⟨_, rfl, have s := s.j [] [0, 1, 2] D; pu 3 [(24, B (!r28))] (si 24 h (fun h O => ?_) fun h O => ?_)⟩))
  ·refine pu 4 [(28, B true)] (nl ?_)
   obtain rfl := ij h
   exact me fun a g => ⟨g.ag, s.k [0, 1, 2]⟩
  refine (lN [U c.Lo, U c.Hi] (s.blkN 1 rfl 0 2)) ((be h) fun ai Q h => (fn) (qj Q (s.p []) fun ao E => ⟨_, rfl, have s := s.j [] [0, 1, 2] E; pu 2 [(28, B (!ai))] (nl ?_)⟩))
  obtain rfl := ij h
  exact me fun a g => ⟨g.ag, s.k [0, 1, 2]⟩
 ·refine rg (pu 1 [(29, Ag [U 0, U 0])] ((st s 2 [U 0, U 0]) fun ap s => pu 1 [(9, B false)] (nx (rt (tr ?_)))))
  obtain rfl := ij d
  exact QW.ret_ct rfl rfl (rl (cs := [U 0, U 0]) (s.blkN 2 rfl 0 2)) rfl (K _ (s.k []))
 refine sn (sq (rg (pu 1 [(30, Pt q)] ((ld s 1) (pu 1 [(32, Po q 1)] ((ld s 1) (pu 1 [(34, B (c.Lo != c.Hi))] (nx (br d (fun d T => ?_) fun d T => ?_)))))))))
 ·refine rg ((lN [U b.Lo, U b.Hi] (s.blkN 0 rfl 0 2)) ((st s 2 [U b.Lo, U b.Hi]) fun aq s => pu 1 [(9, B true)] (nx (rt (tr ?_)))))
  obtain rfl := ij d
  exact QW.ret_ct rfl rfl (rl (cs := [U b.Lo, U b.Hi]) (s.blkN 2 rfl 0 2)) rfl (K _ (s.k []))
 refine sn (rg (pu 1 [(36, Pt q)] ((ld s 1) (pu 1 [(10, U c.Lo)] (nx (sq ?_))))))
 refine ck (fun a o => Rep 132 [(0, I e), (3, B f), (5, Pt i), (6, Pt q), (8, Pt n), (10, U c.Lo), (11, B (((e == 18) && f) || ((e == 19) && (!f))))] a /\ St w Z o [zs i 154 [U b.Lo, U b.Hi], zs q 154 [U c.Lo, U c.Hi], zs n 154 [U 0, U 0]]) ?_ fun a o ⟨g, s⟩ => go g (sq ?_)
 ·refine rn (pu 3 [(40, B (e == 18))] (sp 40 (fun l => ?_) fun l => ?_))
  ·refine pu 3 [(43, B f)] (sp 43 (fun t => ?_) fun t => ?_)
   ·refine pu 8 [(11, B true)] (nl ?_)
    exact QW.say 11 (v := B (((e == 18) && f) || ((e == 19) && (!f)))) rfl (by rw [l, t]; try rfl) (me fun a g => ⟨g.ag, s.k [0, 1, 2]⟩)
   refine pu 3 [(46, B (e == 19))] (sp 46 (fun x => ?_) fun x => ?_)
   ·refine pu 5 [(11, B (!f))] (nl ?_)
    exact QW.say 11 (v := B (((e == 18) && f) || ((e == 19) && (!f)))) rfl (by rw [l, t, x]; try rfl) (me fun a g => ⟨g.ag, s.k [0, 1, 2]⟩)
   refine pu 5 [(11, B false)] (nl ?_)
   exact QW.say 11 (v := B (((e == 18) && f) || ((e == 19) && (!f)))) rfl (by rw [l, t, x]; try rfl) (me fun a g => ⟨g.ag, s.k [0, 1, 2]⟩)
  refine pu 6 [(43, B false), (46, B (e == 19))] (sp 46 (fun y => ?_) fun y => ?_)
  ·refine pu 5 [(11, B (!f))] (nl ?_)
   exact QW.say 11 (v := B (((e == 18) && f) || ((e == 19) && (!f)))) rfl (by rw [l, y]; try rfl) (me fun a g => ⟨g.ag, s.k [0, 1, 2]⟩)
  refine pu 5 [(11, B false)] (nl ?_)
  exact QW.say 11 (v := B (((e == 18) && f) || ((e == 19) && (!f)))) rfl (by rw [l, y]; try rfl) (me fun a g => ⟨g.ag, s.k [0, 1, 2]⟩)
 refine ck (fun a o => Rep 132 [(0, I e), (5, Pt i), (6, Pt q), (8, Pt n), (10, U c.Lo), (11, B (((e == 18) && f) || ((e == 19) && (!f)))), (12, B (((e == 16) && f) || ((e == 17) && (!f))))] a /\ St w Z o [zs i 154 [U b.Lo, U b.Hi], zs q 154 [U c.Lo, U c.Hi], zs n 154 [U 0, U 0]]) ?_ fun a o ⟨g, s⟩ => go g (sq (bl (rg (pu 2 [(64, B (((e == 18) && f) || ((e == 19) && (!f))))] (nx (br d (fun d V => ?_) fun d V => ?_))))))
 ·refine rn (pu 3 [(53, B (e == 16))] (sp 53 (fun m => ?_) fun m => ?_))
  ·refine pu 3 [(56, B f)] (sp 56 (fun u => ?_) fun u => ?_)
   ·refine pu 8 [(12, B true)] (nl ?_)
    exact QW.say 12 (v := B (((e == 16) && f) || ((e == 17) && (!f)))) rfl (by rw [m, u]; try rfl) (me fun a g => ⟨g.ag, s.k [0, 1, 2]⟩)
   refine pu 3 [(59, B (e == 17))] (sp 59 (fun z => ?_) fun z => ?_)
   ·refine pu 5 [(12, B (!f))] (nl ?_)
    exact QW.say 12 (v := B (((e == 16) && f) || ((e == 17) && (!f)))) rfl (by rw [m, u, z]; try rfl) (me fun a g => ⟨g.ag, s.k [0, 1, 2]⟩)
   refine pu 5 [(12, B false)] (nl ?_)
   exact QW.say 12 (v := B (((e == 16) && f) || ((e == 17) && (!f)))) rfl (by rw [m, u, z]; try rfl) (me fun a g => ⟨g.ag, s.k [0, 1, 2]⟩)
  refine pu 6 [(56, B false), (59, B (e == 17))] (sp 59 (fun A => ?_) fun A => ?_)
  ·refine pu 5 [(12, B (!f))] (nl ?_)
   exact QW.say 12 (v := B (((e == 16) && f) || ((e == 17) && (!f)))) rfl (by rw [m, A]; try rfl) (me fun a g => ⟨g.ag, s.k [0, 1, 2]⟩)
  refine pu 5 [(12, B false)] (nl ?_)
  exact QW.say 12 (v := B (((e == 16) && f) || ((e == 17) && (!f)))) rfl (by rw [m, A]; try rfl) (me fun a g => ⟨g.ag, s.k [0, 1, 2]⟩)
 ·refine sq (rg (pu 1 [(66, Pt i)] ((ld s 0) (pu 2 [(69, B (decide (b.Lo >= c.Lo)))] (nx (br d (fun d W => ?_) fun d W => ?_))))))
  ·refine rg (pu 1 [(70, Ag [U 0, U 0])] ((st s 2 [U 0, U 0]) fun ar s => pu 1 [(9, B false)] (nx (rt (tr (bt (tr ?_)))))))
   obtain rfl := ij d
   exact QW.ret_ct rfl rfl (rl (cs := [U 0, U 0]) (s.blkN 2 rfl 0 2)) rfl (K _ (s.k []))
  refine sn (rg (pu 1 [(71, Pt i)] ((ld s 0) (pu 1 [(73, Po i 1)] ((ld s 0) (pu 4 [(78, Ag [U b.Lo, U (vH b.Hi (zp (c.Lo - 1)))])] ((st s 2 [U b.Lo, U (vH b.Hi (zp (c.Lo - 1)))]) fun au s => pu 1 [(9, B true)] (nx (rt (bt (tr ?_)))))))))))
  obtain rfl := ij d
  exact QW.ret_ct rfl rfl (rl (cs := [U b.Lo, U (vH b.Hi (zp (c.Lo - 1)))]) (s.blkN 2 rfl 0 2)) rfl (K _ (s.k []))
 refine rg (pu 3 [(79, B (decide (e >= 18)))] (nx (br d (fun d X => ?_) fun d X => ?_)))
 ·refine sq (rg (pu 1 [(82, Po i 1)] ((ld s 0) (pu 2 [(85, B (decide (b.Hi < c.Lo)))] (nx (br d (fun d Y => ?_) fun d Y => ?_))))))
  ·refine rg (pu 1 [(86, Ag [U 0, U 0])] ((st s 2 [U 0, U 0]) fun av s => pu 1 [(9, B false)] (nx (rt (tr (bt (tr ?_)))))))
   obtain rfl := ij d
   exact QW.ret_ct rfl rfl (rl (cs := [U 0, U 0]) (s.blkN 2 rfl 0 2)) rfl (K _ (s.k []))
  refine sn (rg (pu 1 [(87, Pt i)] ((ld s 0) (pu 3 [(90, U (zay b.Lo c.Lo)), (91, Po i 1)] ((ld s 0) (pu 1 [(93, Ag [U (zay b.Lo c.Lo), U b.Hi])] ((st s 2 [U (zay b.Lo c.Lo), U b.Hi]) fun aw s => pu 1 [(9, B true)] (nx (rt (bt (tr ?_)))))))))))
  obtain rfl := ij d
  exact QW.ret_ct rfl rfl (rl (cs := [U (zay b.Lo c.Lo), U b.Hi]) (s.blkN 2 rfl 0 2)) rfl (K _ (s.k []))
 refine rg (pu 2 [(94, B (((e == 16) && f) || ((e == 17) && (!f))))] (nx (br d (fun d aa => ?_) fun d aa => ?_)))
 ·refine sq (rg ((lN [U b.Lo, U b.Hi] (s.blkN 0 rfl 0 2)) (pu 1 [(97, U c.Lo)] ((be d) fun aj ab d => (fn) (zbb ab (s.p []) fun ax F => ⟨_, rfl, have s := s.j [] [0, 1, 2] F; pu 1 [(99, B (!aj))] (nx (br d (fun d ac => ?_) fun d ac => ?_))⟩)))))
  ·refine rg (pu 1 [(100, Ag [U 0, U 0])] ((st s 2 [U 0, U 0]) fun ay s => pu 1 [(9, B false)] (nx (rt (tr (bt (tr ?_)))))))
   obtain rfl := ij d
   exact QW.ret_ct rfl rfl (rl (cs := [U 0, U 0]) (s.blkN 2 rfl 0 2)) rfl (K _ (s.k []))
  refine sn (rg ((lN [U c.Lo, U c.Hi] (s.blkN 1 rfl 0 2)) ((st s 2 [U c.Lo, U c.Hi]) fun az s => pu 1 [(9, B true)] (nx (rt (bt (tr ?_)))))))
  obtain rfl := ij d
  exact QW.ret_ct rfl rfl (rl (cs := [U c.Lo, U c.Hi]) (s.blkN 2 rfl 0 2)) rfl (K _ (s.k []))
 refine sk (bn (qn (sq (sq ?_))))
 refine ck (fun a o => Rep 132 [(5, Pt i), (8, Pt n), (10, U c.Lo), (111, B ((b.Lo == c.Lo) && (b.Hi == c.Lo)))] a /\ St w Z o [zs i 154 [U b.Lo, U b.Hi], zs n 154 [U 0, U 0]]) ?_ fun a o ⟨g, s⟩ => go g (br d (fun d ad => ?_) fun d ad => ?_)
 ·refine rn (pu 1 [(102, Pt i)] ((ld s 0) (pu 3 [(106, B (b.Lo == c.Lo))] (sp 106 (fun C => ?_) fun C => ?_))))
  ·refine pu 1 [(107, Po i 1)] ((ld s 0) (pu 3 [(111, B (b.Hi == c.Lo))] (nl ?_)))
   exact QW.say 111 (v := B ((b.Lo == c.Lo) && (b.Hi == c.Lo))) rfl (by rw [C]; try rfl) (me fun a g => ⟨g.ag, s.k [0, 2]⟩)
  refine pu 5 [(111, B false)] (nl ?_)
  exact QW.say 111 (v := B ((b.Lo == c.Lo) && (b.Hi == c.Lo))) rfl (by rw [C]; try rfl) (me fun a g => ⟨g.ag, s.k [0, 2]⟩)
 ·refine rg (pu 1 [(112, Ag [U 0, U 0])] ((st s 1 [U 0, U 0]) fun a0 s => pu 1 [(9, B false)] (nx (rt (tr ?_)))))
  obtain rfl := ij d
  exact QW.ret_ct rfl rfl (rl (cs := [U 0, U 0]) (s.blkN 1 rfl 0 2)) rfl (K _ (s.k []))
 refine sn (sq (rg (pu 1 [(113, Pt i)] ((ld s 0) (pu 2 [(116, B (b.Lo == c.Lo))] (nx (br d (fun d ae => ?_) fun d ae => ?_)))))))
 ·refine rg (pu 3 [(118, U (zp (c.Lo + 1))), (119, Po i 1)] ((ld s 0) (pu 1 [(121, Ag [U (zp (c.Lo + 1)), U b.Hi])] ((st s 1 [U (zp (c.Lo + 1)), U b.Hi]) fun a1 s => pu 1 [(9, B true)] (nx (rt (tr ?_)))))))
  obtain rfl := ij d
  exact QW.ret_ct rfl rfl (rl (cs := [U (zp (c.Lo + 1)), U b.Hi]) (s.blkN 1 rfl 0 2)) rfl (K _ (s.k []))
 refine sn (sq (rg (pu 1 [(122, Po i 1)] ((ld s 0) (pu 2 [(125, B (b.Hi == c.Lo))] (nx (br d (fun d af => ?_) fun d af => ?_)))))))
 ·refine rg (pu 1 [(126, Pt i)] ((ld s 0) (pu 3 [(130, Ag [U b.Lo, U (zp (c.Lo - 1))])] ((st s 1 [U b.Lo, U (zp (c.Lo - 1))]) fun a2 s => pu 1 [(9, B true)] (nx (rt (tr ?_)))))))
  obtain rfl := ij d
  exact QW.ret_ct rfl rfl (rl (cs := [U b.Lo, U (zp (c.Lo - 1))]) (s.blkN 1 rfl 0 2)) rfl (K _ (s.k []))
 refine sn (rg ((lN [U b.Lo, U b.Hi] (s.blkN 0 rfl 0 2)) ((st s 1 [U b.Lo, U b.Hi]) fun a3 s => pu 1 [(9, B true)] (nx (rt ?_)))))
 obtain rfl := ij d
 exact QW.ret_ct rfl rfl (rl (cs := [U b.Lo, U b.Hi]) (s.blkN 1 rfl 0 2)) rfl (K _ (s.k []))
end Go.Proofs.YtgmmfjpmahcocaaGreatDoor
