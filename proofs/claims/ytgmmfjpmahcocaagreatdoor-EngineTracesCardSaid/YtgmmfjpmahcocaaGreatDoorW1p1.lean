import Derived.Test.YtgmmfjpmahcocaaGreatDoorProg
import Derived.Test.YtgmmfjpmahcocaaGreatDoorSq
import Derived.Test.YtgmmfjpmahcocaaGreatDoorO1
set_option linter.unusedSimpArgs false
namespace Go.Proofs.YtgmmfjpmahcocaaGreatDoor
open Go.Sx
set_option linter.unusedVariables false
set_option maxRecDepth 10000
set_option maxHeartbeats 4000000
theorem znZ : zej Tryz.prog 164 3 24 := zej.of (i := Tryz.t164) (by kernel_rfl) (by kernel_rfl) (by kernel_rfl) (by kernel_rfl) (by kernel_rfl) (by decide) (by decide)
theorem zi8 : zej Tryz.prog 156 4 32 := zej.of (i := Tryz.t156) (by kernel_rfl) (by kernel_rfl) (by kernel_rfl) (by kernel_rfl) (by kernel_rfl) (by decide) (by decide)
theorem znz : zej Tryz.prog 158 32 256 := zej.of (i := Tryz.t158) (by kernel_rfl) (by kernel_rfl) (by kernel_rfl) (by kernel_rfl) (by kernel_rfl) (by decide) (by decide)
theorem el4 : zej Tryz.prog 4 1 1 := zej.of (i := Tryz.t4) (by kernel_rfl) (by kernel_rfl) (by kernel_rfl) (by kernel_rfl) (by kernel_rfl) (by decide) (by decide)
theorem el3 : zej Tryz.prog 3 1 8 := zej.of (i := Tryz.t3) (by kernel_rfl) (by kernel_rfl) (by kernel_rfl) (by kernel_rfl) (by kernel_rfl) (by decide) (by decide)
theorem znG : zej Tryz.prog 43 5 40 := zej.of (i := Tryz.t43) (by kernel_rfl) (by kernel_rfl) (by kernel_rfl) (by kernel_rfl) (by kernel_rfl) (by decide) (by decide)
theorem zn6 : zej Tryz.prog 80 7 56 := zej.of (i := Tryz.t80) (by kernel_rfl) (by kernel_rfl) (by kernel_rfl) (by kernel_rfl) (by kernel_rfl) (by decide) (by decide)
theorem zoo : zej Tryz.prog 22 1 24 := zej.of (i := Tryz.t22) (by kernel_rfl) (by kernel_rfl) (by kernel_rfl) (by kernel_rfl) (by kernel_rfl) (by decide) (by decide)
theorem zlU : zej Tryz.prog 126 1 24 := zej.of (i := Tryz.t126) (by kernel_rfl) (by kernel_rfl) (by kernel_rfl) (by kernel_rfl) (by kernel_rfl) (by decide) (by decide)
theorem zn0 : zej Tryz.prog 154 2 16 := zej.of (i := Tryz.t154) (by kernel_rfl) (by kernel_rfl) (by kernel_rfl) (by kernel_rfl) (by kernel_rfl) (by decide) (by decide)
theorem zm2 : zej Tryz.prog 100 3 24 := zej.of (i := Tryz.t100) (by kernel_rfl) (by kernel_rfl) (by kernel_rfl) (by kernel_rfl) (by kernel_rfl) (by decide) (by decide)
theorem zn7 : zej Tryz.prog 26 1 8 := zej.of (i := Tryz.t26) (by kernel_rfl) (by kernel_rfl) (by kernel_rfl) (by kernel_rfl) (by kernel_rfl) (by decide) (by decide)
theorem el2 : zej Tryz.prog 2 1 8 := zej.of (i := Tryz.t2) (by kernel_rfl) (by kernel_rfl) (by kernel_rfl) (by kernel_rfl) (by kernel_rfl) (by decide) (by decide)
theorem zop : zej Tryz.prog 45 6 48 := zej.of (i := Tryz.t45) (by kernel_rfl) (by kernel_rfl) (by kernel_rfl) (by kernel_rfl) (by kernel_rfl) (by decide) (by decide)
theorem zeY {w Z r R} (c : zdu = some r) (s : St w Z w [])
  (K : ∀ (x0_0 : Value) (x0_1 : Value) w', St w Z w' [qH x0_0 3 (zx .i64) 1 r.Ms, qH x0_1 43 zj 5 r.Co] -> R (Rt (Ag [x0_0, x0_1])) w') : Calls Tryz.prog 26 [].toArray w R := by
 refine sr 8 Tryz.func26 rfl (rg ((al s [Sn, Sn]) fun h i s => nx (rg ?_)))
 refine OW.row (α := Int) (e := 3) (enc := zx .i64) (sz := 1) s rfl rfl rfl [2] rfl (fun _ => rfl) rfl rfl (fun _ => by kernel_rfl) ?_
 intro a d s
 refine pu 4 [(2, Ag [I 13, I 2, I 0, I 0, I 0]), (3, Ag [I 14, I 1, I 0, I 0, I 0]), (4, Ag [I 21, I 0, I 0, I 0, I 0]), (5, Ag [I 22, I 0, I 0, I 0, I 0])] ?_
 refine OW.row (α := zc) (e := 43) (enc := zj) (sz := 5) s rfl rfl rfl [(zc.mk 13 2 0 0 0), (zc.mk 14 1 0 0 0), (zc.mk 21 0 0 0 0), (zc.mk 22 0 0 0 0)] rfl (fun _ => rfl) rfl rfl (fun _ => by kernel_rfl) ?_
 intro b f s
 refine pu 1 [(7, Ag [.slice (some ⟨a, 0, none⟩) 1 1, .slice (some ⟨b, 0, none⟩) 4 4])] ((st s 0 [.slice (some ⟨a, 0, none⟩) 1 1, .slice (some ⟨b, 0, none⟩) 4 4]) fun g s => nx (rt ?_))
 obtain rfl := ij c
 exact QW.ret_c rfl rfl (rl (cs := [.slice (some ⟨a, 0, none⟩) 1 1, .slice (some ⟨b, 0, none⟩) 4 4]) (s.blkN 0 rfl 0 2)) (K (.slice (some ⟨a, 0, none⟩) 1 1) (.slice (some ⟨b, 0, none⟩) 4 4) _ (s.k [1, 2]))
theorem zgU {w Z r R} (c : zeN = some r) (s : St w Z w [])
  (K : ∀ (b : Value) (d : List Nat) w', St w Z w' [itI zm7 [b] d r] -> R (Rt (b)) w') : Calls Tryz.prog 11 [].toArray w R := by
 refine sr 3 Tryz.func11 rfl (rg (pu 1 [] (nx (rg (pu 1 [(1, Ag [U 0, U 0, U 0, U 0, U 0, U 0, U 0, U 0, U 0, U 0, U 0, U 0, U 0, U 0, U 0, U 0, U 0, U 0, U 0, U 0, U 0, U 0, U 0, U 0, U 0, U 0, U 0, U 0, U 0, U 0, U 0, U 0])] ((bx s [U 0, U 0, U 0, U 0, U 0, U 0, U 0, U 0, U 0, U 0, U 0, U 0, U 0, U 0, U 0, U 0, U 0, U 0, U 0, U 0, U 0, U 0, U 0, U 0, U 0, U 0, U 0, U 0, U 0, U 0, U 0, U 0]) fun a e s => pu 1 [(0, Pt a)] (nx (rt ?_))))))))
 have s := s.shutP0 (enc := jH) (sz := 32) (he := fun _ => rfl) 0 rfl (zt.mk (zR.mk (fun _ => 0)) (qg.mk (fun _ => 0))) rfl
 obtain rfl := ij c
 exact r1 (K (Pt a) ([a]) _ (s.k [0]))
theorem zdn {w Z x e j r R} (p : zap e j = some r) (d : St w Z w []) (u : Rd w Z x (zx .i64) 1 e)
  (K : ∀ w', St w Z w' [] -> R (Rt (I r)) w') : Calls Tryz.prog 144 [x, I j].toArray w R := by
 refine sr 19 Tryz.func144 rfl ?_
 obtain ⟨C, y, z, rfl⟩ := u.len
 refine rg (pu 1 [] (nx (sq (rg (pu 3 [(7, I ((e).length : Int)), (8, I 0)] (nx ((be p) fun t v p => ?_)))))))
 refine ck (fun a l => ∃ (t54 : Unit), t = .inl t54 /\ Rep 19 [] a /\ St w Z l []) ?_ ?_
 ·refine bl ?_
  refine CW.loop (fun n a l => ∃ (s : Nat) (m : Unit), s + n = (e).length /\ Rep 19 [(0, Sl y (e).length z), (1, I j), (7, I ((e).length : Int)), (8, I (s : Int))] a /\ St w Z l [] /\ zQ (vk e j) (fun (m : Unit) => (.inl ())) n s m = some t) (e).length (fun a f => ⟨0, (), Nat.zero_add _, f.ag, d.keep [] rfl, v⟩) ?_
  rintro g a l ⟨s, m, h, f, d, b⟩
  refine go f (rg (pu 1 [(9, B (decide ((s : Int) < ((e).length : Int))))] (nx (sq ?_))))
  rcases zft (decide ((s : Int) < ((e).length : Int))) with c | c
  ·rcases g with _ | g
   ·exact (zb0 h c).elim
   refine ct c (sn (sq (bl (rg (pu 2 [(5, I (s : Int))] (nx (rg (pu 3 [(11, I j), (12, Sl y (e).length z), (13, I (s : Int))] ((be b) fun A i b => ?_)))))))))
   obtain ⟨F, D, E, o⟩ := u.formv (fun _ => ⟨_, rfl⟩) i
   refine (ix 3 1 i o) ?_
   refine OW.ld rfl rfl rfl rfl (by kernel_rfl) (u.cellv d i o 0 _ rfl) ?_
   refine pu 1 [(16, B (j == A))] (nx (br b (fun b q => ?_) fun b q => ?_))
   ·refine rg (pu 2 [(4, I (s : Int))] (nx (rt (bt (tr (tr (bt (tr ?_))))))))
    obtain rfl := ij b
    obtain rfl := ij p
    exact r1 (K _ (d.k []))
   refine sk (bn (qn (rn (pu 2 [(8, I (w64 ((s : Int) + 1)))] (nl ?_)))))
   refine QW.say 8 rfl (congrArg (Value.int .i64) (zq c C)) ?_
   exact me fun a f => ⟨g, zls _, s + 1, (), zm h, f.ag, d.k [], b⟩
  rcases g with _ | g
  ·refine cf c (ex (te (te (bh ?_))))
   obtain rfl := ij b
   exact me fun a f => ⟨(), rfl, f.ag, d.k []⟩
  exact (zb1 h c).elim
 rintro a l ⟨t54, rfl, f, d⟩
 refine go f (rg (pu 1 [(4, I (-1))] (nx (rt ?_))))
 obtain rfl := ij p
 exact r1 (K _ (d.k []))
theorem zck {w Z e b c r R} (d : xg b c = some r) (s : St w Z w []) (f : Rd w Z e (zx .i64) 1 b)
  (K : ∀ w', St w Z w' [] -> R (Rt (B r)) w') : Calls Tryz.prog 109 [e, I c].toArray w R := by
 refine sr 9 Tryz.func109 rfl ?_
 obtain ⟨n, h, i, rfl⟩ := f.len
 refine rg (pu 1 [] (nx (rg (pu 2 [(5, Sl h (b).length i), (6, I c)] ((be d) fun l g d => (fn) (zdn g (s.p []) (f.give s []) fun m a => ⟨_, rfl, have s := s.j [] [] a; pu 2 [(4, B (decide (l >= 0)))] (nx (rt ?_))⟩))))))
 obtain rfl := ij d
 exact r1 (K _ (s.k []))
theorem zhH {w Z V g r R} (E : zcG g = some r) (d : St w Z w []) (A : Rd w Z V (zx .i64) 1 g)
  (K : ∀ w', St w Z w' [] -> R (Rt (B r)) w') : Calls Tryz.prog 73 [V].toArray w R := by
 refine sr 29 Tryz.func73 rfl ?_
 obtain ⟨W, t, u, rfl⟩ := A.len
 refine rg (pu 1 [] (nx (sq (rg (pu 3 [(5, Sl t (g).length u), (6, I ((g).length : Int)), (7, I 0)] (nx ((be E) fun C F E => ?_)))))))
 refine ck (fun a x => ∃ (t114 : Unit), C = .inl t114 /\ Rep 29 [(0, Sl t (g).length u)] a /\ St w Z x []) ?_ ?_
 ·refine bl ?_
  refine CW.loop (fun n a x => ∃ (c : Nat) (y : Unit), c + n = (g).length /\ Rep 29 [(0, Sl t (g).length u), (5, Sl t (g).length u), (6, I ((g).length : Int)), (7, I (c : Int))] a /\ St w Z x [] /\ zQ (zc2 g) (fun (y : Unit) => (.inl ())) n c y = some C) (g).length (fun a f => ⟨0, (), Nat.zero_add _, f.ag, d.keep [] rfl, F⟩) ?_
  rintro i a x ⟨c, y, m, f, d, b⟩
  refine go f (rg (pu 1 [(8, B (decide ((c : Int) < ((g).length : Int))))] (nx (sq ?_))))
  rcases zft (decide ((c : Int) < ((g).length : Int))) with h | h
  ·rcases i with _ | i
   ·exact (zb0 m h).elim
   refine ct h (sn (sq (bl (rg (pu 1 [(9, I (c : Int))] ((be b) fun o q b => ?_))))))
   obtain ⟨X, Y, aa, z⟩ := A.formv (fun _ => ⟨_, rfl⟩) q
   refine (ix 3 1 q z) ?_
   refine OW.ld rfl rfl rfl rfl (by kernel_rfl) (A.cellv d q z 0 _ rfl) ?_
   refine pu 2 [(3, I (c : Int)), (4, I o)] (nx (sq ((be b) fun T s b => ?_)))
   refine ck (fun a x => Rep 29 [(0, Sl t (g).length u), (5, Sl t (g).length u), (6, I ((g).length : Int)), (7, I (c : Int)), (24, B T)] a /\ St w Z x []) ?_ fun a x ⟨f, d⟩ => go f (br b (fun b G => ?_) fun b G => ?_)
   ·refine rn (pu 3 [(14, B (decide (o < 0)))] (si 14 s (fun s H => ?_) fun s H => ?_))
    ·refine pu 10 [(24, B true)] (nl ?_)
     obtain rfl := ij s
     exact me fun a f => ⟨f.ag, d.k []⟩
    refine pu 4 [(18, B (decide (o >= 4)))] (si 18 s (fun s J => ?_) fun s J => ?_)
    ·refine pu 6 [(24, B true)] (nl ?_)
     obtain rfl := ij s
     exact me fun a f => ⟨f.ag, d.k []⟩
    refine pu 2 [(19, Sl t (g).length u), (20, I (c : Int))] ((be s) fun M l s => ?_)
    refine OW.op (v := Sl t (M).length u) rfl rfl rfl rfl (fun a f => zk7 (e := 3) 1 rfl rfl rfl l A.cap (by kernel_rfl) (by kernel_rfl) a _ f) ?_
    have O := A.pre l
    refine pu 1 [(22, I o)] ((be s) fun r218 Q s => (fn) (zck Q (d.p []) (O.give d []) fun ab D => ⟨_, rfl, have d := d.j [] [] D; pu 1 [(24, B r218)] (nl ?_)⟩))
    obtain rfl := ij s
    exact me fun a f => ⟨f.ag, d.k []⟩
   ·refine rg (pu 1 [(2, B false)] (nx (rt (bt (tr (tr (bt (tr ?_))))))))
    obtain rfl := ij b
    obtain rfl := ij E
    exact r1 (K _ (d.k []))
   refine sk (bn (qn (rn (pu 2 [(7, I (w64 ((c : Int) + 1)))] (nl ?_)))))
   refine QW.say 7 rfl (congrArg (Value.int .i64) (zq h W)) ?_
   exact me fun a f => ⟨i, zls _, c + 1, (), zm m, f.ag, d.k [], b⟩
  rcases i with _ | i
  ·refine cf h (ex (te (te (bh ?_))))
   obtain rfl := ij b
   exact me fun a f => ⟨(), rfl, f.ag, d.k []⟩
  exact (zb1 m h).elim
 rintro a x ⟨t114, rfl, f, d⟩
 refine go f (rg (pu 4 [(2, B (decide (((g).length : Int) <= 4)))] (nx (rt ?_))))
 obtain rfl := ij E
 exact r1 (K _ (d.k []))
theorem zfz {w Z b r R} (d : zbF b = some r) (s : St w Z w []) (h : Rd w Z (.slice (some ⟨0, 0, none⟩) 23 23) zJ 2 vJ)
  (K : ∀ w', St w Z w' [] -> R (Rt (.tuple #[Ag [.string r.1.name, .string r.1.fields], B r.2])) w') : Calls Tryz.prog 83 [I b].toArray w R := by
 refine sr 14 Tryz.func83 rfl (rg ((al s [.string ByteArray.empty, .string ByteArray.empty]) fun i o s => pu 1 [] (nx (sq (sq ?_)))))
 refine ck (fun a j => Rep 14 [(0, I b), (2, Pt i), (9, B (decide (b < 0) || decide (b >= 23)))] a /\ St w Z j [zs i 167 [.string ByteArray.empty, .string ByteArray.empty]]) ?_ fun a j ⟨e, s⟩ => go e (br d (fun d l => ?_) fun d l => ?_)
 ·refine rn (pu 3 [(6, B (decide (b < 0)))] (sp 6 (fun g => ?_) fun g => ?_))
  ·refine pu 3 [(9, B true)] (nl ?_)
   exact QW.say 9 (v := B (decide (b < 0) || decide (b >= 23))) rfl (by rw [g]; try rfl) (me fun a e => ⟨e.ag, s.k [0]⟩)
  refine pu 3 [(9, B (decide (b >= 23)))] (nl ?_)
  exact QW.say 9 (v := B (decide (b < 0) || decide (b >= 23))) rfl (by rw [g]; try rfl) (me fun a e => ⟨e.ag, s.k [0]⟩)
 ·refine rg (pu 1 [(10, Ag [.string ByteArray.empty, .string ByteArray.empty])] ((st s 0 [.string ByteArray.empty, .string ByteArray.empty]) fun p s => pu 1 [(3, B false)] (nx (rt (tr ?_)))))
  obtain rfl := ij d
  exact QW.ret_ct rfl rfl (rl (cs := [.string ByteArray.empty, .string ByteArray.empty]) (s.blkN 0 rfl 0 2)) rfl (K _ (s.k []))
 refine sn (rg (pu 1 [(11, I b)] ((be d) fun c f d => ?_)))
 refine OW.op (v := .pointer (some ⟨0, 0 + Int.toNat b * 2, none⟩)) rfl rfl rfl rfl (fun a e => zy (n := vJ.length) 167 2 rfl rfl rfl (zh f).1 (zh f).2.1 (by kernel_rfl) (by kernel_rfl) a _ e) ?_
 refine (lN (zJ c) (h.cellv s f (show Value.slice (some ⟨0, 0, none⟩) 23 23 = .slice (some ⟨0, 0, none⟩) vJ.length 23 from rfl))) ((st s 0 [.string c.name, .string c.fields]) fun m s => pu 1 [(3, B true)] (nx (rt ?_)))
 obtain rfl := ij d
 exact QW.ret_ct rfl rfl (rl (cs := [.string c.name, .string c.fields]) (s.blkN 0 rfl 0 2)) rfl (K _ (s.k []))
theorem zcf {w Z s r R} (f : zbG s = some r) (b : St w Z w [])
  (K : ∀ w', St w Z w' [] -> R (Rt (B r)) w') : Calls Tryz.prog 125 [I s].toArray w R := by
 refine sr 9 Tryz.func125 rfl (rg (pu 1 [] (nx (sq ?_))))
 refine ck (fun a e => Rep 9 [(2, B (decide (s >= 0) && decide (s < 8)))] a /\ St w Z e []) ?_ fun a e ⟨c, b⟩ => go c (rt ?_)
 ·refine rn (pu 3 [(5, B (decide (s >= 0)))] (sp 5 (fun d => ?_) fun d => ?_))
  ·refine pu 4 [(2, B (decide (s < 8)))] (nl ?_)
   exact QW.say 2 (v := B (decide (s >= 0) && decide (s < 8))) rfl (by rw [d]; try rfl) (me fun a c => ⟨c.ag, b.k []⟩)
  refine pu 4 [(2, B false)] (nl ?_)
  exact QW.say 2 (v := B (decide (s >= 0) && decide (s < 8))) rfl (by rw [d]; try rfl) (me fun a c => ⟨c.ag, b.k []⟩)
 obtain rfl := ij f
 exact r1 (K _ (b.k []))
theorem zak {w Z s c d r R} (h : zaP s c d = some r) (b : St w Z w [])
  (K : ∀ w', St w Z w' [] -> R (Rt (B r)) w') : Calls Tryz.prog 126 [I s, I c, I d].toArray w R := by
 refine sr 15 Tryz.func126 rfl (rg (pu 1 [] (nx (sq ?_))))
 refine ck (fun a g => Rep 15 [(6, B (decide (s >= c) && decide (s <= d)))] a /\ St w Z g []) ?_ fun a g ⟨e, b⟩ => go e (rt ?_)
 ·refine rn (pu 4 [(10, B (decide (s >= c)))] (sp 10 (fun f => ?_) fun f => ?_))
  ·refine pu 5 [(6, B (decide (s <= d)))] (nl ?_)
   exact QW.say 6 (v := B (decide (s >= c) && decide (s <= d))) rfl (by rw [f]; try rfl) (me fun a e => ⟨e.ag, b.k []⟩)
  refine pu 5 [(6, B false)] (nl ?_)
  exact QW.say 6 (v := B (decide (s >= c) && decide (s <= d))) rfl (by rw [f]; try rfl) (me fun a e => ⟨e.ag, b.k []⟩)
 obtain rfl := ij h
 exact r1 (K _ (b.k []))
theorem zcq {w Z o r R} (x : vc o = some r) (c : St w Z w []) (bp : Rd w Z (.slice (some ⟨0, 0, none⟩) 23 23) zJ 2 vJ)
  (K : ∀ w', St w Z w' [] -> R (Rt (B r)) w') : Calls Tryz.prog 82 [Ag [I o.Op, I o.D, I o.A, I o.B, I o.Imm]].toArray w R := by
 refine sr 129 Tryz.func82 rfl (rg ((bx c [I o.Op, I o.D, I o.A, I o.B, I o.Imm]) fun t w4 c => pu 1 [] (nx (rg (pu 1 [(8, Pt t)] ((ld c 0) ((be x) fun r12 bk x => (fn) (zfz bk (c.p []) (bp.give c []) fun cm ai => ⟨_, rfl, have c := c.j [] [0] ai; pu 3 [(11, Ag [.string r12.1.name, .string r12.1.fields]), (12, B r12.2)] ((al c [.string ByteArray.empty, .string ByteArray.empty]) fun C cn c => (st c 1 [.string r12.1.name, .string r12.1.fields]) fun co c => pu 1 [(4, B r12.2)] (nx (sq (rg (pu 2 [(14, B (!r12.2))] (nx (br x (fun x bm => ?_) fun x bm => ?_)))))))⟩))))))))
 ·refine rg (pu 1 [(2, B false)] (nx (rt (tr ?_))))
  obtain rfl := ij x
  exact r1 (K _ (c.k []))
 refine sn (rg ((al c [I 0, I 0, I 0, I 0, I 0]) fun m cp c => nx (sq ?_)))
 refine CW.plan (by kernel_rfl) ?_
 intro cq aj
 have c := c.same aj
 refine ap [0] [(15, Po t 1)] ((ad 1 c 0) (ap [2] [(17, Po t 2)] ((ad 3 c 0) (ap [4] [(19, Po t 3)] ((ad 5 c 0) (ap [6] [(21, Po t 4)] ((ad 7 c 0) (ap [8] [(23, Po m 1)] ((aa 9 [7, 5, 3]) ((st c 2 [I 0, I o.D, I 0, I 0, I 0]) fun cr c => ?_))))))))))
 refine OA.next ⟨(c.blk 0 rfl rfl), (c.blk 0 rfl rfl), (c.blk 0 rfl rfl), trivial⟩ ?_
 refine ap [10] [(24, Po m 2)] ((aa 11 [7, 5]) ((st c 2 [I 0, I o.D, I o.A, I 0, I 0]) fun cs c => ?_))
 refine OA.next ⟨(c.blk 0 rfl rfl), (c.blk 0 rfl rfl), trivial⟩ ?_
 refine ap [12] [(25, Po m 3)] ((aa 13 [7]) ((st c 2 [I 0, I o.D, I o.A, I o.B, I 0]) fun cu c => ?_))
 refine OA.next ⟨(c.blk 0 rfl rfl), trivial⟩ ?_
 refine ap [14] [(26, Po m 4)] ((aa 15 []) ((st c 2 [I 0, I o.D, I o.A, I o.B, I o.Imm]) fun cv c => ?_))
 refine OA.next trivial ?_
 refine aF (qn (sq (rg (pu 1 [(27, Po C 1)] ((ld c 1) (pu 2 [(29, I (r12.1.fields.size : Int)), (30, I 0)] (nx ((be x) fun l y x => ?_))))))))
 refine ck (fun a z => Rep 129 [(4, B l.1), (5, Pt m)] a /\ St w Z z [zs m 43 [I l.2.Op, I l.2.D, I l.2.A, I l.2.B, I l.2.Imm]]) ?_ fun a z ⟨f, c⟩ => go f (sq ((be x) fun bo u x => ?_))
 ·refine bl ((be y) fun bq h y => ?_)
  refine CW.loop (fun n a z => ∃ (d : Nat) (s : Bool × zc), d + n = r12.1.fields.size /\ Rep 129 [(1, Pt t), (3, Pt C), (4, B s.1), (5, Pt m), (29, I (r12.1.fields.size : Int)), (30, I (d : Int))] a /\ St w Z z [zs t 43 [I o.Op, I o.D, I o.A, I o.B, I o.Imm], zs C 167 [.string r12.1.name, .string r12.1.fields], zs m 43 [I s.2.Op, I s.2.D, I s.2.A, I s.2.B, I s.2.Imm]] /\ zQ (zbH o r12) (fun (s : Bool × zc) => (s.1, s.2)) n d s = some l) r12.1.fields.size (fun a f => ⟨0, (r12.2, (zc.mk 0 o.D o.A o.B o.Imm)), Nat.zero_add _, f.ag, c.keep [0, 1, 2] rfl, y⟩) ?_
  rintro i a z ⟨d, s, g, f, c, b⟩
  refine go f (rg (pu 1 [(31, B (decide ((d : Int) < (r12.1.fields.size : Int))))] (nx (sq ?_))))
  rcases zft (decide ((d : Int) < (r12.1.fields.size : Int))) with e | e
  ·rcases i with _ | i
   ·exact (zb0 g e).elim
   refine ct e (sn (sq (bl (rg (pu 2 [(6, I (d : Int))] (nx (rg (pu 1 [(33, Po C 1)] ((ld c 1) (pu 1 [(35, I (d : Int))] ((be b) fun q ak b => ?_)))))))))))
   refine OW.op (v := .int .u8 q) rfl rfl rfl rfl (fun a f => zhB rfl rfl rfl (by kernel_rfl) ak a _ f) ?_
   refine nx (bl (rg (pu 2 [(37, B (q == 100))] (nx (br b (fun b am => ?_) fun b am => ?_)))))
   ·refine rn (pu 2 [(40, B s.1)] (si 40 b (fun b an => ?_) fun b an => ?_))
    ·refine pu 1 [(41, Po t 1)] ((ld c 0) ((be b) fun E ao b => (fn) (zcf ao (c.p []) fun bs F => ⟨_, rfl, have c := c.j [] [0, 1, 2] F; pu 3 [(4, B E), (45, Po m 1)] ((st c 2 [I s.2.Op, I 0, I s.2.A, I s.2.B, I s.2.Imm]) fun bt c => nl (bn (bn (qn (rn (pu 2 [(30, I (w64 ((d : Int) + 1)))] (nl ?_)))))))⟩)))
     refine QW.say 30 rfl (congrArg (Value.int .i64) (zq e (xm h))) ?_
     exact me fun a f => ⟨i, zls _, d + 1, (E, (zc.mk s.2.Op 0 s.2.A s.2.B s.2.Imm)), zm g, f.ag, c.k [0, 1, 2], b⟩
    refine pu 6 [(4, B false), (45, Po m 1)] ((st c 2 [I s.2.Op, I 0, I s.2.A, I s.2.B, I s.2.Imm]) fun bu c => nl (bn (bn (qn (rn (pu 2 [(30, I (w64 ((d : Int) + 1)))] (nl ?_)))))))
    refine QW.say 30 rfl (congrArg (Value.int .i64) (zq e (xm h))) ?_
    exact me fun a f => ⟨i, zls _, d + 1, (false, (zc.mk s.2.Op 0 s.2.A s.2.B s.2.Imm)), zm g, f.ag, c.k [0, 1, 2], b⟩
   refine rg (pu 2 [(46, B (q == 97))] (nx (br b (fun b aq => ?_) fun b aq => ?_)))
   ·refine rn (pu 2 [(49, B s.1)] (si 49 b (fun b ar => ?_) fun b ar => ?_))
    ·refine pu 1 [(50, Po t 2)] ((ld c 0) ((be b) fun G au b => (fn) (zcf au (c.p []) fun bv H => ⟨_, rfl, have c := c.j [] [0, 1, 2] H; pu 3 [(4, B G), (54, Po m 2)] ((st c 2 [I s.2.Op, I s.2.D, I 0, I s.2.B, I s.2.Imm]) fun bw c => nl (bn (bn (qn (rn (pu 2 [(30, I (w64 ((d : Int) + 1)))] (nl ?_)))))))⟩)))
     refine QW.say 30 rfl (congrArg (Value.int .i64) (zq e (xm h))) ?_
     exact me fun a f => ⟨i, zls _, d + 1, (G, (zc.mk s.2.Op s.2.D 0 s.2.B s.2.Imm)), zm g, f.ag, c.k [0, 1, 2], b⟩
    refine pu 6 [(4, B false), (54, Po m 2)] ((st c 2 [I s.2.Op, I s.2.D, I 0, I s.2.B, I s.2.Imm]) fun bz c => nl (bn (bn (qn (rn (pu 2 [(30, I (w64 ((d : Int) + 1)))] (nl ?_)))))))
    refine QW.say 30 rfl (congrArg (Value.int .i64) (zq e (xm h))) ?_
    exact me fun a f => ⟨i, zls _, d + 1, (false, (zc.mk s.2.Op s.2.D 0 s.2.B s.2.Imm)), zm g, f.ag, c.k [0, 1, 2], b⟩
   refine rg (pu 2 [(55, B (q == 115))] (nx (br b (fun b av => ?_) fun b av => ?_)))
   ·refine rg (pu 1 [(57, Po m 3)] ((st c 2 [I s.2.Op, I s.2.D, I s.2.A, I 0, I s.2.Imm]) fun b0 c => nx (rg (pu 1 [(58, Po t 3)] ((ld c 0) (pu 1 [(60, B (o.B == 8))] (nx (br b (fun b aw => ?_) fun b aw => ?_))))))))
    ·refine rn (pu 1 [(61, Po m 4)] ((st c 2 [I s.2.Op, I s.2.D, I s.2.A, I 0, I 0]) fun w642 c => nl (bn (bn (qn (rn (pu 2 [(30, I (w64 ((d : Int) + 1)))] (nl ?_))))))))
     refine QW.say 30 rfl (congrArg (Value.int .i64) (zq e (xm h))) ?_
     exact me fun a f => ⟨i, zls _, d + 1, (s.1, (zc.mk s.2.Op s.2.D s.2.A 0 0)), zm g, f.ag, c.k [0, 1, 2], b⟩
    refine rn (pu 2 [(63, B s.1)] (si 63 b (fun b ax => ?_) fun b ax => ?_))
    ·refine pu 1 [(64, Po t 3)] ((ld c 0) ((be b) fun J ay b => (fn) (zcf ay (c.p []) fun w646 M => ⟨_, rfl, have c := c.j [] [0, 1, 2] M; pu 2 [(4, B J)] (nl (bn (bn (qn (rn (pu 2 [(30, I (w64 ((d : Int) + 1)))] (nl ?_)))))))⟩)))
     refine QW.say 30 rfl (congrArg (Value.int .i64) (zq e (xm h))) ?_
     exact me fun a f => ⟨i, zls _, d + 1, (J, (zc.mk s.2.Op s.2.D s.2.A 0 s.2.Imm)), zm g, f.ag, c.k [0, 1, 2], b⟩
    refine pu 5 [(4, B false)] (nl (bn (bn (qn (rn (pu 2 [(30, I (w64 ((d : Int) + 1)))] (nl ?_)))))))
    refine QW.say 30 rfl (congrArg (Value.int .i64) (zq e (xm h))) ?_
    exact me fun a f => ⟨i, zls _, d + 1, (false, (zc.mk s.2.Op s.2.D s.2.A 0 s.2.Imm)), zm g, f.ag, c.k [0, 1, 2], b⟩
   refine rg (pu 2 [(68, B (q == 102))] (nx (br b (fun b az => ?_) fun b az => ?_)))
   ·refine rn (pu 2 [(71, B s.1)] (si 71 b (fun b a0 => ?_) fun b a0 => ?_))
    ·refine pu 1 [(72, Po t 4)] ((ld c 0) ((be b) fun O a1 b => (fn) (zak a1 (c.p []) fun b1 Q => ⟨_, rfl, have c := c.j [] [0, 1, 2] Q; pu 3 [(4, B O), (76, Po m 4)] ((st c 2 [I s.2.Op, I s.2.D, I s.2.A, I s.2.B, I 0]) fun b2 c => nl (bn (bn (qn (rn (pu 2 [(30, I (w64 ((d : Int) + 1)))] (nl ?_)))))))⟩)))
     refine QW.say 30 rfl (congrArg (Value.int .i64) (zq e (xm h))) ?_
     exact me fun a f => ⟨i, zls _, d + 1, (O, (zc.mk s.2.Op s.2.D s.2.A s.2.B 0)), zm g, f.ag, c.k [0, 1, 2], b⟩
    refine pu 6 [(4, B false), (76, Po m 4)] ((st c 2 [I s.2.Op, I s.2.D, I s.2.A, I s.2.B, I 0]) fun b4 c => nl (bn (bn (qn (rn (pu 2 [(30, I (w64 ((d : Int) + 1)))] (nl ?_)))))))
    refine QW.say 30 rfl (congrArg (Value.int .i64) (zq e (xm h))) ?_
    exact me fun a f => ⟨i, zls _, d + 1, (false, (zc.mk s.2.Op s.2.D s.2.A s.2.B 0)), zm g, f.ag, c.k [0, 1, 2], b⟩
   refine rg (pu 2 [(77, B (q == 109))] (nx (br b (fun b a2 => ?_) fun b a2 => ?_)))
   ·refine rn (pu 2 [(80, B s.1)] (si 80 b (fun b a3 => ?_) fun b a3 => ?_))
    ·refine pu 1 [(81, Po t 4)] ((ld c 0) ((be b) fun T a4 b => (fn) (zak a4 (c.p []) fun b5 V => ⟨_, rfl, have c := c.j [] [0, 1, 2] V; pu 3 [(4, B T), (85, Po m 4)] ((st c 2 [I s.2.Op, I s.2.D, I s.2.A, I s.2.B, I 0]) fun b6 c => nl (bn (bn (qn (rn (pu 2 [(30, I (w64 ((d : Int) + 1)))] (nl ?_)))))))⟩)))
     refine QW.say 30 rfl (congrArg (Value.int .i64) (zq e (xm h))) ?_
     exact me fun a f => ⟨i, zls _, d + 1, (T, (zc.mk s.2.Op s.2.D s.2.A s.2.B 0)), zm g, f.ag, c.k [0, 1, 2], b⟩
    refine pu 6 [(4, B false), (85, Po m 4)] ((st c 2 [I s.2.Op, I s.2.D, I s.2.A, I s.2.B, I 0]) fun b7 c => nl (bn (bn (qn (rn (pu 2 [(30, I (w64 ((d : Int) + 1)))] (nl ?_)))))))
    refine QW.say 30 rfl (congrArg (Value.int .i64) (zq e (xm h))) ?_
    exact me fun a f => ⟨i, zls _, d + 1, (false, (zc.mk s.2.Op s.2.D s.2.A s.2.B 0)), zm g, f.ag, c.k [0, 1, 2], b⟩
   refine rg (pu 2 [(86, B (q == 104))] (nx (br b (fun b a5 => ?_) fun b a5 => ?_)))
   ·refine rn (pu 2 [(89, B s.1)] (si 89 b (fun b a6 => ?_) fun b a6 => ?_))
    ·refine pu 1 [(90, Po t 4)] ((ld c 0) ((be b) fun W a7 b => (fn) (zak a7 (c.p []) fun b8 X => ⟨_, rfl, have c := c.j [] [0, 1, 2] X; pu 3 [(4, B W), (94, Po m 4)] ((st c 2 [I s.2.Op, I s.2.D, I s.2.A, I s.2.B, I 0]) fun b9 c => nl (bn (bn (qn (rn (pu 2 [(30, I (w64 ((d : Int) + 1)))] (nl ?_)))))))⟩)))
     refine QW.say 30 rfl (congrArg (Value.int .i64) (zq e (xm h))) ?_
     exact me fun a f => ⟨i, zls _, d + 1, (W, (zc.mk s.2.Op s.2.D s.2.A s.2.B 0)), zm g, f.ag, c.k [0, 1, 2], b⟩
    refine pu 6 [(4, B false), (94, Po m 4)] ((st c 2 [I s.2.Op, I s.2.D, I s.2.A, I s.2.B, I 0]) fun ca c => nl (bn (bn (qn (rn (pu 2 [(30, I (w64 ((d : Int) + 1)))] (nl ?_)))))))
    refine QW.say 30 rfl (congrArg (Value.int .i64) (zq e (xm h))) ?_
    exact me fun a f => ⟨i, zls _, d + 1, (false, (zc.mk s.2.Op s.2.D s.2.A s.2.B 0)), zm g, f.ag, c.k [0, 1, 2], b⟩
   refine rg (pu 2 [(95, B (q == 110))] (nx (br b (fun b a8 => ?_) fun b a8 => ?_)))
   ·refine rn (pu 2 [(98, B s.1)] (si 98 b (fun b a9 => ?_) fun b a9 => ?_))
    ·refine pu 1 [(99, Po t 4)] ((ld c 0) ((be b) fun Y ba b => (fn) (zak ba (c.p []) fun cb ab => ⟨_, rfl, have c := c.j [] [0, 1, 2] ab; pu 3 [(4, B Y), (103, Po m 4)] ((st c 2 [I s.2.Op, I s.2.D, I s.2.A, I s.2.B, I 0]) fun cc c => nl (bn (bn (qn (rn (pu 2 [(30, I (w64 ((d : Int) + 1)))] (nl ?_)))))))⟩)))
     refine QW.say 30 rfl (congrArg (Value.int .i64) (zq e (xm h))) ?_
     exact me fun a f => ⟨i, zls _, d + 1, (Y, (zc.mk s.2.Op s.2.D s.2.A s.2.B 0)), zm g, f.ag, c.k [0, 1, 2], b⟩
    refine pu 6 [(4, B false), (103, Po m 4)] ((st c 2 [I s.2.Op, I s.2.D, I s.2.A, I s.2.B, I 0]) fun cd c => nl (bn (bn (qn (rn (pu 2 [(30, I (w64 ((d : Int) + 1)))] (nl ?_)))))))
    refine QW.say 30 rfl (congrArg (Value.int .i64) (zq e (xm h))) ?_
    exact me fun a f => ⟨i, zls _, d + 1, (false, (zc.mk s.2.Op s.2.D s.2.A s.2.B 0)), zm g, f.ag, c.k [0, 1, 2], b⟩
   refine rg (pu 2 [(104, B (q == 106))] (nx (br b (fun b bb => ?_) fun b bb => ?_)))
   ·refine rn (pu 2 [(107, B s.1)] (si 107 b (fun b bc => ?_) fun b bc => ?_))
    ·refine pu 1 [(108, Po t 1)] ((ld c 0) ((be b) fun ac bd b => (fn) (zak bd (c.p []) fun ce ae => ⟨_, rfl, have c := c.j [] [0, 1, 2] ae; pu 3 [(4, B ac), (112, Po m 1)] ((st c 2 [I s.2.Op, I 0, I s.2.A, I s.2.B, I s.2.Imm]) fun cg c => nl (bn (bn (qn (rn (pu 2 [(30, I (w64 ((d : Int) + 1)))] (nl ?_)))))))⟩)))
     refine QW.say 30 rfl (congrArg (Value.int .i64) (zq e (xm h))) ?_
     exact me fun a f => ⟨i, zls _, d + 1, (ac, (zc.mk s.2.Op 0 s.2.A s.2.B s.2.Imm)), zm g, f.ag, c.k [0, 1, 2], b⟩
    refine pu 6 [(4, B false), (112, Po m 1)] ((st c 2 [I s.2.Op, I 0, I s.2.A, I s.2.B, I s.2.Imm]) fun ch c => nl (bn (bn (qn (rn (pu 2 [(30, I (w64 ((d : Int) + 1)))] (nl ?_)))))))
    refine QW.say 30 rfl (congrArg (Value.int .i64) (zq e (xm h))) ?_
    exact me fun a f => ⟨i, zls _, d + 1, (false, (zc.mk s.2.Op 0 s.2.A s.2.B s.2.Imm)), zm g, f.ag, c.k [0, 1, 2], b⟩
   refine rg (pu 2 [(113, B (q == 98))] (nx (br b (fun b bf => ?_) fun b bf => ?_)))
   ·refine rn (pu 2 [(116, B s.1)] (si 116 b (fun b bg => ?_) fun b bg => ?_))
    ·refine pu 1 [(117, Po t 1)] ((ld c 0) ((be b) fun af bi b => (fn) (zak bi (c.p []) fun ci ah => ⟨_, rfl, have c := c.j [] [0, 1, 2] ah; pu 3 [(4, B af), (121, Po m 1)] ((st c 2 [I s.2.Op, I 0, I s.2.A, I s.2.B, I s.2.Imm]) fun cj c => nl (bn (bn (qn (rn (pu 2 [(30, I (w64 ((d : Int) + 1)))] (nl ?_)))))))⟩)))
     refine QW.say 30 rfl (congrArg (Value.int .i64) (zq e (xm h))) ?_
     exact me fun a f => ⟨i, zls _, d + 1, (af, (zc.mk s.2.Op 0 s.2.A s.2.B s.2.Imm)), zm g, f.ag, c.k [0, 1, 2], b⟩
    refine pu 6 [(4, B false), (121, Po m 1)] ((st c 2 [I s.2.Op, I 0, I s.2.A, I s.2.B, I s.2.Imm]) fun cl c => nl (bn (bn (qn (rn (pu 2 [(30, I (w64 ((d : Int) + 1)))] (nl ?_)))))))
    refine QW.say 30 rfl (congrArg (Value.int .i64) (zq e (xm h))) ?_
    exact me fun a f => ⟨i, zls _, d + 1, (false, (zc.mk s.2.Op 0 s.2.A s.2.B s.2.Imm)), zm g, f.ag, c.k [0, 1, 2], b⟩
   refine sk (bn (bn (qn (rn (pu 2 [(30, I (w64 ((d : Int) + 1)))] (nl ?_))))))
   refine QW.say 30 rfl (congrArg (Value.int .i64) (zq e (xm h))) ?_
   exact me fun a f => ⟨i, zls _, d + 1, (s.1, s.2), zm g, f.ag, c.k [0, 1, 2], b⟩
  rcases i with _ | i
  ·refine cf e (ex (te (te (bh ?_))))
   obtain rfl := ij b
   exact me fun a f => ⟨f.ag, c.k [2]⟩
  exact (zb1 g e).elim
 refine ck (fun a z => Rep 129 [(2, B bo)] a /\ St w Z z []) ?_ fun a z ⟨f, c⟩ => go f (rt ?_)
 ·refine rn (pu 2 [(124, B l.1)] (si 124 u (fun u bj => ?_) fun u bj => ?_))
  ·refine (lN [I l.2.Op, I l.2.D, I l.2.A, I l.2.B, I l.2.Imm] (c.blkN 0 rfl 0 5)) (pu 1 [(126, Ag [I 0, I 0, I 0, I 0, I 0])] ?_)
   refine OW.op (v := B ((l.2.Op == 0) && ((l.2.D == 0) && ((l.2.A == 0) && ((l.2.B == 0) && ((l.2.Imm == 0) && true)))))) rfl rfl rfl rfl (fun a f => zgL rfl rfl rfl (by kernel_rfl) (by kernel_rfl) a _ f) ?_
   refine pu 2 [(2, B ((l.2.Op == 0) && ((l.2.D == 0) && ((l.2.A == 0) && ((l.2.B == 0) && ((l.2.Imm == 0) && true))))))] (nl ?_)
   obtain rfl := ij u
   exact me fun a f => ⟨f.ag, c.k []⟩
  refine pu 5 [(2, B false)] (nl ?_)
  obtain rfl := ij u
  exact me fun a f => ⟨f.ag, c.k []⟩
 obtain rfl := ij x
 exact r1 (K _ (c.k []))
theorem zaF {w Z d j r R} (o : qu d j = some r) (s : St w Z w [])
  (K : ∀ w', St w Z w' [] -> R (Rt (B r)) w') : Calls Tryz.prog 84 [Ag [.string d.name, .string d.fields], .int .u8 j].toArray w R := by
 refine sr 19 Tryz.func84 rfl (rg ((bx s [.string d.name, .string d.fields]) fun p A s => pu 1 [] (nx (sq (rg (pu 1 [(6, Po p 1)] ((ld s 0) (pu 2 [(8, I (d.fields.size : Int)), (9, I 0)] (nx ((be o) fun q h o => ?_))))))))))
 refine ck (fun a l => ∃ (t33 : Unit), q = .inl t33 /\ Rep 19 [] a /\ St w Z l []) ?_ ?_
 ·refine bl ((be h) fun z u h => ?_)
  refine CW.loop (fun n a l => ∃ (c : Nat) (m : Unit), c + n = d.fields.size /\ Rep 19 [(1, .int .u8 j), (2, Pt p), (8, I (d.fields.size : Int)), (9, I (c : Int))] a /\ St w Z l [zs p 167 [.string d.name, .string d.fields]] /\ zQ (zdv d j) (fun (m : Unit) => (.inl ())) n c m = some q) d.fields.size (fun a f => ⟨0, (), Nat.zero_add _, f.ag, s.keep [0] rfl, h⟩) ?_
  rintro g a l ⟨c, m, i, f, s, b⟩
  refine go f (rg (pu 1 [(10, B (decide ((c : Int) < (d.fields.size : Int))))] (nx (sq ?_))))
  rcases zft (decide ((c : Int) < (d.fields.size : Int))) with e | e
  ·rcases g with _ | g
   ·exact (zb0 i e).elim
   refine ct e (sn (sq (bl (rg (pu 2 [(5, I (c : Int))] (nx (rg (pu 1 [(12, Po p 1)] ((ld s 0) (pu 1 [(14, I (c : Int))] ((be b) fun t x b => ?_)))))))))))
   refine OW.op (v := .int .u8 t) rfl rfl rfl rfl (fun a f => zhB rfl rfl rfl (by kernel_rfl) x a _ f) ?_
   refine pu 2 [(17, B (t == j))] (nx (br b (fun b y => ?_) fun b y => ?_))
   ·refine rg (pu 1 [(4, B true)] (nx (rt (bt (tr (tr (bt (tr ?_))))))))
    obtain rfl := ij b
    obtain rfl := ij o
    exact r1 (K _ (s.k []))
   refine sk (bn (qn (rn (pu 2 [(9, I (w64 ((c : Int) + 1)))] (nl ?_)))))
   refine QW.say 9 rfl (congrArg (Value.int .i64) (zq e (xm u))) ?_
   exact me fun a f => ⟨g, zls _, c + 1, (), zm i, f.ag, s.k [0], b⟩
  rcases g with _ | g
  ·refine cf e (ex (te (te (bh ?_))))
   obtain rfl := ij b
   exact me fun a f => ⟨(), rfl, f.ag, s.k []⟩
  exact (zb1 i e).elim
 rintro a l ⟨t33, rfl, f, s⟩
 refine go f (rg (pu 1 [(4, B false)] (nx (rt ?_))))
 obtain rfl := ij o
 exact r1 (K _ (s.k []))
theorem zeZ {w Z a r R} (b : zd6 a = some r) (s : St w Z w []) (l : Rd w Z (.slice (some ⟨0, 0, none⟩) 23 23) zJ 2 vJ)
  (K : ∀ w', St w Z w' [] -> R (Rt (.tuple #[I r.1, B r.2.1, B r.2.2])) w') : Calls Tryz.prog 50 [Ag [I a.Op, I a.D, I a.A, I a.B, I a.Imm]].toArray w R := by
 refine sr 34 Tryz.func50 rfl (rg ((bx s [I a.Op, I a.D, I a.A, I a.B, I a.Imm]) fun c T s => pu 3 [] (nx (sq (rg ((lN [I a.Op, I a.D, I a.A, I a.B, I a.Imm] (s.blkN 0 rfl 0 5)) ((be b) fun z m b => (fn) (zcq m (s.p []) (l.give s []) fun C d => ⟨_, rfl, have s := s.j [] [0] d; pu 1 [(9, B (!z))] (nx (br b (fun b n => ?_) fun b n => ?_))⟩))))))))
 ·refine rg (pu 3 [(2, I 0), (3, B false), (4, B false)] (nx (rt (tr ?_))))
  obtain rfl := ij b
  exact QW.ret3 rfl rfl rfl rfl (K _ (s.k []))
 refine sn (rg (pu 1 [(11, Pt c)] ((ld s 0) ((be b) fun r21 o b => (fn) (zfz o (s.p []) (l.give s []) fun E e => ⟨_, rfl, have s := s.j [] [0] e; pu 3 [(14, Ag [.string r21.1.name, .string r21.1.fields]), (15, B r21.2)] ((al s [.string ByteArray.empty, .string ByteArray.empty]) fun F G s => (st s 1 [.string r21.1.name, .string r21.1.fields]) fun H s => pu 1 [] (nx (sq (bl (rg ((lN [.string r21.1.name, .string r21.1.fields] (s.blkN 1 rfl 0 2)) ((be b) fun x q b => (fn) (zaF q (s.p []) fun J f => ⟨_, rfl, have s := s.j [] [0, 1] f; pu 1 [(16, B x)] (nx (br b (fun b t => ?_) fun b t => ?_))⟩))))))))⟩)))))
 ·refine sq ?_
  refine CW.still (by kernel_rfl) (by kernel_rfl) ?_
  intro M g
  have s := s.same g
  refine op' 1 [(19, Po c 1)] ((od s 0) (op' 2 [(21, I (w64 (a.D + 1))), (22, Pt c)] ((od s 0) (op' 4 [(2, I (w64 (a.D + 1))), (3, B true), (4, B (a.Op != 15))] ?_))))
  refine OS.fin rfl ?_
  refine qn (rt (bt (tr ?_)))
  obtain rfl := ij b
  exact QW.ret3 rfl rfl rfl rfl (K _ (s.k []))
 refine rg ((lN [.string r21.1.name, .string r21.1.fields] (s.blkN 1 rfl 0 2)) ((be b) fun y u b => (fn) (zaF u (s.p []) fun O h => ⟨_, rfl, have s := s.j [] [0, 1] h; pu 1 [(25, B y)] (nx (br b (fun b v => ?_) fun b v => ?_))⟩)))
 ·refine rg (pu 1 [(28, Po c 1)] ((ld s 0) (pu 4 [(2, I (w64 (0 - a.D))), (3, B true), (4, B true)] (nx (rt (bt (tr ?_)))))))
  obtain rfl := ij b
  exact QW.ret3 rfl rfl rfl rfl (K _ (s.k []))
 refine sk (bn (qn (sq ?_)))
 refine CW.still (by kernel_rfl) (by kernel_rfl) ?_
 intro Q i
 have s := s.same i
 refine op' 1 [(31, Pt c)] ((od s 0) (op' 4 [(2, I 0), (3, B false), (4, B (a.Op != 22))] ?_))
 refine OS.fin rfl ?_
 refine qn (rt ?_)
 obtain rfl := ij b
 exact QW.ret3 rfl rfl rfl rfl (K _ (s.k []))
theorem zil {w Z E f r R} (u : ze6 f = some r) (b : St w Z w []) (z : Rd w Z E zj 5 f) (F : Rd w Z (.slice (some ⟨0, 0, none⟩) 23 23) zJ 2 vJ)
  (K : ∀ w', St w Z w' [] -> R (Rt (B r)) w') : Calls Tryz.prog 124 [E].toArray w R := by
 refine sr 15 Tryz.func124 rfl ?_
 obtain ⟨J, G, H, rfl⟩ := z.len
 refine rg (pu 1 [] (nx (sq (rg (pu 3 [(5, Sl G (f).length H), (6, I ((f).length : Int)), (7, I 0)] (nx ((be u) fun y C u => ?_)))))))
 refine ck (fun a q => ∃ (t97 : Unit), y = .inl t97 /\ Rep 15 [] a /\ St w Z q []) ?_ ?_
 ·refine bl ?_
  refine CW.loop (fun n a q => ∃ (d : Nat) (m : Unit), d + n = (f).length /\ Rep 15 [(5, Sl G (f).length H), (6, I ((f).length : Int)), (7, I (d : Int))] a /\ St w Z q [] /\ zQ (zdE f) (fun (m : Unit) => (.inl ())) n d m = some y) (f).length (fun a h => ⟨0, (), Nat.zero_add _, h.ag, b.keep [] rfl, C⟩) ?_
  rintro g a q ⟨d, m, i, h, b, s⟩
  refine go h (rg (pu 1 [(8, B (decide ((d : Int) < ((f).length : Int))))] (nx (sq ?_))))
  rcases zft (decide ((d : Int) < ((f).length : Int))) with e | e
  ·rcases g with _ | g
   ·exact (zb0 i e).elim
   refine ct e (sn (sq (bl (rg ((be s) fun c l s => ?_)))))
   obtain ⟨M, O, Q, o⟩ := z.formv (fun _ => ⟨_, rfl⟩) l
   refine (ix 43 5 l o) ((lN (zj c) (z.cellv b l o)) ((al b [I 0, I 0, I 0, I 0, I 0]) fun T V b => (st b 0 [I c.Op, I c.D, I c.A, I c.B, I c.Imm]) fun W b => nx (rg ((lN [I c.Op, I c.D, I c.A, I c.B, I c.Imm] (b.blkN 0 rfl 0 5)) ((be s) fun r183 v s => (fn) (zcq v (b.p []) (F.give b []) fun X t => ⟨_, rfl, have b := b.j [] [0] t; pu 1 [(13, B (!r183))] (nx (br s (fun s x => ?_) fun s x => ?_))⟩))))))
   ·refine rg (pu 1 [(2, B false)] (nx (rt (bt (tr (tr (bt (tr ?_))))))))
    obtain rfl := ij s
    obtain rfl := ij u
    exact r1 (K _ (b.k []))
   refine sk (bn (qn (rn (pu 2 [(7, I (w64 ((d : Int) + 1)))] (nl ?_)))))
   refine QW.say 7 rfl (congrArg (Value.int .i64) (zq e J)) ?_
   exact me fun a h => ⟨g, zls _, d + 1, (), zm i, h.ag, b.k [], s⟩
  rcases g with _ | g
  ·refine cf e (ex (te (te (bh ?_))))
   obtain rfl := ij s
   exact me fun a h => ⟨(), rfl, h.ag, b.k []⟩
  exact (zb1 i e).elim
 rintro a q ⟨t97, rfl, h, b⟩
 refine go h (rg (pu 1 [(2, B true)] (nx (rt ?_))))
 obtain rfl := ij u
 exact r1 (K _ (b.k []))
theorem zgV {w Z Y f r R} (E : zc3 f = some r) (b : St w Z w []) (X : Rd w Z Y zj 5 f) (W : Rd w Z (.slice (some ⟨0, 0, none⟩) 23 23) zJ 2 vJ)
  (K : ∀ w', St w Z w' [] -> R (Rt (.tuple #[I r.1, I r.2])) w') : Calls Tryz.prog 78 [Y].toArray w R := by
 refine sr 56 Tryz.func78 rfl ?_
 obtain ⟨l1, x, y, rfl⟩ := X.len
 refine rg (pu 2 [] (nx (sq (rg (pu 3 [(9, Sl x (f).length y), (10, I ((f).length : Int)), (11, I 0)] (nx ((be E) fun F J E => ?_)))))))
 refine ck (fun a l => ∃ (t147 : Unit), F = .inl t147 /\ Rep 56 [] a /\ St w Z l []) ?_ ?_
 ·refine bl ?_
  refine CW.loop (fun n a l => ∃ (s : Nat) (z : Unit), s + n = (f).length /\ Rep 56 [(0, Sl x (f).length y), (9, Sl x (f).length y), (10, I ((f).length : Int)), (11, I (s : Int))] a /\ St w Z l [] /\ zQ (zcr f) (fun (z : Unit) => (.inl ())) n s z = some F) (f).length (fun a g => ⟨0, (), Nat.zero_add _, g.ag, b.keep [] rfl, J⟩) ?_
  rintro m a l ⟨s, z, o, g, b, c⟩
  refine go g (rg (pu 1 [(12, B (decide ((s : Int) < ((f).length : Int))))] (nx (sq ?_))))
  rcases zft (decide ((s : Int) < ((f).length : Int))) with h | h
  ·rcases m with _ | m
   ·exact (zb0 o h).elim
   refine ct h (sn (sq (bl (rg (pu 1 [(13, I (s : Int))] ((be c) fun d q c => ?_))))))
   obtain ⟨aa, ab, ac, C⟩ := X.formv (fun _ => ⟨_, rfl⟩) q
   refine (ix 43 5 q C) ((lN (zj d) (X.cellv b q C)) ((al b [I 0, I 0, I 0, I 0, I 0]) fun ad ae b => pu 1 [(4, I (s : Int))] ((st b 0 [I d.Op, I d.D, I d.A, I d.B, I d.Imm]) fun af b => nx (rg ((lN [I d.Op, I d.D, I d.A, I d.B, I d.Imm] (b.blkN 0 rfl 0 5)) ((be c) fun r267 M c => (fn) (zeZ M (b.p []) (W.give b []) fun ah G => ⟨_, rfl, have b := b.j [] [0] G; pu 7 [(6, I r267.1), (7, B r267.2.1), (8, B r267.2.2)] (nx (bl (rg ((lN [I d.Op, I d.D, I d.A, I d.B, I d.Imm] (b.blkN 0 rfl 0 5)) ?_))))⟩)))))))
   refine OW.row (α := zc) (e := 43) (enc := zj) (sz := 5) b rfl rfl rfl [d] rfl (fun _ => rfl) rfl rfl (fun _ => by kernel_rfl) ?_
   intro ai aj b
   refine (be c) fun r279 O c => (fn) (zil O (b.p []) (b.rd 1 rfl (fun _ => rfl) [] rfl (b.len 1 rfl).1) (W.give b []) fun ak H => ⟨_, rfl, have b := b.j [] [0, 1] H; pu 2 [(22, B (!r279))] (nx (br c (fun c Q => ?_) fun c Q => ?_))⟩)
   ·refine rg (pu 3 [(2, I (s : Int)), (3, I 12)] (nx (rt (bt (bt (tr (tr (bt (tr ?_)))))))))
    obtain rfl := ij c
    obtain rfl := ij E
    exact r2 (K _ (b.k []))
   refine sq ?_
   refine ck (fun a l => Rep 56 [(0, Sl x (f).length y), (4, I (s : Int)), (8, B r267.2.2), (9, Sl x (f).length y), (10, I ((f).length : Int)), (11, I (s : Int)), (28, B (r267.2.1 && (decide ((w64 ((s : Int) + r267.1)) < 0) || decide ((w64 ((s : Int) + r267.1)) >= ((f).length : Int)))))] a /\ St w Z l []) ?_ fun a l ⟨g, b⟩ => go g (br c (fun c T => ?_) fun c T => ?_)
   ·refine rn (pu 2 [(30, B r267.2.1)] (sp 30 (fun i => ?_) fun i => ?_))
    ·refine pu 5 [(35, B (decide ((w64 ((s : Int) + r267.1)) < 0)))] (sp 35 (fun t => ?_) fun t => ?_)
     ·refine pu 9 [(28, B true)] (nl ?_)
      exact QW.say 28 (v := B (r267.2.1 && (decide ((w64 ((s : Int) + r267.1)) < 0) || decide ((w64 ((s : Int) + r267.1)) >= ((f).length : Int))))) rfl (by rw [i, t]; try rfl) (me fun a g => ⟨g.ag, b.k []⟩)
     refine pu 9 [(28, B (decide ((w64 ((s : Int) + r267.1)) >= ((f).length : Int))))] (nl ?_)
     exact QW.say 28 (v := B (r267.2.1 && (decide ((w64 ((s : Int) + r267.1)) < 0) || decide ((w64 ((s : Int) + r267.1)) >= ((f).length : Int))))) rfl (by rw [i, t]; try rfl) (me fun a g => ⟨g.ag, b.k []⟩)
    refine pu 14 [(28, B false)] (nl ?_)
    exact QW.say 28 (v := B (r267.2.1 && (decide ((w64 ((s : Int) + r267.1)) < 0) || decide ((w64 ((s : Int) + r267.1)) >= ((f).length : Int))))) rfl (by rw [i]; try rfl) (me fun a g => ⟨g.ag, b.k []⟩)
   ·refine rg (pu 3 [(2, I (s : Int)), (3, I 30)] (nx (rt (bt (bt (tr (tr (bt (tr ?_)))))))))
    obtain rfl := ij c
    obtain rfl := ij E
    exact r2 (K _ (b.k []))
   refine sq ?_
   refine ck (fun a l => Rep 56 [(0, Sl x (f).length y), (4, I (s : Int)), (9, Sl x (f).length y), (10, I ((f).length : Int)), (11, I (s : Int)), (45, B (r267.2.2 && ((s : Int) == (w64 (((f).length : Int) - 1)))))] a /\ St w Z l []) ?_ fun a l ⟨g, b⟩ => go g (br c (fun c V => ?_) fun c V => ?_)
   ·refine rn (pu 2 [(47, B r267.2.2)] (sp 47 (fun u => ?_) fun u => ?_))
    ·refine pu 7 [(45, B ((s : Int) == (w64 (((f).length : Int) - 1))))] (nl ?_)
     exact QW.say 45 (v := B (r267.2.2 && ((s : Int) == (w64 (((f).length : Int) - 1))))) rfl (by rw [u]; try rfl) (me fun a g => ⟨g.ag, b.k []⟩)
    refine pu 7 [(45, B false)] (nl ?_)
    exact QW.say 45 (v := B (r267.2.2 && ((s : Int) == (w64 (((f).length : Int) - 1))))) rfl (by rw [u]; try rfl) (me fun a g => ⟨g.ag, b.k []⟩)
   ·refine rg (pu 3 [(2, I (s : Int)), (3, I 36)] (nx (rt (bt (bt (tr (tr (bt (tr ?_)))))))))
    obtain rfl := ij c
    obtain rfl := ij E
    exact r2 (K _ (b.k []))
   refine sk (bn (bn (qn (rn (pu 2 [(11, I (w64 ((s : Int) + 1)))] (nl ?_))))))
   refine QW.say 11 rfl (congrArg (Value.int .i64) (zq h l1)) ?_
   exact me fun a g => ⟨m, zls _, s + 1, (), zm o, g.ag, b.k [], c⟩
  rcases m with _ | m
  ·refine cf h (ex (te (te (bh ?_))))
   obtain rfl := ij c
   exact me fun a g => ⟨(), rfl, g.ag, b.k []⟩
  exact (zb1 o h).elim
 rintro a l ⟨t147, rfl, g, b⟩
 refine go g (rg (pu 2 [(2, I 0), (3, I 0)] (nx (rt ?_))))
 obtain rfl := ij E
 exact r2 (K _ (b.k []))
theorem zdo {w Z Q j r R} (M : zbV j = some r) (b : St w Z w []) (O : Rd w Z Q zj 5 j)
  (K : ∀ (T : Value) w', St w Z w' [qH T 164 zu 3 r] -> R (Rt (T)) w') : Calls Tryz.prog 80 [Q].toArray w R := by
 refine sr 29 Tryz.func80 rfl ?_
 obtain ⟨V, W, X, rfl⟩ := O.len
 refine rg (pu 1 [] (nx (rg (pu 1 [(3, Sn)] (nx (sq (rg (pu 3 [(6, Sl W (j).length X), (7, I ((j).length : Int)), (8, I 0)] (nx ((be M) fun m G M => ?_))))))))))
 refine ck (fun a y => ∃ (p : Value), Rep 29 [(3, p)] a /\ St w Z y [qH p 164 zu 3 m]) ?_ fun a y ⟨p, l, b⟩ => go l ?_
 ·refine bl ?_
  have b := b.nilRow zC 164 zu 3
  refine CW.loop (fun n a y => ∃ (s : Nat) (f : (List zC)) (q : Value), s + n = (j).length /\ Rep 29 [(3, q), (6, Sl W (j).length X), (7, I ((j).length : Int)), (8, I (s : Int))] a /\ St w Z y [qH q 164 zu 3 f] /\ zQ (zc4 j) (fun (f : (List zC)) => f) n s f = some m) (j).length (fun a l => ⟨0, ([] : List zC), (Sn), Nat.zero_add _, l.ag, b.keep [0] rfl, G⟩) ?_
  rintro h a y ⟨s, f, q, i, l, b, d⟩
  refine go l ?_
  obtain ⟨Y, t, u, rfl⟩ := b.le 0
  refine rg (pu 1 [(9, B (decide ((s : Int) < ((j).length : Int))))] (nx (sq ?_)))
  rcases zft (decide ((s : Int) < ((j).length : Int))) with g | g
  ·rcases h with _ | h
   ·exact (zb0 i g).elim
   refine ct g (sn (sq (bl (rg (pu 1 [(10, I (s : Int))] ((be d) fun c o d => ?_))))))
   obtain ⟨aa, ab, ac, x⟩ := O.formv (fun _ => ⟨_, rfl⟩) o
   refine (ix 43 5 o x) ((lN (zj c) (O.cellv b o x)) ((al b [I 0, I 0, I 0, I 0, I 0]) fun v ad b => pu 1 [(4, I (s : Int))] ((st b 1 [I c.Op, I c.D, I c.A, I c.B, I c.Imm]) fun ae b => nx (rg (pu 1 [(13, Pt v)] ((ld b 1) (pu 1 [(15, B (c.Op == 20))] (nx (br d (fun d H => ?_) fun d H => ?_)))))))))
   ·refine rn (pu 3 [(16, Sl t (f).length u), (17, I (s : Int)), (18, Po v 1)] ((ld b 1) (pu 3 [(20, I (w64 ((s : Int) - c.D))), (21, I (s : Int)), (22, Po v 4)] ((ld b 1) (pu 1 [(24, Ag [I (w64 ((s : Int) - c.D)), I (s : Int), I c.Imm])] ?_)))))
    refine OW.row (α := zC) (e := 164) (enc := zu) (sz := 3) b rfl rfl rfl [(zC.mk (w64 ((s : Int) - c.D)) (s : Int) c.Imm)] rfl (fun _ => rfl) rfl rfl (fun _ => by kernel_rfl) ?_
    intro af ah b
    refine (be d) fun ai J d => ?_
    refine OW.app b 0 rfl (fun _ => rfl) (fun _ => rfl) rfl rfl rfl rfl rfl rfl (by kernel_rfl) znZ (b.rd 2 rfl (fun _ => rfl) [] rfl (b.len 2 rfl).1) (jR J) ?_
    intro aj ak b
    obtain ⟨am, z, C, rfl⟩ := b.le 0
    refine pu 1 [(3, Sl z ((f ++ [(zC.mk (w64 ((s : Int) - c.D)) (s : Int) c.Imm)])).length C)] (nl (bn (qn (rn (pu 2 [(8, I (w64 ((s : Int) + 1)))] (nl ?_))))))
    refine QW.say 8 rfl (congrArg (Value.int .i64) (zq g V)) ?_
    exact me fun a l => ⟨h, zls _, s + 1, (f ++ [(zC.mk (w64 ((s : Int) - c.D)) (s : Int) c.Imm)]), (Sl z ((f ++ [(zC.mk (w64 ((s : Int) - c.D)) (s : Int) c.Imm)])).length C), zm i, l.ag, b.k [0], d⟩
   refine sk (bn (qn (rn (pu 2 [(8, I (w64 ((s : Int) + 1)))] (nl ?_)))))
   refine QW.say 8 rfl (congrArg (Value.int .i64) (zq g V)) ?_
   exact me fun a l => ⟨h, zls _, s + 1, f, (Sl t (f).length u), zm i, l.ag, b.k [0], d⟩
  rcases h with _ | h
  ·refine cf g (ex (te (te (bh ?_))))
   obtain rfl := ij d
   exact me fun a l => ⟨(Sl t (f).length u), l.ag, b.k [0]⟩
  exact (zb1 i g).elim
 obtain ⟨an, E, F, rfl⟩ := b.le 0
 refine rg (pu 2 [(2, Sl E (m).length F)] (nx (rt ?_)))
 obtain rfl := ij M
 exact r1 (K (Sl E (m).length F) _ (b.k [0]))
theorem zfU {w Z s c r R} (h : zfH s c = some r) (b : St w Z w [])
  (K : ∀ w', St w Z w' [] -> R (Rt (B r)) w') : Calls Tryz.prog 81 [Ag [I s.Head, I s.At, I s.Bound], I c].toArray w R := by
 refine sr 15 Tryz.func81 rfl (rg ((bx b [I s.Head, I s.At, I s.Bound]) fun f i b => pu 1 [] (nx (sq ?_))))
 refine ck (fun a g => Rep 15 [(4, B (decide (c >= s.Head) && decide (c <= s.At)))] a /\ St w Z g []) ?_ fun a g ⟨d, b⟩ => go d (rt ?_)
 ·refine rn (pu 2 [(5, I c), (6, Pt f)] ((ld b 0) (pu 2 [(9, B (decide (c >= s.Head)))] (sp 9 (fun e => ?_) fun e => ?_))))
  ·refine pu 2 [(10, I c), (11, Po f 1)] ((ld b 0) (pu 3 [(4, B (decide (c <= s.At)))] (nl ?_)))
   exact QW.say 4 (v := B (decide (c >= s.Head) && decide (c <= s.At))) rfl (by rw [e]; try rfl) (me fun a d => ⟨d.ag, b.k []⟩)
  refine pu 6 [(4, B false)] (nl ?_)
  exact QW.say 4 (v := B (decide (c >= s.Head) && decide (c <= s.At))) rfl (by rw [e]; try rfl) (me fun a d => ⟨d.ag, b.k []⟩)
 obtain rfl := ij h
 exact r1 (K _ (b.k []))
theorem zgW {w Z v0 F r R} (hF : zc5 F = some r) (s : St w Z w []) (h0 : Rd w Z v0 zj 5 F) (bw : Rd w Z (.slice (some ⟨0, 0, none⟩) 23 23) zJ 2 vJ)
  (K : ∀ w', St w Z w' [] -> R (Rt (.tuple #[I r.1, I r.2])) w') : Calls Tryz.prog 79 [v0].toArray w R := by
 refine sr 97 Tryz.func79 rfl ?_
 obtain ⟨l1, X, Y, rfl⟩ := h0.len
 refine rg (pu 2 [] (nx (rg (pu 1 [(16, Sl X (F).length Y)] ((be hF) fun r12 bv hF => (fn) (zdo bv (s.p []) (h0.give s []) fun co cp bm => ⟨_, rfl, have s := s.j [] [] bm; ?_⟩))))))
 obtain ⟨a5, f, g, rfl⟩ := s.le 0
 refine pu 1 [(4, Sl f (r12).length g)] (nx (sq (rg (pu 3 [(18, Sl f (r12).length g), (19, I ((r12).length : Int)), (20, I 0)] (nx ((be hF) fun a6 bo hF => ?_))))))
 refine ck (fun a m => ∃ (t592 : Unit), a6 = .inl t592 /\ Rep 97 [(0, Sl X (F).length Y), (4, Sl f (r12).length g)] a /\ St w Z m [qH (Sl f (r12).length g) 164 zu 3 r12]) ?_ ?_
 ·refine bl ?_
  refine CW.loop (fun n a m => ∃ (o : Nat) (av : Unit), o + n = (r12).length /\ Rep 97 [(0, Sl X (F).length Y), (4, Sl f (r12).length g), (18, Sl f (r12).length g), (19, I ((r12).length : Int)), (20, I (o : Int))] a /\ St w Z m [qH (Sl f (r12).length g) 164 zu 3 r12] /\ zQ (zau r12) (fun (av : Unit) => (.inl ())) n o av = some a6) (r12).length (fun a c => ⟨0, (), Nat.zero_add _, c.ag, s.keep [0] rfl, bo⟩) ?_
  rintro aa a m ⟨o, av, aj, c, s, z⟩
  refine go c (rg (pu 1 [(21, B (decide ((o : Int) < ((r12).length : Int))))] (nx (sq ?_))))
  rcases zft (decide ((o : Int) < ((r12).length : Int))) with M | M
  ·rcases aa with _ | aa
   ·exact (zb0 aj M).elim
   refine ct M (sn (sq (bl (rg (pu 1 [(22, I (o : Int))] ((be z) fun h ak z => ?_))))))
   obtain ⟨ci, cj, cl, aw⟩ := s.rowv 0 rfl ak
   refine (ix 164 3 ak aw) ((lN (zu h) (s.rowc 0 rfl (fun _ => rfl) ak aw)) ((al s [I 0, I 0, I 0]) fun O cm s => pu 1 [(5, I (o : Int))] ((st s 1 [I h.Head, I h.At, I h.Bound]) fun cn s => nx (rg (pu 2 [(25, Sl f (r12).length g), (26, I (o : Int))] ((be z) fun q W z => ?_))))))
   refine OW.op (v := Sl f (q).length g) rfl rfl rfl rfl (fun a c => zk7 (e := 164) 3 rfl rfl rfl W (s.cap 0 rfl) (by kernel_rfl) (by kernel_rfl) a _ c) ?_
   refine pu 2 [(28, I ((q).length : Int)), (29, I 0)] (nx ((be z) fun ax a7 z => ?_))
   refine CW.cutQ (fun a m => ∃ (t1081 : Unit), ax = .inl t1081 /\ Rep 97 [(0, Sl X (F).length Y), (4, Sl f (r12).length g), (18, Sl f (r12).length g), (19, I ((r12).length : Int)), (20, I (o : Int))] a /\ St w Z m [qH (Sl f (r12).length g) 164 zu 3 r12]) ?_ ?_
   ·refine bl ?_
    refine CW.loop (fun n a m => ∃ (C : Nat) (am : Unit), C + n = (q).length /\ Rep 97 [(0, Sl X (F).length Y), (4, Sl f (r12).length g), (6, Pt O), (18, Sl f (r12).length g), (19, I ((r12).length : Int)), (20, I (o : Int)), (27, Sl f (q).length g), (28, I ((q).length : Int)), (29, I (C : Int))] a /\ St w Z m [qH (Sl f (r12).length g) 164 zu 3 r12, zs O 164 [I h.Head, I h.At, I h.Bound]] /\ zQ (zbr h q) (fun (am : Unit) => (.inl ())) n C am = some ax) (q).length (fun a c => ⟨0, (), Nat.zero_add _, c.ag, s.keep [0, 1] rfl, a7⟩) ?_
    rintro Q a m ⟨C, am, ab, c, s, y⟩
    refine go c (rg (pu 1 [(30, B (decide ((C : Int) < ((q).length : Int))))] (nx (sq ?_))))
    rcases zft (decide ((C : Int) < ((q).length : Int))) with G | G
    ·rcases Q with _ | Q
     ·exact (zb0 ab G).elim
     refine ct G (sn (sq (bl (rg ((be y) fun l ac y => ?_)))))
     have ap := zmY W ac
     obtain ⟨bx, bz, b0, aq⟩ := s.rowv 0 rfl ap
     refine OW.idx 164 3 rfl rfl rfl rfl (zny aq) rfl (zh ac).1 (zh ac).2.1 (by kernel_rfl) (by kernel_rfl) ?_
     refine (lN (zu l) (s.rowc 0 rfl (fun _ => rfl) ap aq)) ((al s [I 0, I 0, I 0]) fun ay b1 s => (st s 2 [I l.Head, I l.At, I l.Bound]) fun b2 s => nx (sq ?_))
     refine ck (fun a m => Rep 97 [(0, Sl X (F).length Y), (4, Sl f (r12).length g), (6, Pt O), (18, Sl f (r12).length g), (19, I ((r12).length : Int)), (20, I (o : Int)), (27, Sl f (q).length g), (28, I ((q).length : Int)), (29, I (C : Int)), (44, B (decide (l.At >= h.Head) && decide (l.Head < h.Head)))] a /\ St w Z m [qH (Sl f (r12).length g) 164 zu 3 r12, zs O 164 [I h.Head, I h.At, I h.Bound]]) ?_ fun a m ⟨c, s⟩ => go c (br y (fun y a8 => ?_) fun y a8 => ?_)
     ·refine rn (pu 1 [(33, Po ay 1)] ((ld s 2) (pu 1 [(35, Pt O)] ((ld s 1) (pu 2 [(38, B (decide (l.At >= h.Head)))] (sp 38 (fun ad => ?_) fun ad => ?_))))))
      ·refine pu 1 [(39, Pt ay)] ((ld s 2) (pu 1 [(41, Pt O)] ((ld s 1) (pu 2 [(44, B (decide (l.Head < h.Head)))] (nl ?_)))))
       exact QW.say 44 (v := B (decide (l.At >= h.Head) && decide (l.Head < h.Head))) rfl (by rw [ad]; try rfl) (me fun a c => ⟨c.ag, s.k [0, 1]⟩)
      refine pu 6 [(44, B false)] (nl ?_)
      exact QW.say 44 (v := B (decide (l.At >= h.Head) && decide (l.Head < h.Head))) rfl (by rw [ad]; try rfl) (me fun a c => ⟨c.ag, s.k [0, 1]⟩)
     ·refine rg (pu 1 [(45, Po O 1)] ((ld s 1) (pu 2 [(2, I h.At), (3, I 31)] (nx (rt (bt (tr (tr (bt (tr (bt (tr (tr (bt (tr ?_)))))))))))))))
      obtain rfl := ij y
      obtain rfl := ij z
      obtain rfl := ij hF
      exact r2 (K _ (s.k []))
     refine sk (bn (qn (rn (pu 2 [(29, I (w64 ((C : Int) + 1)))] (nl ?_)))))
     refine QW.say 29 rfl (congrArg (Value.int .i64) (zq G (Nat.le_trans (zju W) a5))) ?_
     exact me fun a c => ⟨Q, zls _, C + 1, (), zm ab, c.ag, s.k [0, 1], y⟩
    rcases Q with _ | Q
    ·refine cf G (ex (te (te (bh ?_))))
     obtain rfl := ij y
     exact me fun a c => ⟨(), rfl, c.ag, s.k [0]⟩
    exact (zb1 ab G).elim
   rintro a m ⟨t1081, rfl, c, s⟩
   refine QW.go ?_ c
   refine bn (qn (rn (pu 2 [(20, I (w64 ((o : Int) + 1)))] (nl ?_))))
   refine QW.say 20 rfl (congrArg (Value.int .i64) (zq M a5)) ?_
   exact me fun a c => ⟨aa, zls _, o + 1, (), zm aj, c.ag, s.k [0], z⟩
  rcases aa with _ | aa
  ·refine cf M (ex (te (te (bh ?_))))
   obtain rfl := ij z
   exact me fun a c => ⟨(), rfl, c.ag, s.k [0]⟩
  exact (zb1 aj M).elim
 rintro a m ⟨t592, rfl, c, s⟩
 refine go c (sq (rg (pu 3 [(49, Sl X (F).length Y), (50, I ((F).length : Int)), (51, I 0)] (nx ((be hF) fun az a9 hF => ?_)))))
 refine ck (fun a m => ∃ (t2125 : Unit), az = .inl t2125 /\ Rep 97 [] a /\ St w Z m []) ?_ ?_
 ·refine bl ?_
  refine CW.loop (fun n a m => ∃ (d : Nat) (an : Unit), d + n = (F).length /\ Rep 97 [(4, Sl f (r12).length g), (49, Sl X (F).length Y), (50, I ((F).length : Int)), (51, I (d : Int))] a /\ St w Z m [qH (Sl f (r12).length g) 164 zu 3 r12] /\ zQ (zbu F r12) (fun (an : Unit) => (.inl ())) n d an = some az) (F).length (fun a c => ⟨0, (), Nat.zero_add _, c.ag, s.keep [0] rfl, a9⟩) ?_
  rintro T a m ⟨d, an, ae, c, s, t⟩
  refine go c (rg (pu 1 [(52, B (decide ((d : Int) < ((F).length : Int))))] (nx (sq ?_))))
  rcases zft (decide ((d : Int) < ((F).length : Int))) with H | H
  ·rcases T with _ | T
   ·exact (zb0 ae H).elim
   refine ct H (sn (sq (bl (rg (pu 1 [(53, I (d : Int))] ((be t) fun u af t => ?_))))))
   obtain ⟨b3, b4, b5, ar⟩ := h0.formv (fun _ => ⟨_, rfl⟩) af
   refine (ix 43 5 af ar) ((lN (zj u) (h0.cellv s af ar)) ((al s [I 0, I 0, I 0, I 0, I 0]) fun b6 b7 s => pu 1 [(9, I (d : Int))] ((st s 1 [I u.Op, I u.D, I u.A, I u.B, I u.Imm]) fun b8 s => nx (rg ((lN [I u.Op, I u.D, I u.A, I u.B, I u.Imm] (s.blkN 1 rfl 0 5)) ((be t) fun r2791 ba t => (fn) (zeZ ba (s.p []) (bw.give s []) fun b9 a1 => ⟨_, rfl, have s := s.j [] [0, 1] a1; pu 7 [(11, I r2791.1), (12, B r2791.2.1)] (nx (rg (pu 3 [(62, Sl f (r12).length g), (63, I ((r12).length : Int)), (64, I 0)] (nx ((be t) fun a0 bb t => ?_)))))⟩)))))))
   refine CW.cutQ (fun a m => ∃ (t2941 : Unit), a0 = .inl t2941 /\ Rep 97 [(4, Sl f (r12).length g), (49, Sl X (F).length Y), (50, I ((F).length : Int)), (51, I (d : Int))] a /\ St w Z m [qH (Sl f (r12).length g) 164 zu 3 r12]) ?_ ?_
   ·refine bl ?_
    refine CW.loop (fun n a m => ∃ (E : Nat) (ao : Unit), E + n = (r12).length /\ Rep 97 [(4, Sl f (r12).length g), (9, I (d : Int)), (11, I r2791.1), (12, B r2791.2.1), (49, Sl X (F).length Y), (50, I ((F).length : Int)), (51, I (d : Int)), (62, Sl f (r12).length g), (63, I ((r12).length : Int)), (64, I (E : Int))] a /\ St w Z m [qH (Sl f (r12).length g) 164 zu 3 r12] /\ zQ (zbt r12 d r2791) (fun (ao : Unit) => (.inl ())) n E ao = some a0) (r12).length (fun a c => ⟨0, (), Nat.zero_add _, c.ag, s.keep [0] rfl, bb⟩) ?_
    rintro V a m ⟨E, ao, ah, c, s, i⟩
    refine go c (rg (pu 1 [(65, B (decide ((E : Int) < ((r12).length : Int))))] (nx (sq ?_))))
    rcases zft (decide ((E : Int) < ((r12).length : Int))) with J | J
    ·rcases V with _ | V
     ·exact (zb0 ah J).elim
     refine ct J (sn (sq (bl (rg ((be i) fun x ai i => ?_)))))
     obtain ⟨ca, cb, cc, au⟩ := s.rowv 0 rfl ai
     refine (ix 164 3 ai au) ((lN (zu x) (s.rowc 0 rfl (fun _ => rfl) ai au)) ((al s [I 0, I 0, I 0]) fun bp cd s => (st s 1 [I x.Head, I x.At, I x.Bound]) fun ce s => nx (sq ((be i) fun bq b i => ?_))))
     refine ck (fun a m => Rep 97 [(4, Sl f (r12).length g), (9, I (d : Int)), (11, I r2791.1), (12, B r2791.2.1), (49, Sl X (F).length Y), (50, I ((F).length : Int)), (51, I (d : Int)), (62, Sl f (r12).length g), (63, I ((r12).length : Int)), (64, I (E : Int)), (93, B bq)] a /\ St w Z m [qH (Sl f (r12).length g) 164 zu 3 r12]) ?_ fun a m ⟨c, s⟩ => go c (br i (fun i bc => ?_) fun i bc => ?_)
     ·refine rn (pu 2 [(69, B r2791.2.1)] (si 69 b (fun b bd => ?_) fun b bd => ?_))
      ·refine pu 4 [(73, B (decide (r2791.1 > 0)))] (si 73 b (fun b bf => ?_) fun b bf => ?_)
       ·refine (lN [I x.Head, I x.At, I x.Bound] (s.blkN 1 rfl 0 3)) (pu 1 [(75, I (d : Int))] ((be b) fun bs bg b => (fn) (zfU bg (s.p []) fun cg a3 => ⟨_, rfl, have s := s.j [] [0, 1] a3; pu 3 [(79, B (!bs))] (si 79 b (fun b bi => ?_) fun b bi => ?_)⟩)))
        ·refine (lN [I x.Head, I x.At, I x.Bound] (s.blkN 1 rfl 0 3)) (pu 3 [(83, I (w64 ((d : Int) + r2791.1)))] ((be b) fun bu bj b => (fn) (zfU bj (s.p []) fun ch a4 => ⟨_, rfl, have s := s.j [] [0, 1] a4; pu 2 [(86, B bu)] (si 86 b (fun b bk => ?_) fun b bk => ?_)⟩)))
         ·refine pu 4 [(89, I (w64 ((d : Int) + r2791.1))), (90, Pt bp)] ((ld s 1) (pu 2 [(93, B ((w64 ((d : Int) + r2791.1)) != x.Head))] (nl ?_)))
          obtain rfl := ij b
          exact me fun a c => ⟨c.ag, s.k [0]⟩
         refine pu 7 [(93, B false)] (nl ?_)
         obtain rfl := ij b
         exact me fun a c => ⟨c.ag, s.k [0]⟩
        refine pu 14 [(93, B false)] (nl ?_)
        obtain rfl := ij b
        exact me fun a c => ⟨c.ag, s.k [0]⟩
       refine pu 20 [(93, B false)] (nl ?_)
       obtain rfl := ij b
       exact me fun a c => ⟨c.ag, s.k [0]⟩
      refine pu 24 [(93, B false)] (nl ?_)
      obtain rfl := ij b
      exact me fun a c => ⟨c.ag, s.k [0]⟩
     ·refine rg (pu 3 [(2, I (d : Int)), (3, I 31)] (nx (rt (bt (tr (tr (bt (tr (bt (tr (tr (bt (tr ?_)))))))))))))
      obtain rfl := ij i
      obtain rfl := ij t
      obtain rfl := ij hF
      exact r2 (K _ (s.k []))
     refine sk (bn (qn (rn (pu 2 [(64, I (w64 ((E : Int) + 1)))] (nl ?_)))))
     refine QW.say 64 rfl (congrArg (Value.int .i64) (zq J a5)) ?_
     exact me fun a c => ⟨V, zls _, E + 1, (), zm ah, c.ag, s.k [0], i⟩
    rcases V with _ | V
    ·refine cf J (ex (te (te (bh ?_))))
     obtain rfl := ij i
     exact me fun a c => ⟨(), rfl, c.ag, s.k [0]⟩
    exact (zb1 ah J).elim
   rintro a m ⟨t2941, rfl, c, s⟩
   refine QW.go ?_ c
   refine bn (qn (rn (pu 2 [(51, I (w64 ((d : Int) + 1)))] (nl ?_))))
   refine QW.say 51 rfl (congrArg (Value.int .i64) (zq H l1)) ?_
   exact me fun a c => ⟨T, zls _, d + 1, (), zm ae, c.ag, s.k [0], t⟩
  rcases T with _ | T
  ·refine cf H (ex (te (te (bh ?_))))
   obtain rfl := ij t
   exact me fun a c => ⟨(), rfl, c.ag, s.k []⟩
  exact (zb1 ae H).elim
 rintro a m ⟨t2125, rfl, c, s⟩
 refine go c (rg (pu 2 [(2, I 0), (3, I 0)] (nx (rt ?_))))
 obtain rfl := ij hF
 exact r2 (K _ (s.k []))
theorem zim {w Z X x r R} (G : ze7 x = some r) (s : St w Z w []) (Y : Rd w Z X zj 5 x)
  (K : ∀ w', St w Z w' [] -> R (Rt (I r)) w') : Calls Tryz.prog 48 [X].toArray w R := by
 refine sr 38 Tryz.func48 rfl ?_
 obtain ⟨l1, a2, c3, rfl⟩ := Y.len
 refine rg (pu 1 [] (nx (rg (pu 1 [(9, Sl a2 (x).length c3)] ((be G) fun r12 W G => (fn) (zdo W (s.p []) (Y.give s []) fun ah ai O => ⟨_, rfl, have s := s.j [] [] O; ?_⟩))))))
 obtain ⟨V, o, q, rfl⟩ := s.le 0
 refine pu 1 [(3, Sl o (r12).length q)] (nx (rg (pu 1 [(4, I 0)] (nx (sq (rg (pu 3 [(12, I ((x).length : Int)), (13, I 0)] (nx ((be G) fun E Q G => ?_)))))))))
 refine ck (fun a y => Rep 38 [(4, I E)] a /\ St w Z y []) ?_ fun a y ⟨h, s⟩ => go h (rg (pu 2 [(2, I E)] (nx (rt ?_))))
 ·refine bl ?_
  refine CW.loop (fun n a y => ∃ (c : Nat) (i : Int), c + n = (x).length /\ Rep 38 [(3, Sl o (r12).length q), (4, I i), (12, I ((x).length : Int)), (13, I (c : Int))] a /\ St w Z y [qH (Sl o (r12).length q) 164 zu 3 r12] /\ zQ (zdF r12) (fun (i : Int) => i) n c i = some E) (x).length (fun a h => ⟨0, 0, Nat.zero_add _, h.ag, s.keep [0] rfl, Q⟩) ?_
  rintro z a y ⟨c, i, C, h, s, u⟩
  refine go h (rg (pu 1 [(14, B (decide ((c : Int) < ((x).length : Int))))] (nx (sq ?_))))
  rcases zft (decide ((c : Int) < ((x).length : Int))) with l | l
  ·rcases z with _ | z
   ·exact (zb0 C l).elim
   refine ct l (sn (sq (bl (rg (pu 2 [(5, I (c : Int))] (nx (rg (pu 1 [(6, I 1)] (nx (sq (rg (pu 3 [(16, Sl o (r12).length q), (17, I ((r12).length : Int)), (18, I 0)] (nx ((be u) fun v H u => ?_))))))))))))))
   refine ck (fun a y => Rep 38 [(3, Sl o (r12).length q), (4, I i), (6, I v), (12, I ((x).length : Int)), (13, I (c : Int))] a /\ St w Z y [qH (Sl o (r12).length q) 164 zu 3 r12]) ?_ fun a y ⟨h, s⟩ => go h (rn (pu 5 [(4, I (vH (w64 (i + v)) 257))] (nl (bn (qn (rn (pu 2 [(13, I (w64 ((c : Int) + 1)))] (nl ?_))))))))
   ·refine bl ?_
    refine CW.loop (fun n a y => ∃ (d : Nat) (e : Int), d + n = (r12).length /\ Rep 38 [(3, Sl o (r12).length q), (4, I i), (5, I (c : Int)), (6, I e), (12, I ((x).length : Int)), (13, I (c : Int)), (16, Sl o (r12).length q), (17, I ((r12).length : Int)), (18, I (d : Int))] a /\ St w Z y [qH (Sl o (r12).length q) 164 zu 3 r12] /\ zQ (zcl r12 c) (fun (e : Int) => e) n d e = some v) (r12).length (fun a h => ⟨0, 1, Nat.zero_add _, h.ag, s.keep [0] rfl, H⟩) ?_
    rintro m a y ⟨d, e, t, h, s, b⟩
    refine go h (rg (pu 1 [(19, B (decide ((d : Int) < ((r12).length : Int))))] (nx (sq ?_))))
    rcases zft (decide ((d : Int) < ((r12).length : Int))) with g | g
    ·rcases m with _ | m
     ·exact (zb0 t g).elim
     refine ct g (sn (sq (bl (rg ((be b) fun f A b => ?_)))))
     obtain ⟨aa, ab, ac, D⟩ := s.rowv 0 rfl A
     refine (ix 164 3 A D) ((lN (zu f) (s.rowc 0 rfl (fun _ => rfl) A D)) ((al s [I 0, I 0, I 0]) fun T ad s => (st s 1 [I f.Head, I f.At, I f.Bound]) fun ae s => nx (rg ((lN [I f.Head, I f.At, I f.Bound] (s.blkN 1 rfl 0 3)) (pu 1 [(23, I (c : Int))] ((be b) fun r1128 J b => (fn) (zfU J (s.p []) fun af F => ⟨_, rfl, have s := s.j [] [0, 1] F; nx (br b (fun b M => ?_) fun b M => ?_)⟩)))))))
     ·refine rn (pu 2 [(25, I e), (26, Po T 2)] ((ld s 1) (pu 4 [(6, I (vH (w64 (e * (w64 (f.Bound + 1)))) 257))] (nl (bn (qn (rn (pu 2 [(18, I (w64 ((d : Int) + 1)))] (nl ?_)))))))))
      refine QW.say 18 rfl (congrArg (Value.int .i64) (zq g V)) ?_
      exact me fun a h => ⟨m, zls _, d + 1, (vH (w64 (e * (w64 (f.Bound + 1)))) 257), zm t, h.ag, s.k [0], b⟩
     refine sk (bn (qn (rn (pu 2 [(18, I (w64 ((d : Int) + 1)))] (nl ?_)))))
     refine QW.say 18 rfl (congrArg (Value.int .i64) (zq g V)) ?_
     exact me fun a h => ⟨m, zls _, d + 1, e, zm t, h.ag, s.k [0], b⟩
    rcases m with _ | m
    ·refine cf g (ex (te (te (bh ?_))))
     obtain rfl := ij b
     exact me fun a h => ⟨h.ag, s.k [0]⟩
    exact (zb1 t g).elim
   refine QW.say 13 rfl (congrArg (Value.int .i64) (zq l l1)) ?_
   exact me fun a h => ⟨z, zls _, c + 1, (vH (w64 (i + v)) 257), zm C, h.ag, s.k [0], u⟩
  rcases z with _ | z
  ·refine cf l (ex (te (te (bh ?_))))
   obtain rfl := ij u
   exact me fun a h => ⟨h.ag, s.k []⟩
  exact (zb1 C l).elim
 obtain rfl := ij G
 exact r1 (K _ (s.k []))
theorem zfA {w Z u b r R} (a : zaQ b = some r) (s : St w Z w []) (c : Rd w Z u zj 5 b) (g : Rd w Z (.slice (some ⟨0, 0, none⟩) 23 23) zJ 2 vJ)
  (K : ∀ w', St w Z w' [] -> R (Rt (.tuple #[I r.1, I r.2])) w') : Calls Tryz.prog 47 [u].toArray w R := by
 refine sr 37 Tryz.func47 rfl ?_
 obtain ⟨C, h, i, rfl⟩ := c.len
 refine rg (pu 2 [] (nx (sq (bl (rg (pu 4 [(8, B (((b).length : Int) == 0))] (nx (br a (fun a v => ?_) fun a v => ?_))))))))
 ·refine rg (pu 2 [(2, I 0), (3, I 10)] (nx (rt (bt (tr ?_)))))
  obtain rfl := ij a
  exact r2 (K _ (s.k []))
 refine rg (pu 4 [(12, B (decide (((b).length : Int) > 64)))] (nx (br a (fun a x => ?_) fun a x => ?_)))
 ·refine rg (pu 2 [(2, I 0), (3, I 11)] (nx (rt (bt (tr ?_)))))
  obtain rfl := ij a
  exact r2 (K _ (s.k []))
 refine sk (bn (qn (sq (rg (pu 1 [(17, Sl h (b).length i)] ((be a) fun r10 l a => (fn) (zgV l (s.p []) (c.give s []) (g.give s []) fun y d => ⟨_, rfl, have s := s.j [] [] d; pu 5 [(4, I r10.1), (5, I r10.2)] (nx (rg (pu 2 [(22, B (r10.2 != 0))] (nx (br a (fun a m => ?_) fun a m => ?_)))))⟩)))))))
 ·refine rg (pu 4 [(2, I r10.1), (3, I r10.2)] (nx (rt (tr ?_))))
  obtain rfl := ij a
  exact r2 (K _ (s.k []))
 refine sn (sq (rg (pu 1 [(26, Sl h (b).length i)] ((be a) fun r19 n a => (fn) (zgW n (s.p []) (c.give s []) (g.give s []) fun z e => ⟨_, rfl, have s := s.j [] [] e; pu 5 [(6, I r19.1), (7, I r19.2)] (nx (rg (pu 2 [(31, B (r19.2 != 0))] (nx (br a (fun a o => ?_) fun a o => ?_)))))⟩)))))
 ·refine rg (pu 4 [(2, I r19.1), (3, I r19.2)] (nx (rt (tr ?_))))
  obtain rfl := ij a
  exact r2 (K _ (s.k []))
 refine sn (sq (rg (pu 1 [(34, Sl h (b).length i)] ((be a) fun r28 q a => (fn) (zim q (s.p []) (c.give s []) fun A f => ⟨_, rfl, have s := s.j [] [] f; pu 1 [(36, B (decide (r28 > 256)))] (nx (br a (fun a t => ?_) fun a t => ?_))⟩)))))
 ·refine rg (pu 2 [(2, I 0), (3, I 32)] (nx (rt (tr ?_))))
  obtain rfl := ij a
  exact r2 (K _ (s.k []))
 refine sn (rg (pu 2 [(2, I 0), (3, I 0)] (nx (rt ?_))))
 obtain rfl := ij a
 exact r2 (K _ (s.k []))
theorem zhI {w Z m b r R} (a : zd7 b = some r) (s : St w Z w []) (g : Rd w Z m zj 5 b) (n : Rd w Z (.slice (some ⟨0, 0, none⟩) 23 23) zJ 2 vJ)
  (K : ∀ (o : Value) w', St w Z w' [qH o 164 zu 3 r.1] -> R (Rt (.tuple #[o, I r.2])) w') : Calls Tryz.prog 74 [m].toArray w R := by
 refine sr 16 Tryz.func74 rfl ?_
 obtain ⟨A, q, t, rfl⟩ := g.len
 refine rg (pu 2 [] (nx (sq (rg (pu 1 [(7, Sl q (b).length t)] ((be a) fun h u a => (fn) (zfA u (s.p []) (g.give s []) (n.give s []) fun v c => ⟨_, rfl, have s := s.j [] [] c; pu 5 [(5, I h.2)] (nx (rg (pu 2 [(12, B (h.2 != 0))] (nx (br a (fun a i => ?_) fun a i => ?_)))))⟩)))))))
 ·refine rg (pu 3 [(2, Sn), (3, I h.2)] (nx (rt (tr ?_))))
  have s := s.nilRow zC 164 zu 3
  obtain rfl := ij a
  exact r2 (K (Sn) _ (s.k [0]))
 refine sn (rg (pu 1 [(14, Sl q (b).length t)] ((be a) fun r21 l a => (fn) (zdo l (s.p []) (g.give s []) fun x y d => ⟨_, rfl, have s := s.j [] [] d; ?_⟩))))
 obtain ⟨z, e, f, rfl⟩ := s.le 0
 refine pu 2 [(2, Sl e (r21).length f), (3, I 0)] (nx (rt ?_))
 obtain rfl := ij a
 exact r2 (K (Sl e (r21).length f) _ (s.k [0]))
theorem zhJ {w Z a r R} (b : vd a = some r) (s : St w Z w []) (g : Rd w Z (.slice (some ⟨0, 0, none⟩) 23 23) zJ 2 vJ)
  (K : ∀ w', St w Z w' [] -> R (Rt (.tuple #[I r.1, B r.2])) w') : Calls Tryz.prog 110 [Ag [I a.Op, I a.D, I a.A, I a.B, I a.Imm]].toArray w R := by
 refine sr 22 Tryz.func110 rfl (rg ((bx s [I a.Op, I a.D, I a.A, I a.B, I a.Imm]) fun h F s => pu 2 [] (nx (sq (rg ((lN [I a.Op, I a.D, I a.A, I a.B, I a.Imm] (s.blkN 0 rfl 0 5)) ((be b) fun q i b => (fn) (zcq i (s.p []) (g.give s []) fun t c => ⟨_, rfl, have s := s.j [] [0] c; pu 1 [(8, B (!q))] (nx (br b (fun b l => ?_) fun b l => ?_))⟩))))))))
 ·refine rg (pu 2 [(2, I 0), (3, B false)] (nx (rt (tr ?_))))
  obtain rfl := ij b
  exact r2 (K _ (s.k []))
 refine sn (rg (pu 1 [(10, Pt h)] ((ld s 0) ((be b) fun r21 m b => (fn) (zfz m (s.p []) (g.give s []) fun u d => ⟨_, rfl, have s := s.j [] [0] d; pu 3 [(13, Ag [.string r21.1.name, .string r21.1.fields]), (14, B r21.2)] ((al s [.string ByteArray.empty, .string ByteArray.empty]) fun v x s => (st s 1 [.string r21.1.name, .string r21.1.fields]) fun y s => pu 1 [] (nx (sq (rg ((lN [.string r21.1.name, .string r21.1.fields] (s.blkN 1 rfl 0 2)) ((be b) fun z n b => (fn) (zaF n (s.p []) fun C e => ⟨_, rfl, have s := s.j [] [0, 1] e; nx (br b (fun b o => ?_) fun b o => ?_)⟩)))))))⟩)))))
 ·refine rg (pu 1 [(17, Po h 1)] ((ld s 0) (pu 2 [(2, I a.D), (3, B true)] (nx (rt (tr ?_))))))
  obtain rfl := ij b
  exact r2 (K _ (s.k []))
 refine sn (sq ?_)
 refine CW.still (by kernel_rfl) (by kernel_rfl) ?_
 intro E f
 have s := s.same f
 refine op' 1 [(19, Pt h)] ((od s 0) (op' 3 [(2, I 0), (3, B (a.Op == 21))] ?_))
 refine OS.fin rfl ?_
 refine qn (rt ?_)
 obtain rfl := ij b
 exact r2 (K _ (s.k []))
theorem vj {w Z r R} (a : zav = some r) (s : St w Z w [])
  (K : ∀ w', St w Z w' [] -> R (Rt (Ag [U r.Lo, U r.Hi])) w') : Calls Tryz.prog 112 [].toArray w R := by
 refine sr 2 Tryz.func112 rfl (rg ((al s [U 0, U 0]) fun b c s => nx (rg (pu 1 [(1, Ag [U 0, U 18446744073709551615])] ((st s 0 [U 0, U 18446744073709551615]) fun d s => nx (rt ?_))))))
 obtain rfl := ij a
 exact QW.ret_c rfl rfl (rl (cs := [U 0, U 18446744073709551615]) (s.blkN 0 rfl 0 2)) (K _ (s.k []))
theorem xA {w Z a r R} (b : jA a = some r) (s : St w Z w [])
  (K : ∀ w', St w Z w' [] -> R (Rt (Ag [I r.Ki, U r.Sp.Lo, U r.Sp.Hi, I r.Map])) w') : Calls Tryz.prog 111 [Ag [U a.Lo, U a.Hi]].toArray w R := by
 refine sr 5 Tryz.func111 rfl (rg ((bx s [U a.Lo, U a.Hi]) fun d e s => (al s [I 0, U 0, U 0, I 0]) fun f g s => nx (rg ((lN [U a.Lo, U a.Hi] (s.blkN 0 rfl 0 2)) (pu 1 [(4, Ag [I 1, U a.Lo, U a.Hi, I 0])] ((st s 1 [I 1, U a.Lo, U a.Hi, I 0]) fun c s => nx (rt ?_)))))))
 obtain rfl := ij b
 exact QW.ret_c rfl rfl (rl (cs := [I 1, U a.Lo, U a.Hi, I 0]) (s.blkN 1 rfl 0 4)) (K _ (s.k []))
theorem zex {w Z wb Sb v0 S0 c H r R} (hF : qL c H = some r) (s : St w Z w [itI (vr wb Sb) [v0] S0 c]) (hb : Bor wb Sb w Z) (b6 : Rd w Z (.slice (some ⟨0, 0, none⟩) 23 23) zJ 2 vJ)
  (K : ∀ (s0 : List Nat) w', St w Z w' [itI (vr wb Sb) [v0] s0 r] -> R (Rt (.tuple #[])) w') : Calls Tryz.prog 75 [v0, I H].toArray w R := by
 refine sr 78 Tryz.func75 rfl ?_
 obtain ⟨W, rfl⟩ := s.fq 0
 refine sq ?_
 obtain ⟨v2, S3, v4, S5, v6, S7, v8, S9, cy, cz, s⟩ := s.o5 0
 have a1 := s.borOut 1 rfl
 have bt := a1.bor hb
 have a2 := s.borOut 2 rfl
 have ak := a2.bor hb
 refine have s := s.t1 3; have s := s.t1 4; have s := s.t1 5; have s := s.k [0, 3, 4, 5]; ?_
 obtain ⟨c0, a3, a4, rfl⟩ := bt.len
 obtain ⟨bg, aj, X, rfl⟩ := ak.len
 obtain ⟨c1, b3, b4, rfl⟩ := s.le 1
 obtain ⟨c2, ae, af, rfl⟩ := s.le 2
 obtain ⟨b5, O, Q, rfl⟩ := s.le 3
 have s : St _ _ _ [zs W 148 [Sl a3 (c.Module.Ms).length a4, Sl aj (c.Module.Co).length X, Sl b3 (c.ca).length b4, Sl ae (c.any).length af, Sl O (c.loops).length Q], _, _, _] := s
 refine rn (pu 3 [(12, Po W 4)] ((ld s 0) (pu 2 [(14, I ((c.loops).length : Int)), (15, I 0)] (nx ((be hF) fun a5 bi hF => ?_)))))
 refine CW.cutQ (fun a w1 => ∃ (am : List Nat), Rep 78 [] a /\ St w Z w1 [itI (vr wb Sb) [Pt W] am a5]) ?_ ?_
 ·refine bl ?_
  refine CW.loop (fun n a w1 => ∃ (h : Nat) (u : (List (Nat -> za))) (an : Value), h + n = (c.loops).length /\ Rep 78 [(0, Pt W), (1, I H), (13, Sl O (c.loops).length Q), (14, I ((c.loops).length : Int)), (15, I (h : Int))] a /\ St w Z w1 [zs W 148 [Sl a3 (c.Module.Ms).length a4, Sl aj (c.Module.Co).length X, an, Sl ae (c.any).length af, Sl O (c.loops).length Q], qH an 158 (jU (zb) 8) 32 u, qH (Sl ae (c.any).length af) 4 za8 1 c.any, qH (Sl O (c.loops).length Q) 164 zu 3 c.loops] /\ zQ (qZ c H) (fun (u : (List (Nat -> za))) => (ze.mk c.Module u c.any c.loops)) n h u = some a5) (c.loops).length (fun a f => ⟨0, c.ca, (Sl b3 (c.ca).length b4), Nat.zero_add _, f.ag, s.keep [0, 1, 2, 3] rfl, bi⟩) ?_
  rintro M a w1 ⟨h, u, an, T, f, s, d⟩
  refine go f ?_
  obtain ⟨b7, a6, a7, rfl⟩ := s.le 1
  refine rg (pu 1 [(16, B (decide ((h : Int) < ((c.loops).length : Int))))] (nx (sq ?_)))
  rcases zft (decide ((h : Int) < ((c.loops).length : Int))) with C | C
  ·rcases M with _ | M
   ·exact (zb0 T C).elim
   refine ct C (sn (sq (bl (rg ((be d) fun x ah d => ?_)))))
   obtain ⟨b8, b9, ca, av⟩ := s.rowv 3 rfl ah
   refine (ix 164 3 ah av) ((lN (zu x) (s.rowc 3 rfl (fun _ => rfl) ah av)) ((al s [I 0, I 0, I 0]) fun ao cb s => (st s 4 [I x.Head, I x.At, I x.Bound]) fun cc s => nx (sq (rg (pu 1 [(19, Pt ao)] ((ld s 4) (pu 2 [(22, B (x.Head != H))] (nx (br d (fun d bj => ?_) fun d bj => ?_)))))))))
   ·refine ex (te (bh (qn (rn (pu 2 [(15, I (w64 ((h : Int) + 1)))] (nl ?_))))))
    refine QW.say 15 rfl (congrArg (Value.int .i64) (zq C b5)) ?_
    exact me fun a f => ⟨M, zls _, h + 1, u, (Sl a6 (u).length a7), zm T, f.ag, s.k [0, 1, 2, 3], d⟩
   refine sn (sq ?_)
   refine CW.still (by kernel_rfl) (by kernel_rfl) ?_
   intro cd ba
   have s := s.same ba
   refine op' 4 [(26, Po W 1)] ((od s 0) (op' 1 [(28, Pt ao)] ((od s 4) (op' 1 [(30, Po ao 1)] ((od s 4) (op' 1 [(32, I (w64 (x.At + 1)))] ((be d) fun o E d => ?_)))))))
   refine OS.op (v := .slice (shd aj X (Int.toNat x.Head) 5) (o).length (X - Int.toNat x.Head)) rfl rfl rfl rfl rfl (fun a f => zk5 (e := 43) 5 rfl rfl rfl rfl E ak.cap (by kernel_rfl) (by kernel_rfl) a _ f) ?_
   have aw := ak.part E
   refine op' 2 [(34, I ((o).length : Int)), (35, I 0)] ?_
   refine OS.fin rfl ?_
   refine qn ((be d) fun Y bk d => ?_)
   refine CW.cutQ (fun a w1 => ∃ (aq : Value), Rep 78 [(0, Pt W), (1, I H), (13, Sl O (c.loops).length Q), (14, I ((c.loops).length : Int)), (15, I (h : Int))] a /\ St w Z w1 [zs W 148 [Sl a3 (c.Module.Ms).length a4, Sl aj (c.Module.Co).length X, aq, Sl ae (c.any).length af, Sl O (c.loops).length Q], qH aq 158 (jU (zb) 8) 32 Y, qH (Sl ae (c.any).length af) 4 za8 1 c.any, qH (Sl O (c.loops).length Q) 164 zu 3 c.loops]) ?_ ?_
   ·refine bl ?_
    refine CW.loop (fun n a w1 => ∃ (l : Nat) (m : (List (Nat -> za))) (ar : Value), l + n = (o).length /\ Rep 78 [(0, Pt W), (1, I H), (13, Sl O (c.loops).length Q), (14, I ((c.loops).length : Int)), (15, I (h : Int)), (33, .slice (shd aj X (Int.toNat x.Head) 5) (o).length (X - Int.toNat x.Head)), (34, I ((o).length : Int)), (35, I (l : Int))] a /\ St w Z w1 [zs W 148 [Sl a3 (c.Module.Ms).length a4, Sl aj (c.Module.Co).length X, ar, Sl ae (c.any).length af, Sl O (c.loops).length Q], qH ar 158 (jU (zb) 8) 32 m, qH (Sl ae (c.any).length af) 4 za8 1 c.any, qH (Sl O (c.loops).length Q) 164 zu 3 c.loops] /\ zQ (qx H o) (fun (m : (List (Nat -> za))) => m) n l m = some Y) (o).length (fun a f => ⟨0, u, (Sl a6 (u).length a7), Nat.zero_add _, f.ag, s.keep [0, 1, 2, 3] rfl, bk⟩) ?_
    rintro G a w1 ⟨l, m, ar, J, f, s, b⟩
    refine go f ?_
    obtain ⟨ce, ab, ac, rfl⟩ := s.le 1
    refine rg (pu 1 [(36, B (decide ((l : Int) < ((o).length : Int))))] (nx (sq ?_)))
    rcases zft (decide ((l : Int) < ((o).length : Int))) with z | z
    ·rcases G with _ | G
     ·exact (zb0 J z).elim
     refine ct z (sn (sq (bl (rg ((be b) fun q ai b => ?_)))))
     obtain ⟨cg, ch, ci, ax⟩ := aw.formv (fun _ => ⟨_, rfl⟩) ai
     refine (ix 43 5 ai ax) ((lN (zj q) (aw.cellv s ai ax)) ((al s [I 0, I 0, I 0, I 0, I 0]) fun cj ck s => (st s 4 [I q.Op, I q.D, I q.A, I q.B, I q.Imm]) fun cl s => nx (rg ((lN [I q.Op, I q.D, I q.A, I q.B, I q.Imm] (s.blkN 4 rfl 0 5)) ((be b) fun y bm b => (fn) (zhJ bm (s.p []) (b6.give s []) fun cm bb => ⟨_, rfl, have s := s.j [] [0, 1, 2, 3, 4] bb; pu 5 [(8, I y.1), (9, B y.2)] (nx (sq (rg (pu 2 [(45, B (!y.2))] (nx (br b (fun b bo => ?_) fun b bo => ?_))))))⟩))))))
     ·refine ex (te (bh (qn (rn (pu 2 [(35, I (w64 ((l : Int) + 1)))] (nl ?_))))))
      refine QW.say 35 rfl (congrArg (Value.int .i64) (zq z (Nat.le_trans (zju E) bg))) ?_
      exact me fun a f => ⟨G, zls _, l + 1, m, (Sl ab (m).length ac), zm J, f.ag, s.k [0, 1, 2, 3], b⟩
     refine sn (rg (pu 3 [(48, Po W 2)] ((ld s 0) (pu 2 [(50, I H), (51, I y.1)] ((be b) fun F g b => ?_)))))
     obtain ⟨a8, a9, cn, ay⟩ := s.rowv 1 rfl g
     refine (ix 158 32 g ay) ((be b) fun V t b => ?_)
     refine OW.op (v := .pointer (some ⟨a8, a9 + Int.toNat H * 32 + 0 + Int.toNat y.1 * 4, none⟩)) rfl rfl rfl rfl (fun a f => zy (n := 8) 156 4 rfl rfl rfl (zn t).1 (zn t).2.1 (by kernel_rfl) (by kernel_rfl) a _ f) ?_
     refine pu 1 [(54, .pointer (some ⟨a8, a9 + Int.toNat H * 32 + 0 + Int.toNat y.1 * 4, none⟩))] ?_
     refine OW.ld rfl rfl rfl rfl (by kernel_rfl) (zd5 (s.rowc 1 rfl (fun _ => rfl) g ay) zb (fun _ => rfl) 8 F 0 rfl rfl t 0 _ rfl) ?_
     refine pu 1 [(56, B ((F V).Ki == 1))] (nx (br b (fun b bp => ?_) fun b bp => ?_))
     ·refine CW.plan (by kernel_rfl) ?_
      intro co bc
      have s := s.same bc
      refine ap [0, 1, 2] [(59, Po W 2)] ((ad 3 s 0) (ap [4, 5] [(61, I H), (62, I y.1)] ?_))
      obtain ⟨bu, bv, cp, az⟩ := s.rowv 1 rfl g
      refine OA.idx (i := 8) 158 32 rfl (by kernel_rfl) rfl rfl rfl az rfl (zh g).1 (zh g).2.1 (by kernel_rfl) (by kernel_rfl) ?_
      refine (aa 6 [3]) ((be b) fun cq bq b => (fn) (vj bq (s.p []) fun cr bd => ⟨_, rfl, have s := s.j [] [0, 1, 2, 3, 4] bd; ?_⟩))
      refine OA.next ⟨(s.blk 0 rfl rfl), trivial⟩ ?_
      refine (aa 7 [3]) ((be b) fun au bs b => (fn) (xA bs (s.p []) fun cs bf => ⟨_, rfl, have s := s.j [] [0, 1, 2, 3, 4] bf; ?_⟩))
      refine OA.next ⟨(s.blk 0 rfl rfl), trivial⟩ ?_
      refine OA.val (i := 9) (v := .pointer (some ⟨bu, bv + Int.toNat H * 32 + 0 + Int.toNat y.1 * 4, none⟩)) rfl (by kernel_rfl) rfl rfl rfl rfl (fun a w f => zy (n := 8) 156 4 rfl rfl rfl (zn t).1 (zn t).2.1 (by kernel_rfl) (by kernel_rfl) a w f) ?_
      refine (aa 10 []) ?_
      refine OW.stRA s 1 rfl az (fun _ => rfl) rfl rfl g rfl rfl (by kernel_rfl) rfl zb (fun _ => rfl) 8 F 0 rfl rfl t 0 rfl rfl au rfl (zW F V au) rfl ?_
      intro cu s
      refine OA.next trivial ?_
      refine aF (bn (qn (rn (pu 2 [(35, I (w64 ((l : Int) + 1)))] (nl ?_)))))
      refine QW.say 35 rfl (congrArg (Value.int .i64) (zq z (Nat.le_trans (zju E) bg))) ?_
      exact me fun a f => ⟨G, zls _, l + 1, (m.set (Int.toNat H) (zW F V au)), (Sl ab (m).length ac), zm J, f.ag, s.k [0, 1, 2, 3], b⟩
     refine rn (pu 3 [(69, Po W 2)] ((ld s 0) (pu 3 [(71, I H), (72, I y.1), (73, Ag [I 0, U 0, U 0, I 0])] ?_)))
     obtain ⟨bw, bx, cv, a0⟩ := s.rowv 1 rfl g
     refine (ix 158 32 g a0) ?_
     refine OW.op (v := .pointer (some ⟨bw, bx + Int.toNat H * 32 + 0 + Int.toNat y.1 * 4, none⟩)) rfl rfl rfl rfl (fun a f => zy (n := 8) 156 4 rfl rfl rfl (zn t).1 (zn t).2.1 (by kernel_rfl) (by kernel_rfl) a _ f) ?_
     refine OW.stRA s 1 rfl a0 (fun _ => rfl) rfl rfl g rfl rfl (by kernel_rfl) rfl zb (fun _ => rfl) 8 F 0 rfl rfl t 0 rfl rfl (za.mk 0 (zd.mk 0 0) 0) rfl (zW F V (za.mk 0 (zd.mk 0 0) 0)) rfl ?_
     intro cw s
     refine nl (bn (qn (rn (pu 2 [(35, I (w64 ((l : Int) + 1)))] (nl ?_)))))
     refine QW.say 35 rfl (congrArg (Value.int .i64) (zq z (Nat.le_trans (zju E) bg))) ?_
     exact me fun a f => ⟨G, zls _, l + 1, (m.set (Int.toNat H) (zW F V (za.mk 0 (zd.mk 0 0) 0))), (Sl ab (m).length ac), zm J, f.ag, s.k [0, 1, 2, 3], b⟩
    rcases G with _ | G
    ·refine cf z (ex (te (te (bh ?_))))
     obtain rfl := ij b
     exact me fun a f => ⟨(Sl ab (m).length ac), f.ag, s.k [0, 1, 2, 3]⟩
    exact (zb1 J z).elim
   rintro a w1 ⟨aq, f, s⟩
   refine QW.go ?_ f
   obtain ⟨cx, bz, b0, rfl⟩ := s.le 1
   refine bn (qn (rn (pu 2 [(15, I (w64 ((h : Int) + 1)))] (nl ?_))))
   refine QW.say 15 rfl (congrArg (Value.int .i64) (zq C b5)) ?_
   exact me fun a f => ⟨M, zls _, h + 1, Y, (Sl bz (Y).length b0), zm T, f.ag, s.k [0, 1, 2, 3], d⟩
  rcases M with _ | M
  ·refine cf C (ex (te (te (bh ?_))))
   have s := s.borIn a1
   have s := s.borIn a2
   refine have s := s.ti 1; have s := s.ti 2; have s := s.ti 3; ?_
   obtain ⟨b2, s⟩ := s.s5 (zaO wb Sb) 0 4 5 1 2 3 [] (ze.mk c.Module u c.any c.loops)
   obtain rfl := ij d
   exact me fun a f => ⟨b2, f.ag, s.k [0]⟩
  exact (zb1 T C).elim
 rintro a w1 ⟨am, f, s⟩
 refine QW.go ?_ f
 obtain rfl := ij hF
 exact QW.end0 rfl (K am _ (s.k [0]))
theorem zhK {w Z c r R} (d : zd8 c = some r) (s : St w Z w []) (i : Rd w Z (.slice (some ⟨0, 0, none⟩) 23 23) zJ 2 vJ)
  (K : ∀ w', St w Z w' [] -> R (Rt (B r)) w') : Calls Tryz.prog 113 [Ag [I c.Op, I c.D, I c.A, I c.B, I c.Imm]].toArray w R := by
 refine sr 17 Tryz.func113 rfl (rg ((bx s [I c.Op, I c.D, I c.A, I c.B, I c.Imm]) fun x H s => pu 1 [] (nx (rg (pu 1 [(6, Pt x)] ((ld s 0) ((be d) fun r12 l d => (fn) (zfz l (s.p []) (i.give s []) fun y f => ⟨_, rfl, have s := s.j [] [0] f; pu 3 [(9, Ag [.string r12.1.name, .string r12.1.fields]), (10, B r12.2)] ((al s [.string ByteArray.empty, .string ByteArray.empty]) fun z C s => (st s 1 [.string r12.1.name, .string r12.1.fields]) fun E s => pu 1 [] (nx (sq ((be d) fun q b d => ?_))))⟩))))))))
 refine ck (fun a t => Rep 17 [(2, B q)] a /\ St w Z t []) ?_ fun a t ⟨e, s⟩ => go e (rt ?_)
 ·refine rn ((lN [I c.Op, I c.D, I c.A, I c.B, I c.Imm] (s.blkN 0 rfl 0 5)) ((be b) fun u m b => (fn) (zcq m (s.p []) (i.give s []) fun F g => ⟨_, rfl, have s := s.j [] [0, 1] g; pu 1 [(13, B u)] (si 13 b (fun b n => ?_) fun b n => ?_)⟩)))
  ·refine (lN [.string r12.1.name, .string r12.1.fields] (s.blkN 1 rfl 0 2)) ((be b) fun v o b => (fn) (zaF o (s.p []) fun G h => ⟨_, rfl, have s := s.j [] [0, 1] h; pu 2 [(2, B v)] (nl ?_)⟩))
   obtain rfl := ij b
   exact me fun a e => ⟨e.ag, s.k []⟩
  refine pu 4 [(2, B false)] (nl ?_)
  obtain rfl := ij b
  exact me fun a e => ⟨e.ag, s.k []⟩
 obtain rfl := ij d
 exact r1 (K _ (s.k []))
theorem zeH {w Z a r R} (b : zc6 a = some r) (s : St w Z w [])
  (K : ∀ w', St w Z w' [] -> R (Rt (Ag [U r.Lo, U r.Hi])) w') : Calls Tryz.prog 145 [U a].toArray w R := by
 refine sr 6 Tryz.func145 rfl (rg ((al s [U 0, U 0]) fun c d s => nx (rg (pu 3 [(5, Ag [U a, U a])] ((st s 0 [U a, U a]) fun e s => nx (rt ?_))))))
 obtain rfl := ij b
 exact QW.ret_c rfl rfl (rl (cs := [U a, U a]) (s.blkN 0 rfl 0 2)) (K _ (s.k []))
theorem zdV {w Z b d r R} (e : zbI b d = some r) (s : St w Z w [])
  (K : ∀ w', St w Z w' [] -> R (Rt (Ag [I r.Ki, U r.Sp.Lo, U r.Sp.Hi, I r.Map])) w') : Calls Tryz.prog 114 [Ag [I b.Op, I b.D, I b.A, I b.B, I b.Imm], .agg (jU (zb) 8 d).toArray].toArray w R := by
 refine sr 17 Tryz.func114 rfl (rg ((bx s [I b.Op, I b.D, I b.A, I b.B, I b.Imm]) fun i G s => (bx s (jU (zb) 8 d)) fun q u s => (al s [I 0, U 0, U 0, I 0]) fun x y s => nx (sq (rg (pu 1 [(5, Po i 3)] ((ld s 0) (pu 1 [(7, B (b.B == 8))] (nx (br e (fun e l => ?_) fun e l => ?_)))))))))
 ·refine rg (pu 1 [(8, Po i 4)] ((ld s 0) (pu 1 [(10, U (zp b.Imm))] ((be e) fun r23 m e => (fn) (zeH m (s.p []) fun z g => ⟨_, rfl, have s := s.j [] [0, 1, 2] g; (be e) fun r27 o e => (fn) (xA o (s.p []) fun C h => ⟨_, rfl, have s := s.j [] [0, 1, 2] h; (st s 2 [I r27.Ki, U r27.Sp.Lo, U r27.Sp.Hi, I r27.Map]) fun E s => nx (rt (tr ?_))⟩)⟩)))))
  obtain rfl := ij e
  exact QW.ret_c rfl rfl (rl (cs := [I r27.Ki, U r27.Sp.Lo, U r27.Sp.Hi, I r27.Map]) (s.blkN 2 rfl 0 4)) (K _ (s.k []))
 refine sn (rg (pu 1 [(13, Po i 3)] ((ld s 0) ((be e) fun c f e => ?_))))
 refine OW.op (v := .pointer (some ⟨q, 0 + Int.toNat b.B * 4, none⟩)) rfl rfl rfl rfl (fun a t => zy (n := 8) 156 4 rfl rfl rfl (zn f).1 (zn f).2.1 (by kernel_rfl) (by kernel_rfl) a _ t) ?_
 refine (lN (zb (d c)) (s.arrB 1 rfl zb (fun _ => rfl) 8 d 0 rfl rfl f)) ((st s 2 [I (d c).Ki, U (d c).Sp.Lo, U (d c).Sp.Hi, I (d c).Map]) fun F s => nx (rt ?_))
 obtain rfl := ij e
 exact QW.ret_c rfl rfl (rl (cs := [I (d c).Ki, U (d c).Sp.Lo, U (d c).Sp.Hi, I (d c).Map]) (s.blkN 2 rfl 0 4)) (K _ (s.k []))
theorem zam {w Z y f r R} (p : xn f = some r) (b : St w Z w []) (u : Rd w Z y zb 4 f)
  (K : ∀ w', St w Z w' [] -> R (Rt (I r)) w') : Calls Tryz.prog 116 [y].toArray w R := by
 refine sr 15 Tryz.func116 rfl ?_
 obtain ⟨C, z, A, rfl⟩ := u.len
 refine rg (pu 1 [] (nx (sq (rg (pu 3 [(5, Sl z (f).length A), (6, I ((f).length : Int)), (7, I 0)] (nx ((be p) fun t v p => ?_)))))))
 refine ck (fun a o => ∃ (t72 : Unit), t = .inl t72 /\ Rep 15 [] a /\ St w Z o []) ?_ ?_
 ·refine bl ?_
  refine CW.loop (fun n a o => ∃ (c : Nat) (l : Unit), c + n = (f).length /\ Rep 15 [(5, Sl z (f).length A), (6, I ((f).length : Int)), (7, I (c : Int))] a /\ St w Z o [] /\ zQ (zF f) (fun (l : Unit) => (.inl ())) n c l = some t) (f).length (fun a h => ⟨0, (), Nat.zero_add _, h.ag, b.keep [] rfl, v⟩) ?_
  rintro g a o ⟨c, l, i, h, b, s⟩
  refine go h (rg (pu 1 [(8, B (decide ((c : Int) < ((f).length : Int))))] (nx (sq ?_))))
  rcases zft (decide ((c : Int) < ((f).length : Int))) with d | d
  ·rcases g with _ | g
   ·exact (zb0 i d).elim
   refine ct d (sn (sq (bl (rg ((be s) fun e j s => ?_)))))
   obtain ⟨D, E, F, m⟩ := u.formv (fun _ => ⟨_, rfl⟩) j
   refine (ix 156 4 j m) ((lN (zb e) (u.cellv b j m)) ((al b [I 0, U 0, U 0, I 0]) fun x G b => (st b 0 [I e.Ki, U e.Sp.Lo, U e.Sp.Hi, I e.Map]) fun H b => nx (rg (pu 1 [(11, Pt x)] ((ld b 0) (pu 1 [(13, B (e.Ki != 1))] (nx (br s (fun s q => ?_) fun s q => ?_))))))))
   ·refine rg (pu 1 [(2, I 33)] (nx (rt (bt (tr (tr (bt (tr ?_))))))))
    obtain rfl := ij s
    obtain rfl := ij p
    exact r1 (K _ (b.k []))
   refine sk (bn (qn (rn (pu 2 [(7, I (w64 ((c : Int) + 1)))] (nl ?_)))))
   refine QW.say 7 rfl (congrArg (Value.int .i64) (zq d C)) ?_
   exact me fun a h => ⟨g, zls _, c + 1, (), zm i, h.ag, b.k [], s⟩
  rcases g with _ | g
  ·refine cf d (ex (te (te (bh ?_))))
   obtain rfl := ij s
   exact me fun a h => ⟨(), rfl, h.ag, b.k []⟩
  exact (zb1 i d).elim
 rintro a o ⟨t72, rfl, h, b⟩
 refine go h (rg (pu 1 [(2, I 0)] (nx (rt ?_))))
 obtain rfl := ij p
 exact r1 (K _ (b.k []))
theorem xQ {w Z a r R} (c : ve a = some r) (s : St w Z w [])
  (K : ∀ w', St w Z w' [] -> R (Rt (B r)) w') : Calls Tryz.prog 147 [Ag [U a.Lo, U a.Hi]].toArray w R := by
 refine sr 8 Tryz.func147 rfl (rg ((bx s [U a.Lo, U a.Hi]) fun b d s => pu 1 [] (nx (rg (pu 1 [(3, Pt b)] ((ld s 0) (pu 1 [(5, Po b 1)] ((ld s 0) (pu 2 [(2, B (decide (a.Lo <= a.Hi)))] (nx (rt ?_)))))))))))
 obtain rfl := ij c
 exact r1 (K _ (s.k []))
theorem zcD {w Z c d r R} (g : vl c d = some r) (s : St w Z w [])
  (K : ∀ w', St w Z w' [] -> R (Rt (B r)) w') : Calls Tryz.prog 146 [Ag [U c.Lo, U c.Hi], Ag [U d.Lo, U d.Hi]].toArray w R := by
 refine sr 21 Tryz.func146 rfl (rg ((bx s [U c.Lo, U c.Hi]) fun m u s => (bx s [U d.Lo, U d.Hi]) fun n v s => pu 1 [] (nx (sq ((be g) fun o b g => ?_)))))
 refine ck (fun a q => Rep 21 [(4, B o)] a /\ St w Z q []) ?_ fun a q ⟨e, s⟩ => go e (rt ?_)
 ·refine rn ((lN [U c.Lo, U c.Hi] (s.blkN 0 rfl 0 2)) ((be b) fun r21 h b => (fn) (xQ h (s.p []) fun t f => ⟨_, rfl, have s := s.j [] [0, 1] f; pu 1 [(7, B r21)] (si 7 b (fun b i => ?_) fun b i => ?_)⟩)))
  ·refine pu 1 [(8, Pt n)] ((ld s 1) (pu 1 [(10, Pt m)] ((ld s 0) (pu 3 [(14, B (decide (d.Lo <= c.Lo)))] (si 14 b (fun b l => ?_) fun b l => ?_)))))
   ·refine pu 1 [(15, Po m 1)] ((ld s 0) (pu 1 [(17, Po n 1)] ((ld s 1) (pu 3 [(4, B (decide (c.Hi <= d.Hi)))] (nl ?_)))))
    obtain rfl := ij b
    exact me fun a e => ⟨e.ag, s.k []⟩
   refine pu 7 [(4, B false)] (nl ?_)
   obtain rfl := ij b
   exact me fun a e => ⟨e.ag, s.k []⟩
  refine pu 14 [(4, B false)] (nl ?_)
  obtain rfl := ij b
  exact me fun a e => ⟨e.ag, s.k []⟩
 obtain rfl := ij g
 exact r1 (K _ (s.k []))
theorem zfB {w Z a r R} (b : zbg a = some r) (s : St w Z w [])
  (K : ∀ w', St w Z w' [] -> R (Rt (I r)) w') : Calls Tryz.prog 117 [Ag [I a.Ki, U a.Sp.Lo, U a.Sp.Hi, I a.Map]].toArray w R := by
 refine sr 8 Tryz.func117 rfl (rg ((bx s [I a.Ki, U a.Sp.Lo, U a.Sp.Hi, I a.Map]) fun f i s => pu 1 [] (nx (sq (rg (pu 1 [(3, Po f 1)] ((lN [U a.Sp.Lo, U a.Sp.Hi] (s.blkN 0 rfl 1 2)) (pu 1 [(5, Ag [U 0, U 15])] ((be b) fun g d b => (fn) (zcD d (s.p []) fun h c => ⟨_, rfl, have s := s.j [] [0] c; pu 1 [(7, B (!g))] (nx (br b (fun b e => ?_) fun b e => ?_))⟩))))))))))
 ·refine rg (pu 1 [(2, I 35)] (nx (rt (tr ?_))))
  obtain rfl := ij b
  exact r1 (K _ (s.k []))
 refine sn (rg (pu 1 [(2, I 0)] (nx (rt ?_))))
 obtain rfl := ij b
 exact r1 (K _ (s.k []))
theorem zeI {w Z x e r R} (p : zbh e = some r) (c : St w Z w []) (u : Rd w Z x (zx .i64) 1 e)
  (K : ∀ w', St w Z w' [] -> R (Rt (I r)) w') : Calls Tryz.prog 115 [x].toArray w R := by
 refine sr 15 Tryz.func115 rfl ?_
 obtain ⟨A, y, z, rfl⟩ := u.len
 refine rg (pu 1 [] (nx (sq (rg (pu 3 [(5, Sl y (e).length z), (6, I ((e).length : Int)), (7, I 0)] (nx ((be p) fun t v p => ?_)))))))
 refine ck (fun a j => ∃ (t54 : Unit), t = .inl t54 /\ Rep 15 [] a /\ St w Z j []) ?_ ?_
 ·refine bl ?_
  refine CW.loop (fun n a j => ∃ (d : Nat) (l : Unit), d + n = (e).length /\ Rep 15 [(5, Sl y (e).length z), (6, I ((e).length : Int)), (7, I (d : Int))] a /\ St w Z j [] /\ zQ (qh e) (fun (l : Unit) => (.inl ())) n d l = some t) (e).length (fun a f => ⟨0, (), Nat.zero_add _, f.ag, c.keep [] rfl, v⟩) ?_
  rintro g a j ⟨d, l, h, f, c, s⟩
  refine go f (rg (pu 1 [(8, B (decide ((d : Int) < ((e).length : Int))))] (nx (sq ?_))))
  rcases zft (decide ((d : Int) < ((e).length : Int))) with b | b
  ·rcases g with _ | g
   ·exact (zb0 h b).elim
   refine ct b (sn (sq (bl (rg ((be s) fun m i s => ?_)))))
   obtain ⟨E, C, D, o⟩ := u.formv (fun _ => ⟨_, rfl⟩) i
   refine (ix 35 1 i o) ?_
   refine OW.ld rfl rfl rfl rfl (by kernel_rfl) (u.cellv c i o 0 _ rfl) ?_
   refine pu 1 [(4, I m)] (nx (rg (pu 2 [(12, B (m != 0))] (nx (br s (fun s q => ?_) fun s q => ?_)))))
   ·refine rg (pu 2 [(2, I m)] (nx (rt (bt (tr (tr (bt (tr ?_))))))))
    obtain rfl := ij s
    obtain rfl := ij p
    exact r1 (K _ (c.k []))
   refine sk (bn (qn (rn (pu 2 [(7, I (w64 ((d : Int) + 1)))] (nl ?_)))))
   refine QW.say 7 rfl (congrArg (Value.int .i64) (zq b A)) ?_
   exact me fun a f => ⟨g, zls _, d + 1, (), zm h, f.ag, c.k [], s⟩
  rcases g with _ | g
  ·refine cf b (ex (te (te (bh ?_))))
   obtain rfl := ij s
   exact me fun a f => ⟨(), rfl, f.ag, c.k []⟩
  exact (zb1 h b).elim
 rintro a j ⟨t54, rfl, f, c⟩
 refine go f (rg (pu 1 [(2, I 0)] (nx (rt ?_))))
 obtain rfl := ij p
 exact r1 (K _ (c.k []))
theorem zhL {w Z c b r R} (e : zbW c b = some r) (s : St w Z w [])
  (K : ∀ w', St w Z w' [] -> R (Rt (B r)) w') : Calls Tryz.prog 118 [Ag [I c.Ki, U c.Sp.Lo, U c.Sp.Hi, I c.Map], Ag [I b.Ki, U b.Sp.Lo, U b.Sp.Hi, I b.Map]].toArray w R := by
 refine sr 24 Tryz.func118 rfl (rg ((bx s [I c.Ki, U c.Sp.Lo, U c.Sp.Hi, I c.Map]) fun m x s => (bx s [I b.Ki, U b.Sp.Lo, U b.Sp.Hi, I b.Map]) fun n y s => pu 1 [] (nx (sq (rg (pu 1 [(5, Pt n)] ((ld s 1) (nx (bl (rg (pu 2 [(7, B (b.Ki == 1))] (nx (br e (fun e o => ?_) fun e o => ?_)))))))))))))
 ·refine sq ((be e) fun q d e => ?_)
  refine ck (fun a t => Rep 24 [(4, B q)] a /\ St w Z t []) ?_ fun a t ⟨f, s⟩ => go f (rt (bt (tr ?_)))
  ·refine rn (pu 1 [(9, Pt m)] ((ld s 0) (pu 2 [(12, B (c.Ki == 1))] (si 12 d (fun d h => ?_) fun d h => ?_))))
   ·refine pu 1 [(13, Po m 1)] ((lN [U c.Sp.Lo, U c.Sp.Hi] (s.blkN 0 rfl 1 2)) (pu 1 [(15, Po n 1)] ((lN [U b.Sp.Lo, U b.Sp.Hi] (s.blkN 1 rfl 1 2)) ((be d) fun r18 i d => (fn) (zcD i (s.p []) fun u g => ⟨_, rfl, have s := s.j [] [0, 1] g; pu 2 [(4, B r18)] (nl ?_)⟩)))))
    obtain rfl := ij d
    exact me fun a f => ⟨f.ag, s.k []⟩
   refine pu 7 [(4, B false)] (nl ?_)
   obtain rfl := ij d
   exact me fun a f => ⟨f.ag, s.k []⟩
  obtain rfl := ij e
  exact r1 (K _ (s.k []))
 refine rg (pu 2 [(19, B (b.Ki == 2))] (nx (br e (fun e l => ?_) fun e l => ?_)))
 ·refine rg ((lN [I c.Ki, U c.Sp.Lo, U c.Sp.Hi, I c.Map] (s.blkN 0 rfl 0 4)) ((lN [I b.Ki, U b.Sp.Lo, U b.Sp.Hi, I b.Map] (s.blkN 1 rfl 0 4)) ?_))
  refine OW.op (v := B ((c.Ki == b.Ki) && (((c.Sp.Lo == b.Sp.Lo) && ((c.Sp.Hi == b.Sp.Hi) && true)) && ((c.Map == b.Map) && true)))) rfl rfl rfl rfl (fun a f => zgL rfl rfl rfl (by kernel_rfl) (by kernel_rfl) a _ f) ?_
  refine pu 1 [(4, B ((c.Ki == b.Ki) && (((c.Sp.Lo == b.Sp.Lo) && ((c.Sp.Hi == b.Sp.Hi) && true)) && ((c.Map == b.Map) && true))))] (nx (rt (bt (tr ?_))))
  obtain rfl := ij e
  exact r1 (K _ (s.k []))
 refine sk (bn (qn (rg (pu 1 [(4, B true)] (nx (rt ?_))))))
 obtain rfl := ij e
 exact r1 (K _ (s.k []))
theorem zem {w Z c r R} (d : xH c = some r) (s : St w Z w []) (h : Rd w Z (.slice (some ⟨1, 0, none⟩) 7 7) qi 5 zbe)
  (K : ∀ w', St w Z w' [] -> R (Rt (.tuple #[Ag [.string r.1.name, .string r.1.wants, U r.1.most, I r.1.asks, B r.1.isAsked], B r.2])) w') : Calls Tryz.prog 100 [I c].toArray w R := by
 refine sr 14 Tryz.func100 rfl (rg ((al s [.string ByteArray.empty, .string ByteArray.empty, U 0, I 0, B false]) fun i o s => pu 1 [] (nx (sq (sq ?_)))))
 refine ck (fun a j => Rep 14 [(0, I c), (2, Pt i), (9, B (decide (c < 0) || decide (c >= 7)))] a /\ St w Z j [zs i 187 [.string ByteArray.empty, .string ByteArray.empty, U 0, I 0, B false]]) ?_ fun a j ⟨e, s⟩ => go e (br d (fun d l => ?_) fun d l => ?_)
 ·refine rn (pu 3 [(6, B (decide (c < 0)))] (sp 6 (fun g => ?_) fun g => ?_))
  ·refine pu 3 [(9, B true)] (nl ?_)
   exact QW.say 9 (v := B (decide (c < 0) || decide (c >= 7))) rfl (by rw [g]; try rfl) (me fun a e => ⟨e.ag, s.k [0]⟩)
  refine pu 3 [(9, B (decide (c >= 7)))] (nl ?_)
  exact QW.say 9 (v := B (decide (c < 0) || decide (c >= 7))) rfl (by rw [g]; try rfl) (me fun a e => ⟨e.ag, s.k [0]⟩)
 ·refine rg (pu 1 [(10, Ag [.string ByteArray.empty, .string ByteArray.empty, U 0, I 0, B false])] ((st s 0 [.string ByteArray.empty, .string ByteArray.empty, U 0, I 0, B false]) fun p s => pu 1 [(3, B false)] (nx (rt (tr ?_)))))
  obtain rfl := ij d
  exact QW.ret_ct rfl rfl (rl (cs := [.string ByteArray.empty, .string ByteArray.empty, U 0, I 0, B false]) (s.blkN 0 rfl 0 5)) rfl (K _ (s.k []))
 refine sn (rg (pu 1 [(11, I c)] ((be d) fun b f d => ?_)))
 refine OW.op (v := .pointer (some ⟨1, 0 + Int.toNat c * 5, none⟩)) rfl rfl rfl rfl (fun a e => zy (n := zbe.length) 187 5 rfl rfl rfl (zh f).1 (zh f).2.1 (by kernel_rfl) (by kernel_rfl) a _ e) ?_
 refine (lN (qi b) (h.cellv s f (show Value.slice (some ⟨1, 0, none⟩) 7 7 = .slice (some ⟨1, 0, none⟩) zbe.length 7 from rfl))) ((st s 0 [.string b.name, .string b.wants, U b.most, I b.asks, B b.isAsked]) fun m s => pu 1 [(3, B true)] (nx (rt ?_)))
 obtain rfl := ij d
 exact QW.ret_ct rfl rfl (rl (cs := [.string b.name, .string b.wants, U b.most, I b.asks, B b.isAsked]) (s.blkN 0 rfl 0 5)) rfl (K _ (s.k []))
theorem zcE {w Z a r R} (b : zc7 a = some r) (s : St w Z w [])
  (K : ∀ w', St w Z w' [] -> R (Rt (Ag [I r.Ki, U r.Sp.Lo, U r.Sp.Hi, I r.Map])) w') : Calls Tryz.prog 101 [U a].toArray w R := by
 refine sr 6 Tryz.func101 rfl (rg ((al s [I 0, U 0, U 0, I 0]) fun c d s => nx (rg (pu 3 [(5, Ag [I 1, U 0, U a, I 0])] ((st s 0 [I 1, U 0, U a, I 0]) fun e s => nx (rt ?_))))))
 obtain rfl := ij b
 exact QW.ret_c rfl rfl (rl (cs := [I 1, U 0, U a, I 0]) (s.blkN 0 rfl 0 4)) (K _ (s.k []))
theorem zdW {w Z fu p0 r R} (x : qV fu p0 = some r) (b : St w Z w []) (ad : Rd w Z (.slice (some ⟨1, 0, none⟩) 7 7) qi 5 zbe)
  (K : ∀ (x0 : Value) w', St w Z w' [qH x0 156 zb 4 r] -> R (Rt (x0)) w') : Calls Tryz.prog 58 [I p0].toArray w R := by
 refine sr 37 Tryz.func58 rfl (rg (pu 1 [] (nx (rg (pu 1 [(9, I p0)] ((be x) fun f ae x => (fn) (zem ae (b.p []) (ad.give b []) fun a7 Q => ⟨_, rfl, have b := b.j [] [] Q; pu 3 [(11, Ag [.string f.1.name, .string f.1.wants, U f.1.most, I f.1.asks, B f.1.isAsked]), (12, B f.2)] ((al b [.string ByteArray.empty, .string ByteArray.empty, U 0, I 0, B false]) fun af a8 b => (st b 0 [.string f.1.name, .string f.1.wants, U f.1.most, I f.1.asks, B f.1.isAsked]) fun a9 b => pu 1 [] (nx (rg (pu 1 [(5, Sn)] (nx (sq (rg (pu 1 [(13, Po af 1)] ((ld b 0) ?_)))))))))⟩)))))))
 refine OW.srange (s := f.1.wants) b rfl rfl rfl rfl (by kernel_rfl) ?_
 intro y ba b
 refine nx ((be x) fun i T x => ?_)
 refine ck (fun a z => ∃ (u : Value), Rep 37 [(5, u)] a /\ St w Z z [qH u 156 zb 4 i]) ?_ fun a z ⟨u, g, b⟩ => go g ?_
 ·refine bl ?_
  have b := b.nilRow za 156 zb 4
  refine CW.loop (fun n a z => ∃ (d : (List za) × Nat) (v : Value), Rep 37 [(5, v), (15, Pt y)] a /\ St w Z z [qH v 156 zb 4 d.1, zmb y f.1.wants d.2] /\ loop (zfX f) n d = some i) fu (fun a g => ⟨(([] : List za), 0), (Sn), g.ag, b.keep [2, 1] rfl, T⟩) ?_
  rintro h a z ⟨d, v, g, b, c⟩
  rcases h with _ | h
  ·exact (jX c).elim
  refine go g ?_
  obtain ⟨ah, l, m, rfl⟩ := b.le 0
  refine rg ?_
  refine OW.snext b 1 rfl rfl rfl rfl rfl ?_ ?_
  ·intro o ai b
   have c := zfr c o
   refine pu 1 [(17, B true)] (nx (sq (ct rfl (sn (bl (rg (pu 2 [(7, .int .i32 (zfV f.1.wants d.2))] (nx (rg (pu 1 [(19, .int .i32 (zfV f.1.wants d.2))] (nx (bl (rg (pu 2 [(24, B ((zfV f.1.wants d.2) == 104))] (nx (br c (fun c V => ?_) fun c V => ?_))))))))))))))))
   ·refine rn (pu 2 [(26, Sl l (d.1).length m), (27, Ag [I 2, U 0, U 0, I 0])] ?_)
    refine OW.row (α := za) (e := 156) (enc := zb) (sz := 4) b rfl rfl rfl [(za.mk 2 (zd.mk 0 0) 0)] rfl (fun _ => rfl) rfl rfl (fun _ => by kernel_rfl) ?_
    intro aj ak b
    refine (be c) fun am W c => ?_
    refine OW.app b 0 rfl (fun _ => rfl) (fun _ => rfl) rfl rfl rfl rfl rfl rfl (by kernel_rfl) zi8 (b.rd 2 rfl (fun _ => rfl) [] rfl (b.len 2 rfl).1) (jR W) ?_
    intro an ao b
    obtain ⟨ap, A, C, rfl⟩ := b.le 0
    exact pu 1 [(5, Sl A ((d.1 ++ [(za.mk 2 (zd.mk 0 0) 0)])).length C)] (nl (bn (bn (me fun a g => ⟨h, zls _, ((d.1 ++ [(za.mk 2 (zd.mk 0 0) 0)]), (zc0 f.1.wants d.2)), (Sl A ((d.1 ++ [(za.mk 2 (zd.mk 0 0) 0)])).length C), g.ag, b.k [0, 1], c⟩))))
   refine rg (pu 2 [(30, B ((zfV f.1.wants d.2) == 115))] (nx (br c (fun c X => ?_) fun c X => ?_)))
   ·refine rn (pu 1 [(32, Sl l (d.1).length m)] ((be c) fun q Y c => (fn) (zcE Y (b.p []) fun aq D => ⟨_, rfl, have b := b.j [] [0, 1] D; ?_⟩)))
    refine OW.row (α := za) (e := 156) (enc := zb) (sz := 4) b rfl rfl rfl [q] rfl (fun _ => rfl) rfl rfl (fun _ => by kernel_rfl) ?_
    intro ar au b
    refine (be c) fun av aa c => ?_
    refine OW.app b 0 rfl (fun _ => rfl) (fun _ => rfl) rfl rfl rfl rfl rfl rfl (by kernel_rfl) zi8 (b.rd 2 rfl (fun _ => rfl) [] rfl (b.len 2 rfl).1) (jR aa) ?_
    intro aw ax b
    obtain ⟨ay, E, F, rfl⟩ := b.le 0
    exact pu 1 [(5, Sl E ((d.1 ++ [q])).length F)] (nl (bn (bn (me fun a g => ⟨h, zls _, ((d.1 ++ [q]), (zc0 f.1.wants d.2)), (Sl E ((d.1 ++ [q])).length F), g.ag, b.k [0, 1], c⟩))))
   refine rn (pu 1 [(20, Sl l (d.1).length m)] ((be c) fun t ab c => (fn) (zcE ab (b.p []) fun az G => ⟨_, rfl, have b := b.j [] [0, 1] G; ?_⟩)))
   refine OW.row (α := za) (e := 156) (enc := zb) (sz := 4) b rfl rfl rfl [t] rfl (fun _ => rfl) rfl rfl (fun _ => by kernel_rfl) ?_
   intro a0 a1 b
   refine (be c) fun a2 ac c => ?_
   refine OW.app b 0 rfl (fun _ => rfl) (fun _ => rfl) rfl rfl rfl rfl rfl rfl (by kernel_rfl) zi8 (b.rd 2 rfl (fun _ => rfl) [] rfl (b.len 2 rfl).1) (jR ac) ?_
   intro a3 a4 b
   obtain ⟨a5, H, J, rfl⟩ := b.le 0
   exact pu 1 [(5, Sl H ((d.1 ++ [t])).length J)] (nl (bn (bn (me fun a g => ⟨h, zls _, ((d.1 ++ [t]), (zc0 f.1.wants d.2)), (Sl H ((d.1 ++ [t])).length J), g.ag, b.k [0, 1], c⟩))))
  intro o
  have c := zfs c o
  refine pu 1 [(17, B false)] (nx (sq (cf rfl (ex (te (te (bh ?_)))))))
  obtain rfl := ij c
  exact me fun a g => ⟨(Sl l (d.1).length m), g.ag, b.k [0]⟩
 obtain ⟨a6, M, O, rfl⟩ := b.le 0
 refine rg (pu 2 [(2, Sl M (i).length O)] (nx (rt ?_)))
 obtain rfl := ij x
 exact r1 (K (Sl M (i).length O) _ (b.k [0]))
theorem zhM {w Z fu O v1 v r R} (g : zaR fu O v = some r) (s : St w Z w []) (F : Rd w Z v1 zb 4 v) (ac : Rd w Z (.slice (some ⟨1, 0, none⟩) 7 7) qi 5 zbe)
  (K : ∀ w', St w Z w' [] -> R (Rt (I r)) w') : Calls Tryz.prog 119 [I O, v1].toArray w R := by
 refine sr 56 Tryz.func119 rfl ?_
 obtain ⟨l1, Q, T, rfl⟩ := F.len
 refine rg (pu 1 [] (nx (sq (rg (pu 1 [(11, I O)] ((be g) fun r11 ad g => (fn) (zem ad (s.p []) (ac.give s []) fun a3 V => ⟨_, rfl, have s := s.j [] [] V; pu 3 [(13, Ag [.string r11.1.name, .string r11.1.wants, U r11.1.most, I r11.1.asks, B r11.1.isAsked]), (14, B r11.2)] ((al s [.string ByteArray.empty, .string ByteArray.empty, U 0, I 0, B false]) fun a4 a5 s => (st s 0 [.string r11.1.name, .string r11.1.wants, U r11.1.most, I r11.1.asks, B r11.1.isAsked]) fun a6 s => pu 1 [(6, B r11.2)] (nx (rg (pu 2 [(16, B (!r11.2))] (nx (br g (fun g ae => ?_) fun g ae => ?_))))))⟩)))))))
 ·refine rg (pu 1 [(4, I 34)] (nx (rt (tr ?_))))
  obtain rfl := ij g
  exact r1 (K _ (s.k []))
 refine sn (rg (pu 1 [(17, I O)] ((be g) fun r27 af g => (fn) (zdW af (s.p []) (ac.give s []) fun a7 a8 W => ⟨_, rfl, have s := s.j [] [0] W; ?_⟩))))
 obtain ⟨ap, m, o, rfl⟩ := s.le 0
 refine pu 1 [(7, Sl m (r27).length o)] (nx (sq (rg (pu 5 [(23, B (((r27).length : Int) != ((v).length : Int)))] (nx (br g (fun g ah => ?_) fun g ah => ?_))))))
 ·refine rg (pu 1 [(4, I 2)] (nx (rt (tr ?_))))
  obtain rfl := ij g
  exact r1 (K _ (s.k []))
 refine sn (sq (rg (pu 3 [(24, Sl m (r27).length o), (25, I ((r27).length : Int)), (26, I 0)] (nx ((be g) fun G X g => ?_)))))
 refine ck (fun a x => ∃ (t234 : Unit), G = .inl t234 /\ Rep 56 [] a /\ St w Z x []) ?_ ?_
 ·refine bl ?_
  refine CW.loop (fun n a x => ∃ (c : Nat) (y : Unit), c + n = (r27).length /\ Rep 56 [(1, Sl Q (v).length T), (24, Sl m (r27).length o), (25, I ((r27).length : Int)), (26, I (c : Int))] a /\ St w Z x [qH (Sl m (r27).length o) 156 zb 4 r27] /\ zQ (vW v r27) (fun (y : Unit) => (.inl ())) n c y = some G) (r27).length (fun a i => ⟨0, (), Nat.zero_add _, i.ag, s.keep [0] rfl, X⟩) ?_
  rintro l a x ⟨c, y, q, i, s, b⟩
  refine go i (rg (pu 1 [(27, B (decide ((c : Int) < ((r27).length : Int))))] (nx (sq ?_))))
  rcases zft (decide ((c : Int) < ((r27).length : Int))) with h | h
  ·rcases l with _ | l
   ·exact (zb0 q h).elim
   refine ct h (sn (sq (bl (rg (pu 1 [(28, I (c : Int))] ((be b) fun f t b => ?_))))))
   obtain ⟨aq, ar, au, C⟩ := s.rowv 0 rfl t
   refine (ix 156 4 t C) ((lN (zb f) (s.rowc 0 rfl (fun _ => rfl) t C)) ((al s [I 0, U 0, U 0, I 0]) fun z av s => pu 1 [(8, I (c : Int))] ((st s 1 [I f.Ki, U f.Sp.Lo, U f.Sp.Hi, I f.Map]) fun aw s => nx (bl (sq ?_)))))
   refine CW.still (by kernel_rfl) (by kernel_rfl) ?_
   intro ax H
   have s := s.same H
   refine op' 1 [(32, Pt z)] ((od s 1) (op' 2 [(34, Sl Q (v).length T), (35, I (c : Int))] ((be b) fun A d b => ?_)))
   obtain ⟨ai, aj, ay, D⟩ := F.formv (fun _ => ⟨_, rfl⟩) d
   refine OS.idx 156 4 rfl rfl rfl rfl rfl D rfl (zh d).1 (zh d).2.1 (by kernel_rfl) (by kernel_rfl) ?_
   refine op' 1 [(37, .pointer (some ⟨ai, aj + Int.toNat (c : Int) * 4, none⟩))] ?_
   refine OS.ld rfl rfl rfl rfl rfl (by kernel_rfl) (F.cellv s d D 0 _ rfl) ?_
   refine op' 2 [(31, B (f.Ki != A.Ki))] ?_
   refine OS.fin rfl ?_
   refine qn (br b (fun b Y => ?_) fun b Y => ?_)
   ·refine rg (pu 1 [(4, I 33)] (nx (rt (bt (bt (tr (tr (bt (tr ?_)))))))))
    obtain rfl := ij b
    obtain rfl := ij g
    exact r1 (K _ (s.k []))
   refine sq ((be b) fun ak e b => ?_)
   refine ck (fun a x => Rep 56 [(1, Sl Q (v).length T), (24, Sl m (r27).length o), (25, I ((r27).length : Int)), (26, I (c : Int)), (40, B ak)] a /\ St w Z x [qH (Sl m (r27).length o) 156 zb 4 r27]) ?_ fun a x ⟨i, s⟩ => go i (br b (fun b aa => ?_) fun b aa => ?_)
   ·refine CW.tail 11 (by kernel_rfl) (by kernel_rfl) ?_
    intro az J
    have s := s.same J
    refine op' 1 [(41, Pt z)] ((od s 1) (op' 2 [(44, B (f.Ki == 1))] ?_))
    refine OS.split 44 rfl (fun u => ?_) (fun u => ?_)
    ·have e := zfr e u
     refine op' 2 [(45, Sl Q (v).length T), (46, I (c : Int))] ?_
     obtain ⟨am, an, a0, E⟩ := F.formv (fun _ => ⟨_, rfl⟩) d
     refine OS.idx 156 4 rfl rfl rfl rfl rfl E rfl (zh d).1 (zh d).2.1 (by kernel_rfl) (by kernel_rfl) ?_
     refine op' 1 [(48, .pointer (some ⟨am, an + Int.toNat (c : Int) * 4 + 1, none⟩))] ?_
     refine OS.ldN (cs := [U A.Sp.Lo, U A.Sp.Hi]) rfl rfl rfl rfl rfl (by kernel_rfl) (by kernel_rfl) (elN (F.cellv s d E) 1 2) ?_
     refine op' 1 [(50, Po z 1)] ?_
     refine OS.ldN (cs := [U f.Sp.Lo, U f.Sp.Hi]) rfl rfl rfl rfl rfl (by kernel_rfl) (by kernel_rfl) (s.blkN 1 rfl 1 2) ?_
     refine OS.on ?_
     refine (be e) fun ao ab e => (fn) (zcD ab (s.p []) fun a1 M => ⟨_, rfl, have s := s.j [] [0, 1] M; pu 3 [(40, B (!ao))] (nl ?_)⟩)
     obtain rfl := ij e
     exact me fun a i => ⟨i.ag, s.k [0]⟩
    have e := zfs e u
    refine op' 7 [(49, undef), (51, undef)] ?_
    refine OS.on ?_
    refine pu 4 [(40, B false)] (nl ?_)
    obtain rfl := ij e
    exact me fun a i => ⟨i.ag, s.k [0]⟩
   ·refine rg (pu 1 [(4, I 35)] (nx (rt (bt (bt (tr (tr (bt (tr ?_)))))))))
    obtain rfl := ij b
    obtain rfl := ij g
    exact r1 (K _ (s.k []))
   refine sk (bn (bn (qn (rn (pu 2 [(26, I (w64 ((c : Int) + 1)))] (nl ?_))))))
   refine QW.say 26 rfl (congrArg (Value.int .i64) (zq h ap)) ?_
   exact me fun a i => ⟨l, zls _, c + 1, (), zm q, i.ag, s.k [0], b⟩
  rcases l with _ | l
  ·refine cf h (ex (te (te (bh ?_))))
   obtain rfl := ij b
   exact me fun a i => ⟨(), rfl, i.ag, s.k []⟩
  exact (zb1 q h).elim
 rintro a x ⟨t234, rfl, i, s⟩
 refine go i (rg (pu 1 [(4, I 0)] (nx (rt ?_))))
 obtain rfl := ij g
 exact r1 (K _ (s.k []))
theorem zgX {w Z d r R} (a : zaG d = some r) (s : St w Z w []) (h : Rd w Z (.slice (some ⟨1, 0, none⟩) 7 7) qi 5 zbe)
  (K : ∀ w', St w Z w' [] -> R (Rt (.tuple #[Ag [I r.1.Ki, U r.1.Sp.Lo, U r.1.Sp.Hi, I r.1.Map], B r.2])) w') : Calls Tryz.prog 120 [I d].toArray w R := by
 refine sr 17 Tryz.func120 rfl (rg ((al s [I 0, U 0, U 0, I 0]) fun u v s => pu 1 [] (nx (rg (pu 1 [(7, I d)] ((be a) fun r12 e a => (fn) (zem e (s.p []) (h.give s []) fun l b => ⟨_, rfl, have s := s.j [] [0] b; pu 3 [(9, Ag [.string r12.1.name, .string r12.1.wants, U r12.1.most, I r12.1.asks, B r12.1.isAsked]), (10, B r12.2)] ((al s [.string ByteArray.empty, .string ByteArray.empty, U 0, I 0, B false]) fun i m s => (st s 1 [.string r12.1.name, .string r12.1.wants, U r12.1.most, I r12.1.asks, B r12.1.isAsked]) fun n s => pu 1 [(5, B r12.2)] (nx (sq (rg (pu 2 [(12, B (!r12.2))] (nx (br a (fun a f => ?_) fun a f => ?_)))))))⟩)))))))
 ·refine rg (pu 1 [(13, Ag [I 0, U 0, U 0, I 0])] ((st s 0 [I 0, U 0, U 0, I 0]) fun o s => pu 1 [(3, B false)] (nx (rt (tr ?_)))))
  obtain rfl := ij a
  exact QW.ret_ct rfl rfl (rl (cs := [I 0, U 0, U 0, I 0]) (s.blkN 0 rfl 0 4)) rfl (K _ (s.k []))
 refine sn (rg (pu 1 [(14, Po i 2)] ((ld s 1) ((be a) fun r27 g a => (fn) (zcE g (s.p []) fun q c => ⟨_, rfl, have s := s.j [] [0, 1] c; (st s 0 [I r27.Ki, U r27.Sp.Lo, U r27.Sp.Hi, I r27.Map]) fun t s => pu 1 [(3, B true)] (nx (rt ?_))⟩)))))
 obtain rfl := ij a
 exact QW.ret_ct rfl rfl (rl (cs := [I r27.Ki, U r27.Sp.Lo, U r27.Sp.Hi, I r27.Map]) (s.blkN 0 rfl 0 4)) rfl (K _ (s.k []))
theorem zgN {w Z e d b r R} (s : zc8 e d b = some r) (c : St w Z w [])
  (K : ∀ w', St w Z w' [] -> R (Rt (.tuple #[U r.1, B r.2])) w') : Calls Tryz.prog 62 [I e, U d, U b].toArray w R := by
 refine sr 64 Tryz.func62 rfl (rg (pu 2 [] (nx (sq (rg (pu 1 [(8, I e)] (nx (bl (rg (pu 2 [(9, B (e == 1))] (nx (br s (fun s t => ?_) fun s t => ?_))))))))))))
 ·refine rg (pu 5 [(6, U (zp (d + b))), (7, B true)] (nx (rt (bt (tr ?_)))))
  obtain rfl := ij s
  exact r2 (K _ (c.k []))
 refine rg (pu 2 [(14, B (e == 2))] (nx (br s (fun s u => ?_) fun s u => ?_)))
 ·refine rg (pu 5 [(6, U (zp (d - b))), (7, B true)] (nx (rt (bt (tr ?_)))))
  obtain rfl := ij s
  exact r2 (K _ (c.k []))
 refine rg (pu 2 [(19, B (e == 3))] (nx (br s (fun s x => ?_) fun s x => ?_)))
 ·refine rg (pu 5 [(6, U (zp (d * b))), (7, B true)] (nx (rt (bt (tr ?_)))))
  obtain rfl := ij s
  exact r2 (K _ (c.k []))
 refine rg (pu 2 [(24, B (e == 4))] (nx (br s (fun s y => ?_) fun s y => ?_)))
 ·refine sq (rg (pu 2 [(27, B (b == 0))] (nx (br s (fun s z => ?_) fun s z => ?_))))
  ·refine rg (pu 2 [(6, U 0), (7, B true)] (nx (rt (tr (bt (tr ?_))))))
   obtain rfl := ij s
   exact r2 (K _ (c.k []))
  refine sn (rg (pu 2 [(28, U d), (29, U b)] ((be s) fun u8 A s => ?_)))
  refine OW.quo rfl rfl rfl rfl rfl (zi5 A) ?_
  refine pu 2 [(6, U (zp (d.tdiv b))), (7, B true)] (nx (rt (bt (tr ?_))))
  obtain rfl := ij s
  exact r2 (K _ (c.k []))
 refine rg (pu 2 [(31, B (e == 5))] (nx (br s (fun s f => ?_) fun s f => ?_)))
 ·refine sq (rg (pu 2 [(34, B (b == 0))] (nx (br s (fun s g => ?_) fun s g => ?_))))
  ·refine rg (pu 3 [(6, U d), (7, B true)] (nx (rt (tr (bt (tr ?_))))))
   obtain rfl := ij s
   exact r2 (K _ (c.k []))
  refine sn (rg (pu 2 [(36, U d), (37, U b)] ((be s) fun C h s => ?_)))
  refine OW.rem rfl rfl rfl rfl rfl (zi5 h) ?_
  refine pu 2 [(6, U (d.tmod b)), (7, B true)] (nx (rt (bt (tr ?_))))
  obtain rfl := ij s
  exact r2 (K _ (c.k []))
 refine rg (pu 2 [(39, B (e == 6))] (nx (br s (fun s i => ?_) fun s i => ?_)))
 ·refine rg (pu 5 [(6, U (xP .u64 d b)), (7, B true)] (nx (rt (bt (tr ?_)))))
  obtain rfl := ij s
  exact r2 (K _ (c.k []))
 refine rg (pu 2 [(44, B (e == 7))] (nx (br s (fun s j => ?_) fun s j => ?_)))
 ·refine rg (pu 5 [(6, U (bOr .u64 d b)), (7, B true)] (nx (rt (bt (tr ?_)))))
  obtain rfl := ij s
  exact r2 (K _ (c.k []))
 refine rg (pu 2 [(49, B (e == 8))] (nx (br s (fun s l => ?_) fun s l => ?_)))
 ·refine rg (pu 5 [(6, U (zgg .u64 d b)), (7, B true)] (nx (rt (bt (tr ?_)))))
  obtain rfl := ij s
  exact r2 (K _ (c.k []))
 refine rg (pu 2 [(54, B (e == 9))] (nx (br s (fun s m => ?_) fun s m => ?_)))
 ·refine rg (pu 2 [(56, U d), (57, U b)] ((be s) fun D n s => ?_))
  refine OW.op (v := U (zbO .u64 d b)) rfl rfl rfl rfl (fun a o => zfQ rfl rfl rfl (zhE n) a _ o) ?_
  refine pu 2 [(6, U (zbO .u64 d b)), (7, B true)] (nx (rt (bt (tr ?_))))
  obtain rfl := ij s
  exact r2 (K _ (c.k []))
 refine rg (pu 2 [(59, B (e == 10))] (nx (br s (fun s p => ?_) fun s p => ?_)))
 ·refine rg (pu 2 [(61, U d), (62, U b)] ((be s) fun E q s => ?_))
  refine OW.op (v := U (qQ .u64 d b)) rfl rfl rfl rfl (fun a o => zeV rfl rfl rfl (zhE q) a _ o) ?_
  refine pu 2 [(6, U (qQ .u64 d b)), (7, B true)] (nx (rt (bt (tr ?_))))
  obtain rfl := ij s
  exact r2 (K _ (c.k []))
 refine sk (bn (qn (rg (pu 2 [(6, U 0), (7, B false)] (nx (rt ?_))))))
 obtain rfl := ij s
 exact r2 (K _ (c.k []))
theorem zbE {w Z a r R} (c : xd a = some r) (s : St w Z w [])
  (K : ∀ w', St w Z w' [] -> R (Rt (B r)) w') : Calls Tryz.prog 148 [Ag [U a.Lo, U a.Hi]].toArray w R := by
 refine sr 8 Tryz.func148 rfl (rg ((bx s [U a.Lo, U a.Hi]) fun b d s => pu 1 [] (nx (rg (pu 1 [(3, Pt b)] ((ld s 0) (pu 1 [(5, Po b 1)] ((ld s 0) (pu 2 [(2, B (a.Lo == a.Hi))] (nx (rt ?_)))))))))))
 obtain rfl := ij c
 exact r1 (K _ (s.k []))
theorem zi9 {w Z d e r R} (c : zc9 d e = some r) (s : St w Z w [])
  (K : ∀ w', St w Z w' [] -> R (Rt (Ag [U r.Lo, U r.Hi])) w') : Calls Tryz.prog 149 [Ag [U d.Lo, U d.Hi], Ag [U e.Lo, U e.Hi]].toArray w R := by
 refine sr 25 Tryz.func149 rfl (rg ((bx s [U d.Lo, U d.Hi]) fun l z s => (bx s [U e.Lo, U e.Hi]) fun m o s => (al s [U 0, U 0]) fun q t s => nx (rg (pu 1 [(8, Po l 1)] ((ld s 0) (pu 1 [(10, Po m 1)] ((ld s 1) ((be c) fun b g c => ?_))))))))
 refine OW.op (v := .tuple [U b.1, U b.2].toArray) rfl rfl rfl rfl (fun a n => zj3 rfl rfl rfl rfl Tryz.func168 (by kernel_rfl) (by kernel_rfl) (by kernel_rfl) (by kernel_rfl) g a _ n) ?_
 refine pu 5 [(5, U b.1), (6, U b.2)] (nx (sq (rg (pu 2 [(16, B (decide (b.2 > 0)))] (nx (br c (fun c h => ?_) fun c h => ?_))))))
 ·refine rg ((be c) fun r23 i c => (fn) (vj i (s.p []) fun u f => ⟨_, rfl, have s := s.j [] [0, 1, 2] f; (st s 2 [U r23.Lo, U r23.Hi]) fun x s => nx (rt (tr ?_))⟩))
  obtain rfl := ij c
  exact QW.ret_c rfl rfl (rl (cs := [U r23.Lo, U r23.Hi]) (s.blkN 2 rfl 0 2)) (K _ (s.k []))
 refine sn (rg (pu 1 [(18, Pt l)] ((ld s 0) (pu 1 [(20, Pt m)] ((ld s 1) (pu 3 [(24, Ag [U (zp (d.Lo + e.Lo)), U b.1])] ((st s 2 [U (zp (d.Lo + e.Lo)), U b.1]) fun y s => nx (rt ?_))))))))
 obtain rfl := ij c
 exact QW.ret_c rfl rfl (rl (cs := [U (zp (d.Lo + e.Lo)), U b.1]) (s.blkN 2 rfl 0 2)) (K _ (s.k []))
theorem zhN {w Z s a r R} (c : zd9 s a = some r) (b : St w Z w [])
  (K : ∀ w', St w Z w' [] -> R (Rt (.tuple #[U r.1, U r.2])) w') : Calls Tryz.prog 169 [U s, U a].toArray w R := by
 refine sr 51 Tryz.func169 rfl (rg (pu 2 [] (nx (rg (pu 3 [(6, U (xP .u64 s 4294967295))] (nx (rg (pu 3 [(7, U (qQ .u64 s 32))] (nx (rg (pu 3 [(8, U (xP .u64 a 4294967295))] (nx (rg (pu 3 [(9, U (qQ .u64 a 32))] (nx (rg (pu 4 [(10, U (zp ((xP .u64 s 4294967295) * (xP .u64 a 4294967295))))] (nx (rg (pu 7 [(11, U (zp ((zp ((qQ .u64 s 32) * (xP .u64 a 4294967295))) + (qQ .u64 (zp ((xP .u64 s 4294967295) * (xP .u64 a 4294967295))) 32))))] (nx (rg (pu 3 [(12, U (xP .u64 (zp ((zp ((qQ .u64 s 32) * (xP .u64 a 4294967295))) + (qQ .u64 (zp ((xP .u64 s 4294967295) * (xP .u64 a 4294967295))) 32))) 4294967295))] (nx (rg (pu 3 [(13, U (qQ .u64 (zp ((zp ((qQ .u64 s 32) * (xP .u64 a 4294967295))) + (qQ .u64 (zp ((xP .u64 s 4294967295) * (xP .u64 a 4294967295))) 32))) 32))] (nx (rg (pu 6 [(12, U (zp ((xP .u64 (zp ((zp ((qQ .u64 s 32) * (xP .u64 a 4294967295))) + (qQ .u64 (zp ((xP .u64 s 4294967295) * (xP .u64 a 4294967295))) 32))) 4294967295) + (zp ((xP .u64 s 4294967295) * (qQ .u64 a 32))))))] (nx (rg (pu 9 [(4, U (zp ((zp ((zp ((qQ .u64 s 32) * (qQ .u64 a 32))) + (qQ .u64 (zp ((zp ((qQ .u64 s 32) * (xP .u64 a 4294967295))) + (qQ .u64 (zp ((xP .u64 s 4294967295) * (xP .u64 a 4294967295))) 32))) 32))) + (qQ .u64 (zp ((xP .u64 (zp ((zp ((qQ .u64 s 32) * (xP .u64 a 4294967295))) + (qQ .u64 (zp ((xP .u64 s 4294967295) * (xP .u64 a 4294967295))) 32))) 4294967295) + (zp ((xP .u64 s 4294967295) * (qQ .u64 a 32))))) 32))))] (nx (rg (pu 4 [(5, U (zp (s * a)))] (nx (rt ?_)))))))))))))))))))))))))))))))))))))
 obtain rfl := ij c
 exact r2 (K _ (b.k []))
theorem zgO {w Z b c r R} (a : vK b c = some r) (s : St w Z w [])
  (K : ∀ w', St w Z w' [] -> R (Rt (Ag [U r.Lo, U r.Hi])) w') : Calls Tryz.prog 150 [Ag [U b.Lo, U b.Hi], Ag [U c.Lo, U c.Hi]].toArray w R := by
 refine sr 25 Tryz.func150 rfl (rg ((bx s [U b.Lo, U b.Hi]) fun i x s => (bx s [U c.Lo, U c.Hi]) fun l m s => (al s [U 0, U 0]) fun n o s => nx (rg (pu 1 [(8, Po i 1)] ((ld s 0) (pu 1 [(10, Po l 1)] ((ld s 1) ((be a) fun r17 f a => (fn) (zhN f (s.p []) fun q d => ⟨_, rfl, have s := s.j [] [0, 1, 2] d; pu 5 [(5, U r17.1), (6, U r17.2)] (nx (sq (rg (pu 2 [(16, B (decide (r17.1 > 0)))] (nx (br a (fun a g => ?_) fun a g => ?_))))))⟩)))))))))
 ·refine rg ((be a) fun r27 h a => (fn) (vj h (s.p []) fun t e => ⟨_, rfl, have s := s.j [] [0, 1, 2] e; (st s 2 [U r27.Lo, U r27.Hi]) fun u s => nx (rt (tr ?_))⟩))
  obtain rfl := ij a
  exact QW.ret_c rfl rfl (rl (cs := [U r27.Lo, U r27.Hi]) (s.blkN 2 rfl 0 2)) (K _ (s.k []))
 refine sn (rg (pu 1 [(18, Pt i)] ((ld s 0) (pu 1 [(20, Pt l)] ((ld s 1) (pu 3 [(24, Ag [U (zp (b.Lo * c.Lo)), U r17.2])] ((st s 2 [U (zp (b.Lo * c.Lo)), U r17.2]) fun v s => nx (rt ?_))))))))
 obtain rfl := ij a
 exact QW.ret_c rfl rfl (rl (cs := [U (zp (b.Lo * c.Lo)), U r17.2]) (s.blkN 2 rfl 0 2)) (K _ (s.k []))
theorem zgP {w Z a b r R} (c : vL a b = some r) (s : St w Z w [])
  (K : ∀ w', St w Z w' [] -> R (Rt (Ag [U r.Lo, U r.Hi])) w') : Calls Tryz.prog 151 [Ag [U a.Lo, U a.Hi], Ag [U b.Lo, U b.Hi]].toArray w R := by
 refine sr 22 Tryz.func151 rfl (rg ((bx s [U a.Lo, U a.Hi]) fun e u s => (bx s [U b.Lo, U b.Hi]) fun f j s => (al s [U 0, U 0]) fun l m s => nx (sq (rg (pu 1 [(5, Pt f)] ((ld s 1) (pu 1 [(7, B (b.Lo == 0))] (nx (br c (fun c g => ?_) fun c g => ?_)))))))))
 ·refine rg (pu 1 [(8, Po e 1)] ((ld s 0) (pu 1 [(10, Ag [U 0, U a.Hi])] ((st s 2 [U 0, U a.Hi]) fun n s => nx (rt (tr ?_))))))
  obtain rfl := ij c
  exact QW.ret_c rfl rfl (rl (cs := [U 0, U a.Hi]) (s.blkN 2 rfl 0 2)) (K _ (s.k []))
 refine sn (sq ?_)
 refine CW.tail 11 (by kernel_rfl) (by kernel_rfl) ?_
 intro o d
 have s := s.same d
 refine op' 1 [(11, Pt e)] ((od s 0) (op' 1 [(13, Po f 1)] ((od s 1) ((be c) fun p h c => ?_))))
 refine OS.quo rfl rfl rfl rfl rfl rfl (zi5 h) ?_
 refine op' 1 [(16, Po e 1)] ((od s 0) (op' 1 [(18, Pt f)] ((od s 1) ((be c) fun q i c => ?_))))
 refine OS.quo rfl rfl rfl rfl rfl rfl (zi5 i) ?_
 refine op' 1 [(21, Ag [U (zp (a.Lo.tdiv b.Hi)), U (zp (a.Hi.tdiv b.Lo))])] ?_
 refine OS.on ?_
 refine (st s 2 [U (zp (a.Lo.tdiv b.Hi)), U (zp (a.Hi.tdiv b.Lo))]) fun t s => nx (rt ?_)
 obtain rfl := ij c
 exact QW.ret_c rfl rfl (rl (cs := [U (zp (a.Lo.tdiv b.Hi)), U (zp (a.Hi.tdiv b.Lo))]) (s.blkN 2 rfl 0 2)) (K _ (s.k []))
theorem zin {w Z a b r R} (c : zb3 a b = some r) (s : St w Z w [])
  (K : ∀ w', St w Z w' [] -> R (Rt (Ag [U r.Lo, U r.Hi])) w') : Calls Tryz.prog 152 [Ag [U a.Lo, U a.Hi], Ag [U b.Lo, U b.Hi]].toArray w R := by
 refine sr 26 Tryz.func152 rfl (rg ((bx s [U a.Lo, U a.Hi]) fun d o s => (bx s [U b.Lo, U b.Hi]) fun e h s => (al s [U 0, U 0]) fun i j s => nx (sq (bl (rg (pu 1 [(6, Pt e)] ((ld s 1) (pu 2 [(5, B (b.Lo == 0))] (nx (br c (fun c f => ?_) fun c f => ?_))))))))))
 ·refine rg (pu 1 [(9, Po d 1)] ((ld s 0) (pu 1 [(11, Ag [U 0, U a.Hi])] ((st s 2 [U 0, U a.Hi]) fun l s => nx (rt (bt (tr ?_)))))))
  obtain rfl := ij c
  exact QW.ret_c rfl rfl (rl (cs := [U 0, U a.Hi]) (s.blkN 2 rfl 0 2)) (K _ (s.k []))
 refine rg (pu 1 [(13, Po d 1)] ((ld s 0) (pu 1 [(15, Pt e)] ((ld s 1) (pu 2 [(12, B (decide (a.Hi < b.Lo)))] (nx (br c (fun c g => ?_) fun c g => ?_)))))))
 ·refine rg ((lN [U a.Lo, U a.Hi] (s.blkN 0 rfl 0 2)) ((st s 2 [U a.Lo, U a.Hi]) fun m s => nx (rt (bt (tr ?_)))))
  obtain rfl := ij c
  exact QW.ret_c rfl rfl (rl (cs := [U a.Lo, U a.Hi]) (s.blkN 2 rfl 0 2)) (K _ (s.k []))
 refine sk (bn (qn (rg (pu 1 [(19, Po d 1)] ((ld s 0) (pu 1 [(21, Po e 1)] ((ld s 1) (pu 3 [(25, Ag [U 0, U (vH a.Hi (zp (b.Hi - 1)))])] ((st s 2 [U 0, U (vH a.Hi (zp (b.Hi - 1)))]) fun n s => nx (rt ?_))))))))))
 obtain rfl := ij c
 exact QW.ret_c rfl rfl (rl (cs := [U 0, U (vH a.Hi (zp (b.Hi - 1)))]) (s.blkN 2 rfl 0 2)) (K _ (s.k []))
theorem zdp {w Z l r R} (d : zcH l = some r) (b : St w Z w [])
  (K : ∀ w', St w Z w' [] -> R (Rt (I r)) w') : Calls Tryz.prog 137 [U l].toArray w R := by
 refine sr 25 Tryz.func137 rfl (rg (pu 1 [(2, I 0)] (nx (sq (rg (pu 2 [(4, B (decide (l >= 4294967296)))] (nx ((be d) fun i e d => ?_))))))))
 refine ck (fun a f => Rep 25 [(0, U i.1), (2, I i.2)] a /\ St w Z f []) ?_ fun a f ⟨s, b⟩ => go s (sq (rg (pu 2 [(8, B (decide (i.1 >= 65536)))] (nx ((be d) fun j g d => ?_)))))
 ·refine br e (fun e p => ?_) fun e p => ?_
  ·refine rg (pu 3 [(0, U (qQ .u64 l 32))] (nx (rn (pu 1 [(2, I 32)] (nl ?_)))))
   obtain rfl := ij e
   exact me fun a s => ⟨s.ag, b.k []⟩
  refine sk ?_
  obtain rfl := ij e
  exact me fun a s => ⟨s.ag, b.k []⟩
 refine ck (fun a f => Rep 25 [(0, U j.1), (2, I j.2)] a /\ St w Z f []) ?_ fun a f ⟨s, b⟩ => go s (sq (rg (pu 2 [(14, B (decide (j.1 >= 256)))] (nx ((be d) fun h c d => ?_)))))
 ·refine br g (fun g q => ?_) fun g q => ?_
  ·refine rg (pu 3 [(0, U (qQ .u64 i.1 16))] (nx (rn (pu 3 [(2, I (w64 (i.2 + 16)))] (nl ?_)))))
   obtain rfl := ij g
   exact me fun a s => ⟨s.ag, b.k []⟩
  refine sk ?_
  obtain rfl := ij g
  exact me fun a s => ⟨s.ag, b.k []⟩
 refine ck (fun a f => Rep 25 [(0, U h.1), (2, I h.2)] a /\ St w Z f []) ?_ fun a f ⟨s, b⟩ => go s (rg (pu 3 [(19, I h.2), (21, .int .u8 (IntKind.u8.wrap h.1))] ((be d) fun m n d => ?_)))
 ·refine br c (fun c o => ?_) fun c o => ?_
  ·refine rg (pu 3 [(0, U (qQ .u64 j.1 8))] (nx (rn (pu 3 [(2, I (w64 (j.2 + 8)))] (nl ?_)))))
   obtain rfl := ij c
   exact me fun a s => ⟨s.ag, b.k []⟩
  refine sk ?_
  obtain rfl := ij c
  exact me fun a s => ⟨s.ag, b.k []⟩
 refine OW.op (v := .int .u8 m) rfl rfl rfl rfl (fun a s => zhB rfl rfl rfl (by kernel_rfl) n a _ s) ?_
 refine pu 3 [(2, I (w64 (h.2 + (w64 m))))] (nx (rt ?_))
 obtain rfl := ij d
 exact r1 (K _ (b.k []))
theorem zfZ {w Z d r R} (b : zaY d = some r) (s : St w Z w [])
  (K : ∀ w', St w Z w' [] -> R (Rt (U r)) w') : Calls Tryz.prog 153 [U d].toArray w R := by
 refine sr 7 Tryz.func153 rfl (rg (pu 1 [] (nx (rg (pu 1 [(3, U d)] ((be b) fun f g b => (fn) (zdp g (s.p []) fun l c => ⟨_, rfl, have s := s.j [] [] c; (be b) fun i e b => ?_⟩)))))))
 refine OW.op (v := U (zbO .u64 1 f)) rfl rfl rfl rfl (fun a h => zfQ rfl rfl rfl (zhE e) a _ h) ?_
 refine pu 2 [(2, U (zp ((zbO .u64 1 f) - 1)))] (nx (rt ?_))
 obtain rfl := ij b
 exact r1 (K _ (s.k []))
theorem zio {w Z d c r R} (e : zbJ d c = some r) (s : St w Z w [])
  (K : ∀ w', St w Z w' [] -> R (Rt (Ag [U r.Lo, U r.Hi])) w') : Calls Tryz.prog 154 [Ag [U d.Lo, U d.Hi], Ag [U c.Lo, U c.Hi]].toArray w R := by
 refine sr 41 Tryz.func154 rfl (rg ((bx s [U d.Lo, U d.Hi]) fun n w8 s => (bx s [U c.Lo, U c.Hi]) fun o V s => (al s [U 0, U 0]) fun z W s => nx (sq (sq ((be e) fun J b e => ?_)))))
 refine ck (fun a M => Rep 41 [(2, Pt n), (3, Pt o), (4, Pt z), (28, B J)] a /\ St w Z M [zs n 154 [U d.Lo, U d.Hi], zs o 154 [U c.Lo, U c.Hi], zs z 154 [U 0, U 0]]) ?_ fun a M ⟨f, s⟩ => go f (br e (fun e A => ?_) fun e A => ?_)
 ·refine CW.plan (by kernel_rfl) ?_
  intro X q
  have s := s.same q
  refine OA.ldN (i := 0) (cs := [U c.Lo, U c.Hi]) rfl (by kernel_rfl) rfl rfl rfl (by kernel_rfl) (by kernel_rfl) (s.blkN 1 rfl 0 2) ?_
  refine (aa 1 []) ((be b) fun O C b => (fn) (zbE C (s.p []) fun Y t => ⟨_, rfl, have s := s.j [] [0, 1, 2] t; ?_⟩))
  refine OA.next trivial ?_
  refine ap [2, 3] [(8, B (!O))] ?_
  refine OA.split 8 rfl (fun g => ?_) (fun g => ?_)
  ·have b := zfr b g
   refine ap [4, 5, 6, 7, 8, 9, 10, 11, 12, 13, 14, 15, 16, 17, 18, 19, 20, 21, 22, 23] [(28, B true)] (aF ?_)
   obtain rfl := ij b
   exact me fun a f => ⟨f.ag, s.k [0, 1, 2]⟩
  have b := zfs b g
  refine ap [4] [(9, Po n 1)] ((ad 5 s 0) ((aa 6 []) ((be b) fun Q D b => (fn) (zdp D (s.p []) fun ab u => ⟨_, rfl, have s := s.j [] [0, 1, 2] u; ?_⟩))))
  refine OA.next trivial ?_
  refine ap [7, 8] [(13, B (decide (Q > 0)))] ?_
  refine OA.split 13 rfl (fun h => ?_) (fun h => ?_)
  ·have b := zfr b h
   refine ap [9] [(14, Pt o)] ((ad 10 s 1) (ap [11, 12] [(17, B (decide (c.Lo > 64)))] ?_))
   refine OA.split 17 rfl (fun l => ?_) (fun l => ?_)
   ·have b := zfr b l
    refine ap [13, 14, 15, 16, 17, 18, 19, 20, 21, 22, 23] [(28, B true)] (aF ?_)
    obtain rfl := ij b
    exact me fun a f => ⟨f.ag, s.k [0, 1, 2]⟩
   have b := zfs b l
   refine ap [13] [(18, Po n 1)] ((ad 14 s 0) (ap [17] [(22, Pt o)] ((ad 18 s 1) ((aa 15 [18]) ((be b) fun T E b => (fn) (zdp E (s.p []) fun ac x => ⟨_, rfl, have s := s.j [] [0, 1, 2] x; ?_⟩))))))
   refine OA.next ⟨(s.blk 1 rfl rfl), trivial⟩ ?_
   refine ap [16, 19, 20, 21, 22, 23] [(28, B (decide ((zp ((zp T) + c.Lo)) > 64)))] (aF ?_)
   obtain rfl := ij b
   exact me fun a f => ⟨f.ag, s.k [0, 1, 2]⟩
  have b := zfs b h
  refine ap [9, 10, 11, 12, 13, 14, 15, 16, 17, 18, 19, 20, 21, 22, 23] [(28, B false)] (aF ?_)
  obtain rfl := ij b
  exact me fun a f => ⟨f.ag, s.k [0, 1, 2]⟩
 ·refine rg ((be e) fun m F e => (fn) (vj F (s.p []) fun ae y => ⟨_, rfl, have s := s.j [] [0, 1, 2] y; (st s 2 [U m.Lo, U m.Hi]) fun af s => nx (rt (tr ?_))⟩))
  obtain rfl := ij e
  exact QW.ret_c rfl rfl (rl (cs := [U m.Lo, U m.Hi]) (s.blkN 2 rfl 0 2)) (K _ (s.k []))
 refine sn (rg (pu 1 [(30, Pt n)] ((ld s 0) (pu 1 [(32, Pt o)] ((ld s 1) ((be e) fun ah G e => ?_))))))
 refine OW.op (v := U (zbO .u64 d.Lo c.Lo)) rfl rfl rfl rfl (fun a f => zfQ rfl rfl rfl (zhE G) a _ f) ?_
 refine pu 1 [(35, Po n 1)] ((ld s 0) (pu 1 [(37, Pt o)] ((ld s 1) ((be e) fun ai H e => ?_))))
 refine OW.op (v := U (zbO .u64 d.Hi c.Lo)) rfl rfl rfl rfl (fun a f => zfQ rfl rfl rfl (zhE H) a _ f) ?_
 refine pu 1 [(40, Ag [U (zbO .u64 d.Lo c.Lo), U (zbO .u64 d.Hi c.Lo)])] ((st s 2 [U (zbO .u64 d.Lo c.Lo), U (zbO .u64 d.Hi c.Lo)]) fun aj s => nx (rt ?_))
 obtain rfl := ij e
 exact QW.ret_c rfl rfl (rl (cs := [U (zbO .u64 d.Lo c.Lo), U (zbO .u64 d.Hi c.Lo)]) (s.blkN 2 rfl 0 2)) (K _ (s.k []))
theorem zj1 {w Z h c d r R} (b : zdG h c d = some r) (s : St w Z w [])
  (K : ∀ w', St w Z w' [] -> R (Rt (.tuple #[Ag [U r.1.Lo, U r.1.Hi], B r.2])) w') : Calls Tryz.prog 121 [I h, Ag [U c.Lo, U c.Hi], Ag [U d.Lo, U d.Hi]].toArray w R := by
 refine sr 127 Tryz.func121 rfl (rg ((bx s [U c.Lo, U c.Hi]) fun i w8 s => (bx s [U d.Lo, U d.Hi]) fun l b4 s => (al s [U 0, U 0]) fun m b5 s => pu 1 [] (nx (rg (pu 2 [(11, I h), (12, Pt i)] ((ld s 0) (pu 1 [(14, Pt l)] ((ld s 1) ((be b) fun r17 aq b => (fn) (zgN aq (s.p []) fun b6 F => ⟨_, rfl, have s := s.j [] [0, 1, 2] F; pu 5 [(8, U r17.1), (9, B r17.2)] (nx (sq (sq ((be b) fun a7 e b => ?_))))⟩))))))))))
 refine ck (fun a t => Rep 127 [(0, I h), (4, Pt i), (5, Pt l), (6, Pt m), (8, U r17.1), (30, B a7)] a /\ St w Z t [zs i 154 [U c.Lo, U c.Hi], zs l 154 [U d.Lo, U d.Hi], zs m 154 [U 0, U 0]]) ?_ fun a t ⟨g, s⟩ => go g (br b (fun b ar => ?_) fun b ar => ?_)
 ·refine rn (pu 3 [(21, B (!r17.2))] (si 21 e (fun e au => ?_) fun e au => ?_))
  ·refine pu 9 [(30, B true)] (nl ?_)
   obtain rfl := ij e
   exact me fun a g => ⟨g.ag, s.k [0, 1, 2]⟩
  refine (lN [U c.Lo, U c.Hi] (s.blkN 0 rfl 0 2)) ((be e) fun a8 av e => (fn) (xQ av (s.p []) fun b8 G => ⟨_, rfl, have s := s.j [] [0, 1, 2] G; pu 3 [(26, B (!a8))] (si 26 e (fun e aw => ?_) fun e aw => ?_)⟩))
  ·refine pu 4 [(30, B true)] (nl ?_)
   obtain rfl := ij e
   exact me fun a g => ⟨g.ag, s.k [0, 1, 2]⟩
  refine (lN [U d.Lo, U d.Hi] (s.blkN 1 rfl 0 2)) ((be e) fun a9 ax e => (fn) (xQ ax (s.p []) fun ca H => ⟨_, rfl, have s := s.j [] [0, 1, 2] H; pu 2 [(30, B (!a9))] (nl ?_)⟩))
  obtain rfl := ij e
  exact me fun a g => ⟨g.ag, s.k [0, 1, 2]⟩
 ·refine rg (pu 1 [(31, Ag [U 0, U 0])] ((st s 2 [U 0, U 0]) fun cb s => pu 1 [(7, B false)] (nx (rt (tr ?_)))))
  obtain rfl := ij b
  exact QW.ret_ct rfl rfl (rl (cs := [U 0, U 0]) (s.blkN 2 rfl 0 2)) rfl (K _ (s.k []))
 refine sn (sq (sq ((be b) fun ba f b => ?_)))
 refine ck (fun a t => Rep 127 [(0, I h), (4, Pt i), (5, Pt l), (6, Pt m), (8, U r17.1), (37, B ba)] a /\ St w Z t [zs i 154 [U c.Lo, U c.Hi], zs l 154 [U d.Lo, U d.Hi], zs m 154 [U 0, U 0]]) ?_ fun a t ⟨g, s⟩ => go g (br b (fun b ay => ?_) fun b ay => ?_)
 ·refine rn ((lN [U c.Lo, U c.Hi] (s.blkN 0 rfl 0 2)) ((be f) fun bb az f => (fn) (zbE az (s.p []) fun cc J => ⟨_, rfl, have s := s.j [] [0, 1, 2] J; pu 1 [(34, B bb)] (si 34 f (fun f a0 => ?_) fun f a0 => ?_)⟩)))
  ·refine (lN [U d.Lo, U d.Hi] (s.blkN 1 rfl 0 2)) ((be f) fun bc a1 f => (fn) (zbE a1 (s.p []) fun cd M => ⟨_, rfl, have s := s.j [] [0, 1, 2] M; pu 1 [(37, B bc)] (nl ?_)⟩))
   obtain rfl := ij f
   exact me fun a g => ⟨g.ag, s.k [0, 1, 2]⟩
  refine pu 3 [(37, B false)] (nl ?_)
  obtain rfl := ij f
  exact me fun a g => ⟨g.ag, s.k [0, 1, 2]⟩
 ·refine rg (pu 1 [(38, U r17.1)] ((be b) fun n a2 b => (fn) (zeH a2 (s.p []) fun ce O => ⟨_, rfl, have s := s.j [] [0, 1, 2] O; (st s 2 [U n.Lo, U n.Hi]) fun cf s => pu 1 [(7, B true)] (nx (rt (tr ?_)))⟩)))
  obtain rfl := ij b
  exact QW.ret_ct rfl rfl (rl (cs := [U n.Lo, U n.Hi]) (s.blkN 2 rfl 0 2)) rfl (K _ (s.k []))
 refine sn (sq (rg (pu 1 [(40, I h)] (nx (bl (rg (pu 2 [(41, B (h == 1))] (nx (br b (fun b a3 => ?_) fun b a3 => ?_)))))))))
 ·refine rg ((lN [U c.Lo, U c.Hi] (s.blkN 0 rfl 0 2)) ((lN [U d.Lo, U d.Hi] (s.blkN 1 rfl 0 2)) ((be b) fun o a4 b => (fn) (zi9 a4 (s.p []) fun cg Q => ⟨_, rfl, have s := s.j [] [0, 1, 2] Q; (st s 2 [U o.Lo, U o.Hi]) fun ch s => pu 1 [(7, B true)] (nx (rt (bt (tr ?_))))⟩))))
  obtain rfl := ij b
  exact QW.ret_ct rfl rfl (rl (cs := [U o.Lo, U o.Hi]) (s.blkN 2 rfl 0 2)) rfl (K _ (s.k []))
 refine rg (pu 2 [(46, B (h == 2))] (nx (br b (fun b a5 => ?_) fun b a5 => ?_)))
 ·refine sq (rg (pu 1 [(48, Pt i)] ((ld s 0) (pu 1 [(50, Po l 1)] ((ld s 1) (pu 1 [(52, B (decide (c.Lo < d.Hi)))] (nx (br b (fun b a6 => ?_) fun b a6 => ?_))))))))
  ·refine rg ((be b) fun q T b => (fn) (vj T (s.p []) fun bd u => ⟨_, rfl, have s := s.j [] [0, 1, 2] u; (st s 2 [U q.Lo, U q.Hi]) fun bf s => pu 1 [(7, B true)] (nx (rt (tr (bt (tr ?_)))))⟩))
   obtain rfl := ij b
   exact QW.ret_ct rfl rfl (rl (cs := [U q.Lo, U q.Hi]) (s.blkN 2 rfl 0 2)) rfl (K _ (s.k []))
  refine sn (rg (pu 1 [(54, Pt i)] ((ld s 0) (pu 1 [(56, Po l 1)] ((ld s 1) (pu 2 [(58, U (zp (c.Lo - d.Hi))), (59, Po i 1)] ((ld s 0) (pu 1 [(61, Pt l)] ((ld s 1) (pu 2 [(64, Ag [U (zp (c.Lo - d.Hi)), U (zp (c.Hi - d.Lo))])] ((st s 2 [U (zp (c.Lo - d.Hi)), U (zp (c.Hi - d.Lo))]) fun bg s => pu 1 [(7, B true)] (nx (rt (bt (tr ?_)))))))))))))))
  obtain rfl := ij b
  exact QW.ret_ct rfl rfl (rl (cs := [U (zp (c.Lo - d.Hi)), U (zp (c.Hi - d.Lo))]) (s.blkN 2 rfl 0 2)) rfl (K _ (s.k []))
 refine rg (pu 2 [(65, B (h == 3))] (nx (br b (fun b V => ?_) fun b V => ?_)))
 ·refine rg ((lN [U c.Lo, U c.Hi] (s.blkN 0 rfl 0 2)) ((lN [U d.Lo, U d.Hi] (s.blkN 1 rfl 0 2)) ((be b) fun r112 W b => (fn) (zgO W (s.p []) fun bh x => ⟨_, rfl, have s := s.j [] [0, 1, 2] x; (st s 2 [U r112.Lo, U r112.Hi]) fun bi s => pu 1 [(7, B true)] (nx (rt (bt (tr ?_))))⟩))))
  obtain rfl := ij b
  exact QW.ret_ct rfl rfl (rl (cs := [U r112.Lo, U r112.Hi]) (s.blkN 2 rfl 0 2)) rfl (K _ (s.k []))
 refine rg (pu 2 [(70, B (h == 4))] (nx (br b (fun b X => ?_) fun b X => ?_)))
 ·refine rg ((lN [U c.Lo, U c.Hi] (s.blkN 0 rfl 0 2)) ((lN [U d.Lo, U d.Hi] (s.blkN 1 rfl 0 2)) ((be b) fun r123 Y b => (fn) (zgP Y (s.p []) fun bj y => ⟨_, rfl, have s := s.j [] [0, 1, 2] y; (st s 2 [U r123.Lo, U r123.Hi]) fun bk s => pu 1 [(7, B true)] (nx (rt (bt (tr ?_))))⟩))))
  obtain rfl := ij b
  exact QW.ret_ct rfl rfl (rl (cs := [U r123.Lo, U r123.Hi]) (s.blkN 2 rfl 0 2)) rfl (K _ (s.k []))
 refine rg (pu 2 [(75, B (h == 5))] (nx (br b (fun b ab => ?_) fun b ab => ?_)))
 ·refine rg ((lN [U c.Lo, U c.Hi] (s.blkN 0 rfl 0 2)) ((lN [U d.Lo, U d.Hi] (s.blkN 1 rfl 0 2)) ((be b) fun r134 ac b => (fn) (zin ac (s.p []) fun bm z => ⟨_, rfl, have s := s.j [] [0, 1, 2] z; (st s 2 [U r134.Lo, U r134.Hi]) fun bo s => pu 1 [(7, B true)] (nx (rt (bt (tr ?_))))⟩))))
  obtain rfl := ij b
  exact QW.ret_ct rfl rfl (rl (cs := [U r134.Lo, U r134.Hi]) (s.blkN 2 rfl 0 2)) rfl (K _ (s.k []))
 refine rg (pu 2 [(80, B (h == 6))] (nx (br b (fun b ae => ?_) fun b ae => ?_)))
 ·refine rg (pu 1 [(82, Po i 1)] ((ld s 0) (pu 1 [(84, Po l 1)] ((ld s 1) (pu 2 [(87, Ag [U 0, U (vH c.Hi d.Hi)])] ((st s 2 [U 0, U (vH c.Hi d.Hi)]) fun bp s => pu 1 [(7, B true)] (nx (rt (bt (tr ?_))))))))))
  obtain rfl := ij b
  exact QW.ret_ct rfl rfl (rl (cs := [U 0, U (vH c.Hi d.Hi)]) (s.blkN 2 rfl 0 2)) rfl (K _ (s.k []))
 refine rg (pu 2 [(88, B (h == 7))] (nx (br b (fun b af => ?_) fun b af => ?_)))
 ·refine sq ?_
  refine CW.plan (by kernel_rfl) ?_
  intro bq A
  have s := s.same A
  refine ap [0] [(90, Pt i)] ((ad 1 s 0) (ap [2] [(92, Pt l)] ((ad 3 s 1) (ap [4, 5] [(94, U (zay c.Lo d.Lo)), (95, Po i 1)] ((ad 6 s 0) (ap [7] [(97, Po l 1)] ((ad 8 s 1) (ap [9] [(99, U (bOr .u64 c.Hi d.Hi))] ((aa 10 [3, 1]) ((be b) fun r152 ah b => (fn) (zfZ ah (s.p []) fun bs C => ⟨_, rfl, have s := s.j [] [0, 1, 2] C; ?_⟩)))))))))))
  refine OA.next ⟨(s.blk 1 rfl rfl), (s.blk 0 rfl rfl), trivial⟩ ?_
  refine ap [11] [(101, Ag [U (zay c.Lo d.Lo), U r152])] ((aa 12 []) ((st s 2 [U (zay c.Lo d.Lo), U r152]) fun bu s => ?_))
  refine OA.next trivial ?_
  refine (aa 13 []) (pu 1 [(7, B true)] ?_)
  refine OA.next trivial ?_
  refine aF (qn (rt (bt (tr ?_))))
  obtain rfl := ij b
  exact QW.ret_ct rfl rfl (rl (cs := [U (zay c.Lo d.Lo), U r152]) (s.blkN 2 rfl 0 2)) rfl (K _ (s.k []))
 refine rg (pu 2 [(102, B (h == 8))] (nx (br b (fun b ai => ?_) fun b ai => ?_)))
 ·refine rg (pu 1 [(104, Po i 1)] ((ld s 0) (pu 1 [(106, Po l 1)] ((ld s 1) (pu 1 [(108, U (bOr .u64 c.Hi d.Hi))] ((be b) fun r163 aj b => (fn) (zfZ aj (s.p []) fun bv D => ⟨_, rfl, have s := s.j [] [0, 1, 2] D; pu 1 [(110, Ag [U 0, U r163])] ((st s 2 [U 0, U r163]) fun bw s => pu 1 [(7, B true)] (nx (rt (bt (tr ?_)))))⟩)))))))
  obtain rfl := ij b
  exact QW.ret_ct rfl rfl (rl (cs := [U 0, U r163]) (s.blkN 2 rfl 0 2)) rfl (K _ (s.k []))
 refine rg (pu 2 [(111, B (h == 9))] (nx (br b (fun b ak => ?_) fun b ak => ?_)))
 ·refine rg ((lN [U c.Lo, U c.Hi] (s.blkN 0 rfl 0 2)) ((lN [U d.Lo, U d.Hi] (s.blkN 1 rfl 0 2)) ((be b) fun r174 am b => (fn) (zio am (s.p []) fun bz E => ⟨_, rfl, have s := s.j [] [0, 1, 2] E; (st s 2 [U r174.Lo, U r174.Hi]) fun b0 s => pu 1 [(7, B true)] (nx (rt (bt (tr ?_))))⟩))))
  obtain rfl := ij b
  exact QW.ret_ct rfl rfl (rl (cs := [U r174.Lo, U r174.Hi]) (s.blkN 2 rfl 0 2)) rfl (K _ (s.k []))
 refine sk (bn (qn (rg (pu 1 [(116, Pt i)] ((ld s 0) (pu 1 [(118, Po l 1)] ((ld s 1) ((be b) fun b1 an b => ?_))))))))
 refine OW.op (v := U (qQ .u64 c.Lo d.Hi)) rfl rfl rfl rfl (fun a g => zeV rfl rfl rfl (zhE an) a _ g) ?_
 refine pu 1 [(121, Po i 1)] ((ld s 0) (pu 1 [(123, Pt l)] ((ld s 1) ((be b) fun b2 ao b => ?_))))
 refine OW.op (v := U (qQ .u64 c.Hi d.Lo)) rfl rfl rfl rfl (fun a g => zeV rfl rfl rfl (zhE ao) a _ g) ?_
 refine pu 1 [(126, Ag [U (qQ .u64 c.Lo d.Hi), U (qQ .u64 c.Hi d.Lo)])] ((st s 2 [U (qQ .u64 c.Lo d.Hi), U (qQ .u64 c.Hi d.Lo)]) fun b3 s => pu 1 [(7, B true)] (nx (rt ?_)))
 obtain rfl := ij b
 exact QW.ret_ct rfl rfl (rl (cs := [U (qQ .u64 c.Lo d.Hi), U (qQ .u64 c.Hi d.Lo)]) (s.blkN 2 rfl 0 2)) rfl (K _ (s.k []))
theorem zfC {w Z wb Sb fu v0 S0 t p1 r R} (c : jV fu t p1 = some r) (s : St w Z w [itI (vr wb Sb) [v0] S0 t]) (hb : Bor wb Sb w Z) (e1 : Rd w Z (.slice (some ⟨0, 0, none⟩) 23 23) zJ 2 vJ) (a9 : Rd w Z (.slice (some ⟨1, 0, none⟩) 7 7) qi 5 zbe)
  (K : ∀ (s0 : List Nat) w', St w Z w' [itI (vr wb Sb) [v0] s0 t] -> R (Rt (.tuple #[.agg (jU (zb) 8 r.1).toArray, I r.2])) w') : Calls Tryz.prog 76 [v0, I p1].toArray w R := by
 refine sr 194 Tryz.func76 rfl ?_
 obtain ⟨O, rfl⟩ := s.fq 0
 refine rg ((al s [I 0, U 0, U 0, I 0, I 0, U 0, U 0, I 0, I 0, U 0, U 0, I 0, I 0, U 0, U 0, I 0, I 0, U 0, U 0, I 0, I 0, U 0, U 0, I 0, I 0, U 0, U 0, I 0, I 0, U 0, U 0, I 0]) fun b4 w5 s => pu 1 [] (nx (sq ?_)))
 obtain ⟨v6, S7, v8, S9, jw, jx, jy, jz, j0, j1, s⟩ := s.o5 0
 have an := s.borOut 2 rfl
 have cp := an.bor hb
 have ao := s.borOut 3 rfl
 have C := ao.bor hb
 refine have s := s.t1 4; have s := s.t1 5; have s := s.t1 6; have s := s.k [0, 1, 4, 5, 6]; ?_
 obtain ⟨j2, e2, e3, rfl⟩ := cp.len
 obtain ⟨j3, e4, e5, rfl⟩ := C.len
 obtain ⟨j4, e6, e7, rfl⟩ := s.le 2
 obtain ⟨j5, e8, e9, rfl⟩ := s.le 3
 obtain ⟨j6, fa, fb, rfl⟩ := s.le 4
 have s : St _ _ _ [zs O 148 [Sl e2 (t.Module.Ms).length e3, Sl e4 (t.Module.Co).length e5, Sl e6 (t.ca).length e7, Sl e8 (t.any).length e9, Sl fa (t.loops).length fb], _, _, _, _] := s
 refine (be c) fun b W c => ?_
 refine ck (fun a V => ∃ (y : List Nat) (m : Nat) (u : Nat), Rep 194 [(0, Pt O), (1, I p1), (4, Pt b4), (6, Pt m), (7, Pt u)] a /\ St w Z V [itI (vr wb Sb) [Pt O] y t, zs b4 158 [I 0, U 0, U 0, I 0, I 0, U 0, U 0, I 0, I 0, U 0, U 0, I 0, I 0, U 0, U 0, I 0, I 0, U 0, U 0, I 0, I 0, U 0, U 0, I 0, I 0, U 0, U 0, I 0, I 0, U 0, U 0, I 0], zs m 43 [I b.1.Op, I b.1.D, I b.1.A, I b.1.B, I b.1.Imm], zs u 158 (jU (zb) 8 b.2)]) ?_ fun a V ⟨y, m, u, g, s⟩ => go g (rg (pu 2 [(31, Ag [I 0, U 0, U 0, I 0]), (32, Ag [I 0, U 0, U 0, I 0])] ((al s [I 0, U 0, U 0, I 0]) fun ac fe s => (al s [I 0, U 0, U 0, I 0]) fun X ff s => (st s 4 [I 0, U 0, U 0, I 0]) fun fg s => (st s 5 [I 0, U 0, U 0, I 0]) fun fh s => nx (sq (rg ((lN [I b.1.Op, I b.1.D, I b.1.A, I b.1.B, I b.1.Imm] (s.blkN 2 rfl 0 5)) ((be c) fun r127 cq c => (fn) (zhK cq (s.p []) (e1.give s []) fun fi ba => ⟨_, rfl, have s := s.j [] [0, 1, 2, 3, 4, 5] ba; nx ((be c) fun d E c => ?_)⟩))))))))
 ·refine CW.plan (by kernel_rfl) ?_
  intro j7 cr
  have s := s.same cr
  refine ap [0, 1, 2, 3] [(19, Po O 1)] ((ad 4 s 0) (ap [5] [(21, I p1)] ((be W) fun F G W => ?_)))
  obtain ⟨j8, j9, ka, Y⟩ := C.formv (fun _ => ⟨_, rfl⟩) G
  refine OA.idx (i := 6) 43 5 rfl (by kernel_rfl) rfl rfl rfl Y rfl (zh G).1 (zh G).2.1 (by kernel_rfl) (by kernel_rfl) ?_
  refine OA.ldN (i := 7) (cs := zj F) rfl (by kernel_rfl) rfl rfl rfl (by kernel_rfl) (by kernel_rfl) (C.cellv s G Y) ?_
  refine ap [8, 9, 10] [(26, Po O 2)] ((ad 11 s 0) (ap [12] [(28, I p1)] ((be W) fun bb z W => ?_)))
  obtain ⟨kb, kc, kd, H⟩ := s.rowv 2 rfl z
  refine OA.idx (i := 13) 158 32 rfl (by kernel_rfl) rfl rfl rfl H rfl (zh z).1 (zh z).2.1 (by kernel_rfl) (by kernel_rfl) ?_
  refine OA.ldN (i := 14) (cs := jU (zb) 8 bb) rfl (by kernel_rfl) rfl rfl rfl (by kernel_rfl) (by kernel_rfl) (s.rowc 2 rfl (fun _ => rfl) z H) ?_
  refine OA.acts [15, 16] 15 (by kernel_rfl) (by kernel_rfl) (by kernel_rfl) (qR ?_ (qR ?_ zbD))
  ·refine Alt.of (i := 15) [14, 11, 7, 4] rfl rfl (by kernel_rfl) (by kernel_rfl) ?_
   refine (al s [I 0, I 0, I 0, I 0, I 0]) fun fc ke s => ?_
   refine OA.next ⟨(s.rowc 2 rfl (fun _ => rfl) z H), (s.blk 0 rfl rfl), (C.cellv s G Y), (s.blk 0 rfl rfl), trivial⟩ ?_
   refine (aa 16 [14, 11, 7, 4]) ((al s [I 0, U 0, U 0, I 0, I 0, U 0, U 0, I 0, I 0, U 0, U 0, I 0, I 0, U 0, U 0, I 0, I 0, U 0, U 0, I 0, I 0, U 0, U 0, I 0, I 0, U 0, U 0, I 0, I 0, U 0, U 0, I 0]) fun fd fj s => ?_)
   refine OA.next ⟨(s.rowc 2 rfl (fun _ => rfl) z H), (s.blk 0 rfl rfl), (C.cellv s G Y), (s.blk 0 rfl rfl), trivial⟩ ?_
   refine (aa 17 [14, 11]) ((st s 5 [I F.Op, I F.D, I F.A, I F.B, I F.Imm]) fun fk s => ?_)
   refine OA.next ⟨(s.rowc 2 rfl (fun _ => rfl) z H), (s.blk 0 rfl rfl), trivial⟩ ?_
   refine (aa 18 []) ((st s 6 (jU (zb) 8 bb)) fun fl s => ?_)
   refine OA.next trivial ?_
   refine aF ?_
   have s := s.borIn an
   have s := s.borIn ao
   refine have s := s.ti 2; have s := s.ti 3; have s := s.ti 4; ?_
   obtain ⟨d0, s⟩ := s.s5 (zaO wb Sb) 0 7 8 2 3 4 [1, 5, 6] t
   obtain rfl := ij W
   exact me fun a g => ⟨d0, fc, fd, g.ag, s.k [3, 0, 1, 2]⟩
  refine Alt.of (i := 16) [14, 11, 7, 4] rfl rfl (by kernel_rfl) (by kernel_rfl) ?_
  refine (al s [I 0, U 0, U 0, I 0, I 0, U 0, U 0, I 0, I 0, U 0, U 0, I 0, I 0, U 0, U 0, I 0, I 0, U 0, U 0, I 0, I 0, U 0, U 0, I 0, I 0, U 0, U 0, I 0, I 0, U 0, U 0, I 0]) fun d1 fm s => ?_
  refine OA.next ⟨(s.rowc 2 rfl (fun _ => rfl) z H), (s.blk 0 rfl rfl), (C.cellv s G Y), (s.blk 0 rfl rfl), trivial⟩ ?_
  refine (aa 15 [14, 11, 7, 4]) ((al s [I 0, I 0, I 0, I 0, I 0]) fun d2 fo s => ?_)
  refine OA.next ⟨(s.rowc 2 rfl (fun _ => rfl) z H), (s.blk 0 rfl rfl), (C.cellv s G Y), (s.blk 0 rfl rfl), trivial⟩ ?_
  refine (aa 17 [14, 11]) ((st s 6 [I F.Op, I F.D, I F.A, I F.B, I F.Imm]) fun fp s => ?_)
  refine OA.next ⟨(s.rowc 2 rfl (fun _ => rfl) z H), (s.blk 0 rfl rfl), trivial⟩ ?_
  refine (aa 18 []) ((st s 5 (jU (zb) 8 bb)) fun fr s => ?_)
  refine OA.next trivial ?_
  refine aF ?_
  have s := s.borIn an
  have s := s.borIn ao
  refine have s := s.ti 2; have s := s.ti 3; have s := s.ti 4; ?_
  obtain ⟨d3, s⟩ := s.s5 (zaO wb Sb) 0 7 8 2 3 4 [1, 5, 6] t
  obtain rfl := ij W
  exact me fun a g => ⟨d3, d2, d1, g.ag, s.k [3, 0, 2, 1]⟩
 refine ck (fun a V => Rep 194 [(0, Pt O), (1, I p1), (4, Pt b4), (6, Pt m), (7, Pt u), (8, Pt ac), (9, Pt X)] a /\ St w Z V [itI (vr wb Sb) [Pt O] y t, zs b4 158 [I 0, U 0, U 0, I 0, I 0, U 0, U 0, I 0, I 0, U 0, U 0, I 0, I 0, U 0, U 0, I 0, I 0, U 0, U 0, I 0, I 0, U 0, U 0, I 0, I 0, U 0, U 0, I 0, I 0, U 0, U 0, I 0], zs m 43 [I b.1.Op, I b.1.D, I b.1.A, I b.1.B, I b.1.Imm], zs u 158 (jU (zb) 8 b.2), zs ac 156 [I 0, U 0, U 0, I 0], zs X 156 [I d.Ki, U d.Sp.Lo, U d.Sp.Hi, I d.Map]]) ?_ fun a V ⟨g, s⟩ => go g (rg (pu 1 [(38, Po m 2)] ((ld s 2) ((be c) fun f aq c => ?_))))
 ·refine br E (fun E cu => ?_) fun E cu => ?_
  ·refine rn ((lN [I b.1.Op, I b.1.D, I b.1.A, I b.1.B, I b.1.Imm] (s.blkN 2 rfl 0 5)) ((lN ((jU (zb) 8 b.2)) (s.blkN 3 rfl 0 32)) ((be E) fun r150 cv E => (fn) (zdV cv (s.p []) fun fs bc => ⟨_, rfl, have s := s.j [] [0, 1, 2, 3, 4, 5] bc; (st s 5 [I r150.Ki, U r150.Sp.Lo, U r150.Sp.Hi, I r150.Map]) fun ft s => nl ?_⟩))))
   obtain rfl := ij E
   exact me fun a g => ⟨g.ag, s.k [0, 1, 2, 3, 4, 5]⟩
  refine sk ?_
  obtain rfl := ij E
  exact me fun a g => ⟨g.ag, s.k [0, 1, 2, 3, 4, 5]⟩
 refine OW.op (v := .pointer (some ⟨u, 0 + Int.toNat b.1.A * 4, none⟩)) rfl rfl rfl rfl (fun a g => zy (n := 8) 156 4 rfl rfl rfl (zn aq).1 (zn aq).2.1 (by kernel_rfl) (by kernel_rfl) a _ g) ?_
 refine (lN (zb (b.2 f)) (s.arrB 3 rfl zb (fun _ => rfl) 8 b.2 0 rfl rfl aq)) ((st s 4 [I (b.2 f).Ki, U (b.2 f).Sp.Lo, U (b.2 f).Sp.Hi, I (b.2 f).Map]) fun fv s => nx (sq (rg (pu 1 [(42, Pt m)] ((ld s 2) (nx (bl (rg (pu 2 [(64, B (b.1.Op == 0))] (nx (br c (fun c cw => ?_) fun c cw => ?_)))))))))))
 ·refine sq (rg (pu 1 [(66, Pt X)] ((ld s 5) (pu 1 [(68, B (d.Ki == 0))] (nx (br c (fun c cx => ?_) fun c cx => ?_))))))
  ·refine rg ((lN ((jU (zb) 8 b.2)) (s.blkN 3 rfl 0 32)) ((st s 1 (jU (zb) 8 b.2)) fun fw s => pu 1 [(5, I 33)] (nx (rt (tr (bt (tr ?_)))))))
   obtain rfl := ij c
   exact QW.ret_ct rfl rfl (rl (cs := (jU (zb) 8 b.2)) (s.blkN 1 rfl 0 32)) rfl (K y _ (s.k [0]))
  refine sn (rn (pu 1 [(70, Po m 1)] ((ld s 2) ((lN [I d.Ki, U d.Sp.Lo, U d.Sp.Hi, I d.Map] (s.blkN 5 rfl 0 4)) ((be c) fun ar au c => ?_)))))
  refine OW.op (v := .pointer (some ⟨u, 0 + Int.toNat b.1.D * 4, none⟩)) rfl rfl rfl rfl (fun a g => zy (n := 8) 156 4 rfl rfl rfl (zn au).1 (zn au).2.1 (by kernel_rfl) (by kernel_rfl) a _ g) ?_
  refine OW.stA s 3 rfl rfl rfl rfl rfl (by kernel_rfl) rfl zb (fun _ => rfl) 8 b.2 0 rfl rfl au 0 rfl rfl d rfl (jU (zb) 8 (zW b.2 ar d)) rfl ?_
  intro fx s
  refine nl (bn (qn (rg ((lN ((jU (zb) 8 (zW b.2 ar d))) (s.blkN 3 rfl 0 32)) ((st s 1 (jU (zb) 8 (zW b.2 ar d))) fun fy s => pu 1 [(5, I 0)] (nx (rt ?_)))))))
  obtain rfl := ij c
  exact QW.ret_ct rfl rfl (rl (cs := (jU (zb) 8 (zW b.2 ar d))) (s.blkN 1 rfl 0 32)) rfl (K y _ (s.k [0]))
 refine rg (pu 2 [(74, B (b.1.Op == 11))] (nx (br c (fun c cy => ?_) fun c cy => ?_)))
 ·refine sq ?_
  refine CW.plan (by kernel_rfl) ?_
  intro fz bd
  have s := s.same bd
  refine ap [0] [(76, Po m 1)] ((ad 1 s 2) ((aa 2 [1]) ((be c) fun r189 cz c => (fn) (vj cz (s.p []) fun f0 bf => ⟨_, rfl, have s := s.j [] [0, 1, 2, 3, 4, 5] bf; ?_⟩))))
  refine OA.next ⟨(s.blk 2 rfl rfl), trivial⟩ ?_
  refine (aa 3 [1]) ((be c) fun r193 c0 c => (fn) (xA c0 (s.p []) fun f1 bg => ⟨_, rfl, have s := s.j [] [0, 1, 2, 3, 4, 5] bg; ?_⟩))
  refine OA.next ⟨(s.blk 2 rfl rfl), trivial⟩ ?_
  refine (be c) fun av aw c => ?_
  refine OA.val (i := 4) (v := .pointer (some ⟨u, 0 + Int.toNat b.1.D * 4, none⟩)) rfl (by kernel_rfl) rfl rfl rfl rfl (fun a w g => zy (n := 8) 156 4 rfl rfl rfl (zn aw).1 (zn aw).2.1 (by kernel_rfl) (by kernel_rfl) a w g) ?_
  refine (aa 5 []) ?_
  refine OW.stA s 3 rfl rfl rfl rfl rfl (by kernel_rfl) rfl zb (fun _ => rfl) 8 b.2 0 rfl rfl aw 0 rfl rfl r193 rfl (jU (zb) 8 (zW b.2 av r193)) rfl ?_
  intro f2 s
  refine OA.next trivial ?_
  refine aF (qn (sq ?_))
  refine CW.plan (by kernel_rfl) ?_
  intro f3 bi
  have s := s.same bi
  refine OA.ldN (i := 0) (cs := (jU (zb) 8 (zW b.2 av r193))) rfl (by kernel_rfl) rfl rfl rfl (by kernel_rfl) (by kernel_rfl) (s.blkN 3 rfl 0 32) ?_
  refine OA.ldN (i := 1) (cs := [I d.Ki, U d.Sp.Lo, U d.Sp.Hi, I d.Map]) rfl (by kernel_rfl) rfl rfl rfl (by kernel_rfl) (by kernel_rfl) (s.blkN 5 rfl 0 4) ?_
  refine OA.ldN (i := 4) (cs := [I d.Ki, U d.Sp.Lo, U d.Sp.Hi, I d.Map]) rfl (by kernel_rfl) rfl rfl rfl (by kernel_rfl) (by kernel_rfl) (s.blkN 5 rfl 0 4) ?_
  refine (aa 2 [4, 0]) ?_
  refine OW.row (α := za) (e := 156) (enc := zb) (sz := 4) s rfl rfl rfl [d] rfl (fun _ => rfl) rfl rfl (fun _ => by kernel_rfl) ?_
  intro f4 f5 s
  refine OA.next ⟨(s.blkN 5 rfl 0 4), (s.blkN 3 rfl 0 32), trivial⟩ ?_
  refine (aa 3 [4, 0]) ((be c) fun r223 c1 c => (fn) (zam c1 (s.p []) (s.rd 6 rfl (fun _ => rfl) [] rfl (s.len 6 rfl).1) fun f6 bj => ⟨_, rfl, have s := s.j [] [0, 1, 2, 3, 4, 5, 6] bj; ?_⟩))
  refine OA.next ⟨(s.blkN 5 rfl 0 4), (s.blkN 3 rfl 0 32), trivial⟩ ?_
  refine (aa 5 [0]) ((be c) fun r227 c2 c => (fn) (zfB c2 (s.p []) fun f7 bk => ⟨_, rfl, have s := s.j [] [0, 1, 2, 3, 4, 5, 6] bk; ?_⟩))
  refine OA.next ⟨(s.blkN 3 rfl 0 32), trivial⟩ ?_
  refine (aa 6 [0]) ?_
  refine OW.row (α := Int) (e := 35) (enc := zx .i64) (sz := 1) s rfl rfl rfl [r223, r227] rfl (fun _ => rfl) rfl rfl (fun _ => by kernel_rfl) ?_
  intro f8 f9 s
  refine OA.next ⟨(s.blkN 3 rfl 0 32), trivial⟩ ?_
  refine (aa 7 [0]) ((be c) fun r233 c3 c => (fn) (zeI c3 (s.p []) (s.rd 7 rfl (fun _ => rfl) [] rfl (s.len 7 rfl).1) fun ga bm => ⟨_, rfl, have s := s.j [] [0, 1, 2, 3, 4, 5, 6, 7] bm; ?_⟩))
  refine OA.next ⟨(s.blkN 3 rfl 0 32), trivial⟩ ?_
  refine (aa 8 []) ((st s 1 (jU (zb) 8 (zW b.2 av r193))) fun gb s => ?_)
  refine OA.next trivial ?_
  refine (aa 9 []) (pu 1 [(5, I r233)] ?_)
  refine OA.next trivial ?_
  refine aF (qn (rt (bt (tr ?_))))
  obtain rfl := ij c
  exact QW.ret_ct rfl rfl (rl (cs := (jU (zb) 8 (zW b.2 av r193))) (s.blkN 1 rfl 0 32)) rfl (K y _ (s.k [0]))
 refine rg (pu 2 [(89, B (b.1.Op == 12))] (nx (br c (fun c c4 => ?_) fun c c4 => ?_)))
 ·refine sq ?_
  refine CW.plan (by kernel_rfl) ?_
  intro gc bo
  have s := s.same bo
  refine OA.ldN (i := 0) (cs := (jU (zb) 8 b.2)) rfl (by kernel_rfl) rfl rfl rfl (by kernel_rfl) (by kernel_rfl) (s.blkN 3 rfl 0 32) ?_
  refine OA.ldN (i := 1) (cs := [I (b.2 f).Ki, U (b.2 f).Sp.Lo, U (b.2 f).Sp.Hi, I (b.2 f).Map]) rfl (by kernel_rfl) rfl rfl rfl (by kernel_rfl) (by kernel_rfl) (s.blkN 4 rfl 0 4) ?_
  refine OA.ldN (i := 2) (cs := [I d.Ki, U d.Sp.Lo, U d.Sp.Hi, I d.Map]) rfl (by kernel_rfl) rfl rfl rfl (by kernel_rfl) (by kernel_rfl) (s.blkN 5 rfl 0 4) ?_
  refine OA.ldN (i := 5) (cs := [I d.Ki, U d.Sp.Lo, U d.Sp.Hi, I d.Map]) rfl (by kernel_rfl) rfl rfl rfl (by kernel_rfl) (by kernel_rfl) (s.blkN 5 rfl 0 4) ?_
  refine (aa 3 [5, 0]) ?_
  refine OW.row (α := za) (e := 156) (enc := zb) (sz := 4) s rfl rfl rfl [(b.2 f), d] rfl (fun _ => rfl) rfl rfl (fun _ => by kernel_rfl) ?_
  intro gd ge s
  refine OA.next ⟨(s.blkN 5 rfl 0 4), (s.blkN 3 rfl 0 32), trivial⟩ ?_
  refine (aa 4 [5, 0]) ((be c) fun r262 c5 c => (fn) (zam c5 (s.p []) (s.rd 6 rfl (fun _ => rfl) [] rfl (s.len 6 rfl).1) fun gf bp => ⟨_, rfl, have s := s.j [] [0, 1, 2, 3, 4, 5, 6] bp; ?_⟩))
  refine OA.next ⟨(s.blkN 5 rfl 0 4), (s.blkN 3 rfl 0 32), trivial⟩ ?_
  refine (aa 6 [0]) ((be c) fun r266 c6 c => (fn) (zfB c6 (s.p []) fun gg bq => ⟨_, rfl, have s := s.j [] [0, 1, 2, 3, 4, 5, 6] bq; ?_⟩))
  refine OA.next ⟨(s.blkN 3 rfl 0 32), trivial⟩ ?_
  refine (aa 7 [0]) ?_
  refine OW.row (α := Int) (e := 35) (enc := zx .i64) (sz := 1) s rfl rfl rfl [r262, r266] rfl (fun _ => rfl) rfl rfl (fun _ => by kernel_rfl) ?_
  intro gh gi s
  refine OA.next ⟨(s.blkN 3 rfl 0 32), trivial⟩ ?_
  refine (aa 8 [0]) ((be c) fun r272 c7 c => (fn) (zeI c7 (s.p []) (s.rd 7 rfl (fun _ => rfl) [] rfl (s.len 7 rfl).1) fun gj bs => ⟨_, rfl, have s := s.j [] [0, 1, 2, 3, 4, 5, 6, 7] bs; ?_⟩))
  refine OA.next ⟨(s.blkN 3 rfl 0 32), trivial⟩ ?_
  refine (aa 9 []) ((st s 1 (jU (zb) 8 b.2)) fun gk s => ?_)
  refine OA.next trivial ?_
  refine (aa 10 []) (pu 1 [(5, I r272)] ?_)
  refine OA.next trivial ?_
  refine aF (qn (rt (bt (tr ?_))))
  obtain rfl := ij c
  exact QW.ret_ct rfl rfl (rl (cs := (jU (zb) 8 b.2)) (s.blkN 1 rfl 0 32)) rfl (K y _ (s.k [0]))
 refine rg (pu 2 [(100, B (b.1.Op == 13))] (nx (br c (fun c c8 => ?_) fun c c8 => ?_)))
 ·refine CW.plan (by kernel_rfl) ?_
  intro gl bu
  have s := s.same bu
  refine ap [0] [(102, Po m 1)] ((ad 1 s 2) ((aa 2 [1]) ((be c) fun r293 c9 c => (fn) (vj c9 (s.p []) fun gm bv => ⟨_, rfl, have s := s.j [] [0, 1, 2, 3, 4, 5] bv; ?_⟩))))
  refine OA.next ⟨(s.blk 2 rfl rfl), trivial⟩ ?_
  refine (aa 3 [1]) ((be c) fun r297 da c => (fn) (xA da (s.p []) fun gn bw => ⟨_, rfl, have s := s.j [] [0, 1, 2, 3, 4, 5] bw; ?_⟩))
  refine OA.next ⟨(s.blk 2 rfl rfl), trivial⟩ ?_
  refine (be c) fun ax ay c => ?_
  refine OA.val (i := 4) (v := .pointer (some ⟨u, 0 + Int.toNat b.1.D * 4, none⟩)) rfl (by kernel_rfl) rfl rfl rfl rfl (fun a w g => zy (n := 8) 156 4 rfl rfl rfl (zn ay).1 (zn ay).2.1 (by kernel_rfl) (by kernel_rfl) a w g) ?_
  refine (aa 5 []) ?_
  refine OW.stA s 3 rfl rfl rfl rfl rfl (by kernel_rfl) rfl zb (fun _ => rfl) 8 b.2 0 rfl rfl ay 0 rfl rfl r297 rfl (jU (zb) 8 (zW b.2 ax r297)) rfl ?_
  intro gp s
  refine OA.next trivial ?_
  refine aF (bn (qn (rg ((lN ((jU (zb) 8 (zW b.2 ax r297))) (s.blkN 3 rfl 0 32)) ((st s 1 (jU (zb) 8 (zW b.2 ax r297))) fun gq s => pu 1 [(5, I 0)] (nx (rt ?_)))))))
  obtain rfl := ij c
  exact QW.ret_ct rfl rfl (rl (cs := (jU (zb) 8 (zW b.2 ax r297))) (s.blkN 1 rfl 0 32)) rfl (K y _ (s.k [0]))
 refine rg (pu 2 [(107, B (b.1.Op == 14))] (nx (br c (fun c db => ?_) fun c db => ?_)))
 ·refine rg (pu 1 [(109, Po m 1)] ((ld s 2) (pu 1 [(111, Po m 4)] ((ld s 2) (pu 1 [(113, Ag [I 2, U 0, U 0, I b.1.Imm])] ((be c) fun Q az c => ?_))))))
  refine OW.op (v := .pointer (some ⟨u, 0 + Int.toNat b.1.D * 4, none⟩)) rfl rfl rfl rfl (fun a g => zy (n := 8) 156 4 rfl rfl rfl (zn az).1 (zn az).2.1 (by kernel_rfl) (by kernel_rfl) a _ g) ?_
  refine OW.stA s 3 rfl rfl rfl rfl rfl (by kernel_rfl) rfl zb (fun _ => rfl) 8 b.2 0 rfl rfl az 0 rfl rfl (za.mk 2 (zd.mk 0 0) b.1.Imm) rfl (jU (zb) 8 (zW b.2 Q (za.mk 2 (zd.mk 0 0) b.1.Imm))) rfl ?_
  intro gr s
  refine nx (sq ?_)
  obtain ⟨gs, gt, gu, gv, gw, gx, gy, gz, g0, g1, s⟩ := s.o5 0
  have ae := s.borOut 6 rfl
  have bx := ae.bor hb
  have af := s.borOut 7 rfl
  have bz := af.bor hb
  refine have s := s.t1 8; have s := s.t1 9; have s := s.t1 10; have s := s.k [0, 1, 2, 3, 4, 5, 8, 9, 10]; ?_
  obtain ⟨g2, d4, d5, rfl⟩ := bx.len
  obtain ⟨g3, d6, d7, rfl⟩ := bz.len
  obtain ⟨g4, d8, d9, rfl⟩ := s.le 6
  obtain ⟨g5, ea, eb, rfl⟩ := s.le 7
  obtain ⟨g6, ec, ed, rfl⟩ := s.le 8
  have s : St _ _ _ [zs O 148 [Sl d4 (t.Module.Ms).length d5, Sl d6 (t.Module.Co).length d7, Sl d8 (t.ca).length d9, Sl ea (t.any).length eb, Sl ec (t.loops).length ed], _, _, _, _, _, _, _, _] := s
  refine CW.still (by kernel_rfl) (by kernel_rfl) ?_
  intro g7 b0
  have s := s.same b0
  refine op' 1 [(115, Po m 4)] ((od s 2) (op' 4 [(120, Pt O)] ((od s 0) (op' 2 [(123, B (decide (b.1.Imm >= ((t.Module.Ms).length : Int))))] ?_))))
  refine OS.fin rfl ?_
  refine qn (br c (fun c dc => ?_) fun c dc => ?_)
  ·refine rg ((lN ((jU (zb) 8 (zW b.2 Q (za.mk 2 (zd.mk 0 0) b.1.Imm)))) (s.blkN 3 rfl 0 32)) ((st s 1 (jU (zb) 8 (zW b.2 Q (za.mk 2 (zd.mk 0 0) b.1.Imm)))) fun g8 s => pu 1 [(5, I 35)] (nx (rt (bt (tr ?_))))))
   have s := s.borIn ae
   have s := s.borIn af
   refine have s := s.ti 6; have s := s.ti 7; have s := s.ti 8; ?_
   obtain ⟨ee, s⟩ := s.s5 (zaO wb Sb) 0 9 10 6 7 8 [1, 2, 3, 4, 5] t
   obtain rfl := ij c
   exact QW.ret_ct rfl rfl (rl (cs := (jU (zb) 8 (zW b.2 Q (za.mk 2 (zd.mk 0 0) b.1.Imm)))) (s.blkN 0 rfl 0 32)) rfl (K ee _ (s.k [5]))
  refine sk (bn (qn (rg ((lN ((jU (zb) 8 (zW b.2 Q (za.mk 2 (zd.mk 0 0) b.1.Imm)))) (s.blkN 3 rfl 0 32)) ((st s 1 (jU (zb) 8 (zW b.2 Q (za.mk 2 (zd.mk 0 0) b.1.Imm)))) fun g9 s => pu 1 [(5, I 0)] (nx (rt ?_)))))))
  have s := s.borIn ae
  have s := s.borIn af
  refine have s := s.ti 6; have s := s.ti 7; have s := s.ti 8; ?_
  obtain ⟨ef, s⟩ := s.s5 (zaO wb Sb) 0 9 10 6 7 8 [1, 2, 3, 4, 5] t
  obtain rfl := ij c
  exact QW.ret_ct rfl rfl (rl (cs := (jU (zb) 8 (zW b.2 Q (za.mk 2 (zd.mk 0 0) b.1.Imm)))) (s.blkN 0 rfl 0 32)) rfl (K ef _ (s.k [5]))
 refine rg (pu 2 [(125, B (b.1.Op == 15))] (nx (br c (fun c dd => ?_) fun c dd => ?_)))
 ·refine sk (bn (qn (rg ((lN ((jU (zb) 8 b.2)) (s.blkN 3 rfl 0 32)) ((st s 1 (jU (zb) 8 b.2)) fun hc s => pu 1 [(5, I 0)] (nx (rt ?_)))))))
  obtain rfl := ij c
  exact QW.ret_ct rfl rfl (rl (cs := (jU (zb) 8 b.2)) (s.blkN 1 rfl 0 32)) rfl (K y _ (s.k [0]))
 refine sq (rg (pu 2 [(127, B (b.1.Op == 16))] (nx ((be c) fun eg l c => ?_))))
 refine ck (fun a V => Rep 194 [(0, Pt O), (1, I p1), (4, Pt b4), (6, Pt m), (7, Pt u), (8, Pt ac), (9, Pt X), (43, I b.1.Op), (127, B eg)] a /\ St w Z V [itI (vr wb Sb) [Pt O] y t, zs b4 158 [I 0, U 0, U 0, I 0, I 0, U 0, U 0, I 0, I 0, U 0, U 0, I 0, I 0, U 0, U 0, I 0, I 0, U 0, U 0, I 0, I 0, U 0, U 0, I 0, I 0, U 0, U 0, I 0, I 0, U 0, U 0, I 0], zs m 43 [I b.1.Op, I b.1.D, I b.1.A, I b.1.B, I b.1.Imm], zs u 158 (jU (zb) 8 b.2), zs ac 156 [I (b.2 f).Ki, U (b.2 f).Sp.Lo, U (b.2 f).Sp.Hi, I (b.2 f).Map], zs X 156 [I d.Ki, U d.Sp.Lo, U d.Sp.Hi, I d.Map]]) ?_ fun a V ⟨g, s⟩ => go g (br c (fun c de => ?_) fun c de => ?_)
 ·refine br l (fun l df => ?_) fun l df => ?_
  ·refine sk ?_
   obtain rfl := ij l
   exact me fun a g => ⟨g.ag, s.k [0, 1, 2, 3, 4, 5]⟩
  refine rg (pu 2 [(127, B (b.1.Op == 17))] (nx (br l (fun l dg => ?_) fun l dg => ?_)))
  ·refine sk ?_
   obtain rfl := ij l
   exact me fun a g => ⟨g.ag, s.k [0, 1, 2, 3, 4, 5]⟩
  refine rg (pu 2 [(127, B (b.1.Op == 18))] (nx (br l (fun l dh => ?_) fun l dh => ?_)))
  ·refine sk ?_
   obtain rfl := ij l
   exact me fun a g => ⟨g.ag, s.k [0, 1, 2, 3, 4, 5]⟩
  refine rn (pu 2 [(127, B (b.1.Op == 19))] (nl ?_))
  obtain rfl := ij l
  exact me fun a g => ⟨g.ag, s.k [0, 1, 2, 3, 4, 5]⟩
 ·refine sq ?_
  refine CW.plan (by kernel_rfl) ?_
  intro hd b2
  have s := s.same b2
  refine OA.ldN (i := 0) (cs := (jU (zb) 8 b.2)) rfl (by kernel_rfl) rfl rfl rfl (by kernel_rfl) (by kernel_rfl) (s.blkN 3 rfl 0 32) ?_
  refine OA.ldN (i := 1) (cs := [I (b.2 f).Ki, U (b.2 f).Sp.Lo, U (b.2 f).Sp.Hi, I (b.2 f).Map]) rfl (by kernel_rfl) rfl rfl rfl (by kernel_rfl) (by kernel_rfl) (s.blkN 4 rfl 0 4) ?_
  refine OA.ldN (i := 2) (cs := [I d.Ki, U d.Sp.Lo, U d.Sp.Hi, I d.Map]) rfl (by kernel_rfl) rfl rfl rfl (by kernel_rfl) (by kernel_rfl) (s.blkN 5 rfl 0 4) ?_
  refine (aa 3 [0]) ?_
  refine OW.row (α := za) (e := 156) (enc := zb) (sz := 4) s rfl rfl rfl [(b.2 f), d] rfl (fun _ => rfl) rfl rfl (fun _ => by kernel_rfl) ?_
  intro he hf s
  refine OA.next ⟨(s.blkN 3 rfl 0 32), trivial⟩ ?_
  refine (aa 4 [0]) ((be c) fun eh di c => (fn) (zam di (s.p []) (s.rd 6 rfl (fun _ => rfl) [] rfl (s.len 6 rfl).1) fun hg b3 => ⟨_, rfl, have s := s.j [] [0, 1, 2, 3, 4, 5, 6] b3; ?_⟩))
  refine OA.next ⟨(s.blkN 3 rfl 0 32), trivial⟩ ?_
  refine (aa 5 []) ((st s 1 (jU (zb) 8 b.2)) fun hh s => ?_)
  refine OA.next trivial ?_
  refine (aa 6 []) (pu 1 [(5, I eh)] ?_)
  refine OA.next trivial ?_
  refine aF (qn (rt (bt (tr ?_))))
  obtain rfl := ij c
  exact QW.ret_ct rfl rfl (rl (cs := (jU (zb) 8 b.2)) (s.blkN 1 rfl 0 32)) rfl (K y _ (s.k [0]))
 refine rg (pu 2 [(137, B (b.1.Op == 20))] (nx (br c (fun c dj => ?_) fun c dj => ?_)))
 ·refine sq (rg ((lN [I (b.2 f).Ki, U (b.2 f).Sp.Lo, U (b.2 f).Sp.Hi, I (b.2 f).Map] (s.blkN 4 rfl 0 4)) ?_))
  refine OW.row (α := za) (e := 156) (enc := zb) (sz := 4) s rfl rfl rfl [(b.2 f)] rfl (fun _ => rfl) rfl rfl (fun _ => by kernel_rfl) ?_
  intro hi hj s
  refine (be c) fun a0 dk c => (fn) (zam dk (s.p []) (s.rd 6 rfl (fun _ => rfl) [] rfl (s.len 6 rfl).1) fun hk b5 => ⟨_, rfl, have s := s.j [] [0, 1, 2, 3, 4, 5, 6] b5; pu 1 [(10, I a0)] (nx (rg (pu 2 [(143, B (a0 != 0))] (nx (br c (fun c dl => ?_) fun c dl => ?_)))))⟩)
  ·refine rg ((lN ((jU (zb) 8 b.2)) (s.blkN 3 rfl 0 32)) (pu 1 [(145, I a0)] ((st s 1 (jU (zb) 8 b.2)) fun hl s => pu 1 [(5, I a0)] (nx (rt (tr (bt (tr ?_))))))))
   obtain rfl := ij c
   exact QW.ret_ct rfl rfl (rl (cs := (jU (zb) 8 b.2)) (s.blkN 1 rfl 0 32)) rfl (K y _ (s.k [0]))
  refine sn (rg (pu 1 [(146, I 0)] (nx ((be c) fun b6 dm c => ?_))))
  refine CW.cutQ (fun a V => ∃ (t595 : Unit) (a4 : List Nat), b6 = .inl t595 /\ Rep 194 [(4, Pt b4), (7, Pt u)] a /\ St w Z V [zs b4 158 [I 0, U 0, U 0, I 0, I 0, U 0, U 0, I 0, I 0, U 0, U 0, I 0, I 0, U 0, U 0, I 0, I 0, U 0, U 0, I 0, I 0, U 0, U 0, I 0, I 0, U 0, U 0, I 0, I 0, U 0, U 0, I 0], zs u 158 (jU (zb) 8 b.2), itI (vr wb Sb) [Pt O] a4 t]) ?_ ?_
  ·refine bl ?_
   refine CW.loop (fun n a V => ∃ (x : Nat) (a5 : Unit) (a6 : List Nat), x + n = 8 /\ Rep 194 [(0, Pt O), (1, I p1), (4, Pt b4), (6, Pt m), (7, Pt u), (146, I (x : Int))] a /\ St w Z V [itI (vr wb Sb) [Pt O] a6 t, zs b4 158 [I 0, U 0, U 0, I 0, I 0, U 0, U 0, I 0, I 0, U 0, U 0, I 0, I 0, U 0, U 0, I 0, I 0, U 0, U 0, I 0, I 0, U 0, U 0, I 0, I 0, U 0, U 0, I 0, I 0, U 0, U 0, I 0], zs m 43 [I b.1.Op, I b.1.D, I b.1.A, I b.1.B, I b.1.Imm], zs u 158 (jU (zb) 8 b.2)] /\ zQ (ql t p1 b) (fun (a5 : Unit) => (.inl ())) n x a5 = some b6) 8 (fun a g => ⟨0, (), y, Nat.zero_add _, g.ag, s.keep [0, 1, 2, 3] rfl, dm⟩) ?_
   rintro ah a V ⟨x, a5, a6, a1, g, s, o⟩
   refine go g (rg (pu 1 [(147, B (decide ((x : Int) < 8)))] (nx (sq ?_))))
   rcases zft (decide ((x : Int) < 8)) with J | J
   ·rcases ah with _ | ah
    ·exact (zb0 a1 J).elim
    refine ct J (sn (sq (bl (rg (pu 2 [(11, I (x : Int))] (nx (sq ?_)))))))
    obtain ⟨hm, hn, ho, hp, hq, hr, hs, ht, hu, hv, s⟩ := s.o5 0
    have ai := s.borOut 4 rfl
    have b7 := ai.bor hb
    have aj := s.borOut 5 rfl
    have b8 := aj.bor hb
    refine have s := s.t1 6; have s := s.t1 7; have s := s.t1 8; have s := s.k [0, 1, 2, 3, 6, 7, 8]; ?_
    obtain ⟨hw, ei, ej, rfl⟩ := b7.len
    obtain ⟨hx, ek, el, rfl⟩ := b8.len
    obtain ⟨hy, em, en, rfl⟩ := s.le 4
    obtain ⟨hz, eo, ep, rfl⟩ := s.le 5
    obtain ⟨h0, eq, er, rfl⟩ := s.le 6
    have s : St _ _ _ [zs O 148 [Sl ei (t.Module.Ms).length ej, Sl ek (t.Module.Co).length el, Sl em (t.ca).length en, Sl eo (t.any).length ep, Sl eq (t.loops).length er], _, _, _, _, _, _] := s
    refine CW.tail 15 (by kernel_rfl) (by kernel_rfl) ?_
    intro h1 b9
    have s := s.same b9
    refine op' 1 [(149, I (x : Int))] ((be o) fun ca M o => ?_)
    refine OS.op (v := .pointer (some ⟨u, 0 + Int.toNat (x : Int) * 4, none⟩)) rfl rfl rfl rfl rfl (fun a g => zy (n := 8) 156 4 rfl rfl rfl (zn M).1 (zn M).2.1 (by kernel_rfl) (by kernel_rfl) a _ g) ?_
    refine OS.ldN (cs := zb (b.2 ca)) rfl rfl rfl rfl rfl (by kernel_rfl) (by kernel_rfl) (s.arrB 3 rfl zb (fun _ => rfl) 8 b.2 0 rfl rfl M) ?_
    refine op' 3 [(154, Po O 2)] ((od s 0) (op' 2 [(156, I p1), (157, Po m 1)] ((od s 2) (op' 2 [(159, I (w64 (p1 - b.1.D))), (160, I (x : Int))] ((be o) fun cb ab o => ?_)))))
    obtain ⟨es, et, h2, a8⟩ := s.rowv 4 rfl ab
    refine OS.idx 158 32 rfl rfl rfl rfl rfl a8 rfl (zh ab).1 (zh ab).2.1 (by kernel_rfl) (by kernel_rfl) ?_
    refine OS.op (v := .pointer (some ⟨es, et + Int.toNat (w64 (p1 - b.1.D)) * 32 + 0 + Int.toNat (x : Int) * 4, none⟩)) rfl rfl rfl rfl rfl (fun a g => zy (n := 8) 156 4 rfl rfl rfl (zn M).1 (zn M).2.1 (by kernel_rfl) (by kernel_rfl) a _ g) ?_
    refine OS.ldN (cs := zb (cb ca)) rfl rfl rfl rfl rfl (by kernel_rfl) (by kernel_rfl) (zd5 (s.rowc 4 rfl (fun _ => rfl) ab a8) zb (fun _ => rfl) 8 cb 0 rfl rfl M) ?_
    refine OS.on ?_
    refine (be o) fun eu dn o => (fn) (zhL dn (s.p []) fun h3 cc => ⟨_, rfl, have s := s.j [] [0, 1, 2, 3, 4, 5, 6] cc; pu 1 [(165, B (!eu))] (nx (br o (fun o dp => ?_) fun o dp => ?_))⟩)
    ·refine rg ((lN ((jU (zb) 8 b.2)) (s.blkN 3 rfl 0 32)) ((st s 1 (jU (zb) 8 b.2)) fun h4 s => pu 1 [(5, I 33)] (nx (rt (bt (tr (tr (bt (tr (bt (tr ?_)))))))))))
     have s := s.borIn ai
     have s := s.borIn aj
     refine have s := s.ti 4; have s := s.ti 5; have s := s.ti 6; ?_
     obtain ⟨ev, s⟩ := s.s5 (zaO wb Sb) 0 7 8 4 5 6 [1, 2, 3] t
     obtain rfl := ij o
     obtain rfl := ij c
     exact QW.ret_ct rfl rfl (rl (cs := (jU (zb) 8 b.2)) (s.blkN 0 rfl 0 32)) rfl (K ev _ (s.k [3]))
    refine sk (bn (qn (rn (pu 2 [(146, I (w64 ((x : Int) + 1)))] (nl ?_)))))
    have s := s.borIn ai
    have s := s.borIn aj
    refine have s := s.ti 4; have s := s.ti 5; have s := s.ti 6; ?_
    obtain ⟨ew, s⟩ := s.s5 (zaO wb Sb) 0 7 8 4 5 6 [1, 2, 3] t
    refine QW.say 146 rfl (congrArg (Value.int .i64) (zq J (by decide))) ?_
    exact me fun a g => ⟨ah, zls _, x + 1, (), ew, zm a1, g.ag, s.k [3, 0, 1, 2], o⟩
   rcases ah with _ | ah
   ·refine cf J (ex (te (te (bh ?_))))
    obtain rfl := ij o
    exact me fun a g => ⟨(), a6, rfl, g.ag, s.k [1, 3, 0]⟩
   exact (zb1 a1 J).elim
  rintro a V ⟨t595, a4, rfl, g, s⟩
  refine QW.go ?_ g
  refine bn (qn (rg ((lN ((jU (zb) 8 b.2)) (s.blkN 1 rfl 0 32)) ((st s 0 (jU (zb) 8 b.2)) fun h5 s => pu 1 [(5, I 0)] (nx (rt ?_))))))
  obtain rfl := ij c
  exact QW.ret_ct rfl rfl (rl (cs := (jU (zb) 8 b.2)) (s.blkN 0 rfl 0 32)) rfl (K a4 _ (s.k [2]))
 refine rg (pu 2 [(168, B (b.1.Op == 21))] (nx (br c (fun c dq => ?_) fun c dq => ?_)))
 ·refine rg (pu 1 [(170, Po m 4)] ((ld s 2) (pu 1 [(12, I b.1.Imm)] (nx (rg (pu 2 [(172, I b.1.Imm), (173, I b.1.Imm)] ((be c) fun ey dr c => (fn) (zdW dr (s.p []) (a9.give s []) fun h6 h7 cd => ⟨_, rfl, have s := s.j [] [0, 1, 2, 3, 4, 5] cd; ?_⟩))))))))
  obtain ⟨h8, h9, ja, rfl⟩ := s.le 0
  refine pu 2 [(176, I (w64 (1 + ((ey).length : Int))))] ((be c) fun ds am c => ?_)
  refine OW.op (v := .slice (shd (some ⟨u, 0, none⟩) 8 (Int.toNat 1) 4) (ds).length (8 - Int.toNat 1)) rfl rfl rfl rfl (fun a g => zma (e := 156) (xs := jY 8 b.2) 4 rfl rfl rfl rfl rfl am (by kernel_rfl) (by kernel_rfl) a _ g) ?_
  refine (be c) fun a7 dt c => (fn) (zhM dt (s.p []) ((s.arrRd 4 rfl zb (fun _ => rfl) 8 b.2 0 rfl rfl rfl [] rfl).part am) (a9.give s []) fun jb ce => ⟨_, rfl, have s := s.j [] [0, 1, 2, 3, 4, 5, 6] ce; pu 1 [(13, I a7)] (nx (rg (pu 1 [(180, I b.1.Imm)] ((be c) fun h du c => (fn) (zgX du (s.p []) (a9.give s []) fun jc cg => ⟨_, rfl, have s := s.j [] [0, 1, 2, 3, 4, 5, 6] cg; pu 3 [(182, Ag [I h.1.Ki, U h.1.Sp.Lo, U h.1.Sp.Hi, I h.1.Map])] ?_⟩)))))⟩)
  refine OW.op (v := Pt u) rfl rfl rfl rfl (fun a g => zy (n := 8) (q := 0) 156 4 rfl rfl rfl (by decide) (by decide) (by kernel_rfl) (by kernel_rfl) a _ g) ?_
  refine (st s 4 [I h.1.Ki, U h.1.Sp.Lo, U h.1.Sp.Hi, I h.1.Map, I (b.2 1).Ki, U (b.2 1).Sp.Lo, U (b.2 1).Sp.Hi, I (b.2 1).Map, I (b.2 2).Ki, U (b.2 2).Sp.Lo, U (b.2 2).Sp.Hi, I (b.2 2).Map, I (b.2 3).Ki, U (b.2 3).Sp.Lo, U (b.2 3).Sp.Hi, I (b.2 3).Map, I (b.2 4).Ki, U (b.2 4).Sp.Lo, U (b.2 4).Sp.Hi, I (b.2 4).Map, I (b.2 5).Ki, U (b.2 5).Sp.Lo, U (b.2 5).Sp.Hi, I (b.2 5).Map, I (b.2 6).Ki, U (b.2 6).Sp.Lo, U (b.2 6).Sp.Hi, I (b.2 6).Map, I (b.2 7).Ki, U (b.2 7).Sp.Lo, U (b.2 7).Sp.Hi, I (b.2 7).Map]) fun jd s => nx (rg ((lN [I h.1.Ki, U h.1.Sp.Lo, U h.1.Sp.Hi, I h.1.Map, I (b.2 1).Ki, U (b.2 1).Sp.Lo, U (b.2 1).Sp.Hi, I (b.2 1).Map, I (b.2 2).Ki, U (b.2 2).Sp.Lo, U (b.2 2).Sp.Hi, I (b.2 2).Map, I (b.2 3).Ki, U (b.2 3).Sp.Lo, U (b.2 3).Sp.Hi, I (b.2 3).Map, I (b.2 4).Ki, U (b.2 4).Sp.Lo, U (b.2 4).Sp.Hi, I (b.2 4).Map, I (b.2 5).Ki, U (b.2 5).Sp.Lo, U (b.2 5).Sp.Hi, I (b.2 5).Map, I (b.2 6).Ki, U (b.2 6).Sp.Lo, U (b.2 6).Sp.Hi, I (b.2 6).Map, I (b.2 7).Ki, U (b.2 7).Sp.Lo, U (b.2 7).Sp.Hi, I (b.2 7).Map] (s.blkN 4 rfl 0 32)) (pu 1 [(186, I a7)] ((st s 2 [I h.1.Ki, U h.1.Sp.Lo, U h.1.Sp.Hi, I h.1.Map, I (b.2 1).Ki, U (b.2 1).Sp.Lo, U (b.2 1).Sp.Hi, I (b.2 1).Map, I (b.2 2).Ki, U (b.2 2).Sp.Lo, U (b.2 2).Sp.Hi, I (b.2 2).Map, I (b.2 3).Ki, U (b.2 3).Sp.Lo, U (b.2 3).Sp.Hi, I (b.2 3).Map, I (b.2 4).Ki, U (b.2 4).Sp.Lo, U (b.2 4).Sp.Hi, I (b.2 4).Map, I (b.2 5).Ki, U (b.2 5).Sp.Lo, U (b.2 5).Sp.Hi, I (b.2 5).Map, I (b.2 6).Ki, U (b.2 6).Sp.Lo, U (b.2 6).Sp.Hi, I (b.2 6).Map, I (b.2 7).Ki, U (b.2 7).Sp.Lo, U (b.2 7).Sp.Hi, I (b.2 7).Map]) fun je s => pu 1 [(5, I a7)] (nx (rt (bt (tr ?_))))))))
  obtain rfl := ij c
  exact QW.ret_ct rfl rfl (rl (cs := [I h.1.Ki, U h.1.Sp.Lo, U h.1.Sp.Hi, I h.1.Map, I (b.2 1).Ki, U (b.2 1).Sp.Lo, U (b.2 1).Sp.Hi, I (b.2 1).Map, I (b.2 2).Ki, U (b.2 2).Sp.Lo, U (b.2 2).Sp.Hi, I (b.2 2).Map, I (b.2 3).Ki, U (b.2 3).Sp.Lo, U (b.2 3).Sp.Hi, I (b.2 3).Map, I (b.2 4).Ki, U (b.2 4).Sp.Lo, U (b.2 4).Sp.Hi, I (b.2 4).Map, I (b.2 5).Ki, U (b.2 5).Sp.Lo, U (b.2 5).Sp.Hi, I (b.2 5).Map, I (b.2 6).Ki, U (b.2 6).Sp.Lo, U (b.2 6).Sp.Hi, I (b.2 6).Map, I (b.2 7).Ki, U (b.2 7).Sp.Lo, U (b.2 7).Sp.Hi, I (b.2 7).Map]) (s.blkN 2 rfl 0 32)) rfl (K y _ (s.k [1]))
 refine rg (pu 2 [(187, B (b.1.Op == 22))] (nx (br c (fun c dv => ?_) fun c dv => ?_)))
 ·refine sq ?_
  refine CW.plan (by kernel_rfl) ?_
  intro jf ch
  have s := s.same ch
  refine OA.ldN (i := 0) (cs := (jU (zb) 8 b.2)) rfl (by kernel_rfl) rfl rfl rfl (by kernel_rfl) (by kernel_rfl) (s.blkN 3 rfl 0 32) ?_
  refine OA.ldN (i := 1) (cs := [I (b.2 f).Ki, U (b.2 f).Sp.Lo, U (b.2 f).Sp.Hi, I (b.2 f).Map]) rfl (by kernel_rfl) rfl rfl rfl (by kernel_rfl) (by kernel_rfl) (s.blkN 4 rfl 0 4) ?_
  refine (aa 2 [0]) ?_
  refine OW.row (α := za) (e := 156) (enc := zb) (sz := 4) s rfl rfl rfl [(b.2 f)] rfl (fun _ => rfl) rfl rfl (fun _ => by kernel_rfl) ?_
  intro jg jh s
  refine OA.next ⟨(s.blkN 3 rfl 0 32), trivial⟩ ?_
  refine (aa 3 [0]) ((be c) fun ez dw c => (fn) (zam dw (s.p []) (s.rd 6 rfl (fun _ => rfl) [] rfl (s.len 6 rfl).1) fun ji ci => ⟨_, rfl, have s := s.j [] [0, 1, 2, 3, 4, 5, 6] ci; ?_⟩))
  refine OA.next ⟨(s.blkN 3 rfl 0 32), trivial⟩ ?_
  refine (aa 4 []) ((st s 1 (jU (zb) 8 b.2)) fun jj s => ?_)
  refine OA.next trivial ?_
  refine (aa 5 []) (pu 1 [(5, I ez)] ?_)
  refine OA.next trivial ?_
  refine aF (qn (rt (bt (tr ?_))))
  obtain rfl := ij c
  exact QW.ret_ct rfl rfl (rl (cs := (jU (zb) 8 b.2)) (s.blkN 1 rfl 0 32)) rfl (K y _ (s.k [0]))
 refine rg (pu 1 [(45, Pt m)] ((ld s 2) (pu 1 [(47, Po ac 1)] ((lN [U (b.2 f).Sp.Lo, U (b.2 f).Sp.Hi] (s.blkN 4 rfl 1 2)) (pu 1 [(49, Po X 1)] ((lN [U d.Sp.Lo, U d.Sp.Hi] (s.blkN 5 rfl 1 2)) ((be c) fun T dx c => (fn) (zj1 dx (s.p []) fun jk cj => ⟨_, rfl, have s := s.j [] [0, 1, 2, 3, 4, 5] cj; pu 3 [(52, Ag [U T.1.Lo, U T.1.Hi]), (53, B T.2)] ((al s [U 0, U 0]) fun jl jm s => (st s 6 [U T.1.Lo, U T.1.Hi]) fun jn s => pu 1 [] (nx (sq ?_)))⟩))))))))
 refine CW.plan (by kernel_rfl) ?_
 intro jo cl
 have s := s.same cl
 refine ap [0] [(54, Po m 1)] ((ad 1 s 2) ?_)
 refine OA.ldN (i := 2) (cs := [U T.1.Lo, U T.1.Hi]) rfl (by kernel_rfl) rfl rfl rfl (by kernel_rfl) (by kernel_rfl) (s.blkN 6 rfl 0 2) ?_
 refine (aa 3 [1]) ((be c) fun ak dy c => (fn) (xA dy (s.p []) fun jp cm => ⟨_, rfl, have s := s.j [] [0, 1, 2, 3, 4, 5, 6] cm; ?_⟩))
 refine OA.next ⟨(s.blk 2 rfl rfl), trivial⟩ ?_
 refine (be c) fun a2 a3 c => ?_
 refine OA.val (i := 4) (v := .pointer (some ⟨u, 0 + Int.toNat b.1.D * 4, none⟩)) rfl (by kernel_rfl) rfl rfl rfl rfl (fun a w g => zy (n := 8) 156 4 rfl rfl rfl (zn a3).1 (zn a3).2.1 (by kernel_rfl) (by kernel_rfl) a w g) ?_
 refine (aa 5 []) ?_
 refine OW.stA s 3 rfl rfl rfl rfl rfl (by kernel_rfl) rfl zb (fun _ => rfl) 8 b.2 0 rfl rfl a3 0 rfl rfl ak rfl (jU (zb) 8 (zW b.2 a2 ak)) rfl ?_
 intro jq s
 refine OA.next trivial ?_
 refine aF (qn (sq ?_))
 refine CW.plan (by kernel_rfl) ?_
 intro jr cn
 have s := s.same cn
 refine OA.ldN (i := 0) (cs := (jU (zb) 8 (zW b.2 a2 ak))) rfl (by kernel_rfl) rfl rfl rfl (by kernel_rfl) (by kernel_rfl) (s.blkN 3 rfl 0 32) ?_
 refine OA.ldN (i := 1) (cs := [I (b.2 f).Ki, U (b.2 f).Sp.Lo, U (b.2 f).Sp.Hi, I (b.2 f).Map]) rfl (by kernel_rfl) rfl rfl rfl (by kernel_rfl) (by kernel_rfl) (s.blkN 4 rfl 0 4) ?_
 refine OA.ldN (i := 2) (cs := [I d.Ki, U d.Sp.Lo, U d.Sp.Hi, I d.Map]) rfl (by kernel_rfl) rfl rfl rfl (by kernel_rfl) (by kernel_rfl) (s.blkN 5 rfl 0 4) ?_
 refine (aa 3 [0]) ?_
 refine OW.row (α := za) (e := 156) (enc := zb) (sz := 4) s rfl rfl rfl [(b.2 f), d] rfl (fun _ => rfl) rfl rfl (fun _ => by kernel_rfl) ?_
 intro js jt s
 refine OA.next ⟨(s.blkN 3 rfl 0 32), trivial⟩ ?_
 refine (aa 4 [0]) ((be c) fun e0 dz c => (fn) (zam dz (s.p []) (s.rd 7 rfl (fun _ => rfl) [] rfl (s.len 7 rfl).1) fun ju co => ⟨_, rfl, have s := s.j [] [0, 1, 2, 3, 4, 5, 6, 7] co; ?_⟩))
 refine OA.next ⟨(s.blkN 3 rfl 0 32), trivial⟩ ?_
 refine (aa 5 []) ((st s 1 (jU (zb) 8 (zW b.2 a2 ak))) fun jv s => ?_)
 refine OA.next trivial ?_
 refine (aa 6 []) (pu 1 [(5, I e0)] ?_)
 refine OA.next trivial ?_
 refine aF (qn (rt (bt (tr ?_))))
 obtain rfl := ij c
 exact QW.ret_ct rfl rfl (rl (cs := (jU (zb) 8 (zW b.2 a2 ak))) (s.blkN 1 rfl 0 32)) rfl (K y _ (s.k [0]))
theorem ziq {w Z J g r R} (q : ze8 g = some r) (s : St w Z w []) (H : Rd w Z J qo 2 g)
  (K : ∀ w', St w Z w' [] -> R (Rt (.tuple #[Ag [U r.1.Lo, U r.1.Hi], B r.2])) w') : Calls Tryz.prog 170 [J].toArray w R := by
 refine sr 35 Tryz.func170 rfl ?_
 obtain ⟨M, z, A, rfl⟩ := H.len
 refine rg ((al s [U 0, U 0]) fun C w7 s => pu 1 [] (nx (rg (pu 1 [(7, Ag [U 18446744073709551615, U 0])] ((al s [U 0, U 0]) fun i ad s => (st s 1 [U 18446744073709551615, U 0]) fun ae s => nx (sq (rg (pu 3 [(8, Sl z (g).length A), (9, I ((g).length : Int)), (10, I 0)] (nx ((be q) fun u D q => ?_))))))))))
 refine ck (fun a v => ∃ (t119 : zd), u = .inl t119 /\ Rep 35 [(0, Sl z (g).length A), (2, Pt C), (4, Pt i)] a /\ St w Z v [zs C 154 [U 0, U 0], zs i 154 [U t119.Lo, U t119.Hi]]) ?_ ?_
 ·refine bl ?_
  refine CW.loop (fun n a v => ∃ (e : Nat) (b : zd), e + n = (g).length /\ Rep 35 [(0, Sl z (g).length A), (2, Pt C), (4, Pt i), (8, Sl z (g).length A), (9, I ((g).length : Int)), (10, I (e : Int))] a /\ St w Z v [zs C 154 [U 0, U 0], zs i 154 [U b.Lo, U b.Hi]] /\ zQ (zdH g) (fun (b : zd) => (.inl b)) n e b = some u) (g).length (fun a l => ⟨0, (zd.mk 18446744073709551615 0), Nat.zero_add _, l.ag, s.keep [0, 1] rfl, D⟩) ?_
  rintro h a v ⟨e, b, m, l, s, c⟩
  refine go l (rg (pu 1 [(11, B (decide ((e : Int) < ((g).length : Int))))] (nx (sq ?_))))
  rcases zft (decide ((e : Int) < ((g).length : Int))) with f | f
  ·rcases h with _ | h
   ·exact (zb0 m f).elim
   refine ct f (sn (sq (bl (rg ((be c) fun d o c => ?_)))))
   obtain ⟨O, Q, T, t⟩ := H.formv (fun _ => ⟨_, rfl⟩) o
   refine (ix 154 2 o t) ((lN (qo d) (H.cellv s o t)) ((al s [U 0, U 0]) fun x V s => (st s 2 [U d.Lo, U d.Hi]) fun W s => nx (sq (rg ((lN [U d.Lo, U d.Hi] (s.blkN 2 rfl 0 2)) ((be c) fun r213 E c => (fn) (xQ E (s.p []) fun X y => ⟨_, rfl, have s := s.j [] [0, 1, 2] y; pu 1 [(16, B (!r213))] (nx (br c (fun c F => ?_) fun c F => ?_))⟩)))))))
   ·refine rg (pu 1 [(17, Ag [U 0, U 0])] ((st s 0 [U 0, U 0]) fun Y s => pu 1 [(3, B false)] (nx (rt (tr (bt (tr (tr (bt (tr ?_))))))))))
    obtain rfl := ij c
    obtain rfl := ij q
    exact QW.ret_ct rfl rfl (rl (cs := [U 0, U 0]) (s.blkN 0 rfl 0 2)) rfl (K _ (s.k []))
   refine sn (rn (pu 1 [(18, Pt i)] ((ld s 1) (pu 1 [(20, Pt x)] ((ld s 2) (pu 2 [(22, U (vH b.Lo d.Lo)), (23, Po i 1)] ((ld s 1) (pu 1 [(25, Po x 1)] ((ld s 2) (pu 2 [(28, Ag [U (vH b.Lo d.Lo), U (zay b.Hi d.Hi)])] ((st s 1 [U (vH b.Lo d.Lo), U (zay b.Hi d.Hi)]) fun aa s => nl (bn (qn (rn (pu 2 [(10, I (w64 ((e : Int) + 1)))] (nl ?_))))))))))))))))
   refine QW.say 10 rfl (congrArg (Value.int .i64) (zq f M)) ?_
   exact me fun a l => ⟨h, zls _, e + 1, (zd.mk (vH b.Lo d.Lo) (zay b.Hi d.Hi)), zm m, l.ag, s.k [0, 1], c⟩
  rcases h with _ | h
  ·refine cf f (ex (te (te (bh ?_))))
   obtain rfl := ij c
   exact me fun a l => ⟨b, rfl, l.ag, s.k [0, 1]⟩
  exact (zb1 m f).elim
 rintro a v ⟨t119, rfl, l, s⟩
 refine go l (sq (rg (pu 3 [(32, B (((g).length : Int) == 0))] (nx (br q (fun q G => ?_) fun q G => ?_)))))
 ·refine rg (pu 1 [(33, Ag [U 0, U 0])] ((st s 0 [U 0, U 0]) fun ab s => pu 1 [(3, B false)] (nx (rt (tr ?_)))))
  obtain rfl := ij q
  exact QW.ret_ct rfl rfl (rl (cs := [U 0, U 0]) (s.blkN 0 rfl 0 2)) rfl (K _ (s.k []))
 refine sn (rg ((lN [U t119.Lo, U t119.Hi] (s.blkN 1 rfl 0 2)) ((st s 0 [U t119.Lo, U t119.Hi]) fun ac s => pu 1 [(3, B true)] (nx (rt ?_)))))
 obtain rfl := ij q
 exact QW.ret_ct rfl rfl (rl (cs := [U t119.Lo, U t119.Hi]) (s.blkN 0 rfl 0 2)) rfl (K _ (s.k []))
theorem zgQ {w Z b c r R} (d : zcn b c = some r) (s : St w Z w [])
  (K : ∀ w', St w Z w' [] -> R (Rt (Ag [I r.Ki, U r.Sp.Lo, U r.Sp.Hi, I r.Map])) w') : Calls Tryz.prog 155 [Ag [I b.Ki, U b.Sp.Lo, U b.Sp.Hi, I b.Map], Ag [I c.Ki, U c.Sp.Lo, U c.Sp.Hi, I c.Map]].toArray w R := by
 refine sr 37 Tryz.func155 rfl (rg ((bx s [I b.Ki, U b.Sp.Lo, U b.Sp.Hi, I b.Map]) fun h T s => (bx s [I c.Ki, U c.Sp.Lo, U c.Sp.Hi, I c.Map]) fun i z s => (al s [I 0, U 0, U 0, I 0]) fun o A s => nx (sq (bl (sq ?_)))))
 refine ck (fun a y => Rep 37 [(2, Pt h), (3, Pt i), (4, Pt o), (7, B ((b.Ki != c.Ki) || (b.Map != c.Map)))] a /\ St w Z y [zs h 156 [I b.Ki, U b.Sp.Lo, U b.Sp.Hi, I b.Map], zs i 156 [I c.Ki, U c.Sp.Lo, U c.Sp.Hi, I c.Map], zs o 156 [I 0, U 0, U 0, I 0]]) ?_ fun a y ⟨l, s⟩ => go l (br d (fun d q => ?_) fun d q => ?_)
 ·refine rn (pu 1 [(8, Pt h)] ((ld s 0) (pu 1 [(10, Pt i)] ((ld s 1) (pu 2 [(13, B (b.Ki != c.Ki))] (sp 13 (fun g => ?_) fun g => ?_))))))
  ·refine pu 7 [(7, B true)] (nl ?_)
   exact QW.say 7 (v := B ((b.Ki != c.Ki) || (b.Map != c.Map))) rfl (by rw [g]; try rfl) (me fun a l => ⟨l.ag, s.k [0, 1, 2]⟩)
  refine pu 1 [(14, Po h 3)] ((ld s 0) (pu 1 [(16, Po i 3)] ((ld s 1) (pu 3 [(7, B (b.Map != c.Map))] (nl ?_)))))
  exact QW.say 7 (v := B ((b.Ki != c.Ki) || (b.Map != c.Map))) rfl (by rw [g]; try rfl) (me fun a l => ⟨l.ag, s.k [0, 1, 2]⟩)
 ·refine rg (pu 1 [(20, Ag [I 0, U 0, U 0, I 0])] ((st s 2 [I 0, U 0, U 0, I 0]) fun C s => nx (rt (bt (tr ?_)))))
  obtain rfl := ij d
  exact QW.ret_c rfl rfl (rl (cs := [I 0, U 0, U 0, I 0]) (s.blkN 2 rfl 0 4)) (K _ (s.k []))
 refine rg (pu 1 [(22, Pt h)] ((ld s 0) (pu 2 [(21, B (b.Ki == 1))] (nx (br d (fun d t => ?_) fun d t => ?_)))))
 ·refine rg (pu 1 [(26, Po h 1)] ((lN [U b.Sp.Lo, U b.Sp.Hi] (s.blkN 0 rfl 1 2)) (pu 1 [(28, Po i 1)] ((lN [U c.Sp.Lo, U c.Sp.Hi] (s.blkN 1 rfl 1 2)) ?_))))
  refine OW.row (α := zd) (e := 154) (enc := qo) (sz := 2) s rfl rfl rfl [b.Sp, c.Sp] rfl (fun _ => rfl) rfl rfl (fun _ => by kernel_rfl) ?_
  intro D E s
  refine (be d) fun r29 u d => (fn) (ziq u (s.p []) (s.rd 3 rfl (fun _ => rfl) [] rfl (s.len 3 rfl).1) fun F m => ⟨_, rfl, have s := s.j [] [0, 1, 2, 3] m; pu 3 [(32, Ag [U r29.1.Lo, U r29.1.Hi]), (33, B r29.2)] ((al s [U 0, U 0]) fun G H s => (st s 4 [U r29.1.Lo, U r29.1.Hi]) fun J s => pu 1 [] (nx (rg ((lN [U r29.1.Lo, U r29.1.Hi] (s.blkN 4 rfl 0 2)) ((be d) fun f x d => (fn) (xA x (s.p []) fun M n => ⟨_, rfl, have s := s.j [] [0, 1, 2, 3, 4] n; (st s 2 [I f.Ki, U f.Sp.Lo, U f.Sp.Hi, I f.Map]) fun O s => nx (rt (bt (tr ?_)))⟩))))))⟩)
  obtain rfl := ij d
  exact QW.ret_c rfl rfl (rl (cs := [I f.Ki, U f.Sp.Lo, U f.Sp.Hi, I f.Map]) (s.blkN 2 rfl 0 4)) (K _ (s.k []))
 refine sk (bn (qn (rg ((lN [I b.Ki, U b.Sp.Lo, U b.Sp.Hi, I b.Map] (s.blkN 0 rfl 0 4)) ((st s 2 [I b.Ki, U b.Sp.Lo, U b.Sp.Hi, I b.Map]) fun Q s => nx (rt ?_))))))
 obtain rfl := ij d
 exact QW.ret_c rfl rfl (rl (cs := [I b.Ki, U b.Sp.Lo, U b.Sp.Hi, I b.Map]) (s.blkN 2 rfl 0 4)) (K _ (s.k []))
theorem zaN {w Z wb Sb v0 S0 o h y r R} (t : zD o h y = some r) (s : St w Z w [itI (vr wb Sb) [v0] S0 o]) (hb : Bor wb Sb w Z)
  (K : ∀ (s0 : List Nat) w', St w Z w' [itI (vr wb Sb) [v0] s0 r] -> R (Rt (.tuple #[])) w') : Calls Tryz.prog 122 [v0, I h, .agg (jU (zb) 8 y).toArray].toArray w R := by
 refine sr 53 Tryz.func122 rfl ?_
 obtain ⟨z, rfl⟩ := s.fq 0
 refine rg ((bx s (jU (zb) 8 y)) fun b4 w5 s => nx (sq (sq ?_)))
 obtain ⟨v6, S7, v8, S9, cb, cc, cd, ce, cg, ch, s⟩ := s.o5 0
 have A := s.borOut 2 rfl
 have ah := A.bor hb
 have C := s.borOut 3 rfl
 have ai := C.bor hb
 refine have s := s.t1 4; have s := s.t1 5; have s := s.t1 6; have s := s.k [0, 1, 4, 5, 6]; ?_
 obtain ⟨ci, a6, a7, rfl⟩ := ah.len
 obtain ⟨cj, a8, a9, rfl⟩ := ai.len
 obtain ⟨ck, ba, bb, rfl⟩ := s.le 2
 obtain ⟨cl, bc, bd, rfl⟩ := s.le 3
 obtain ⟨cm, bf, bg, rfl⟩ := s.le 4
 have s : St _ _ _ [zs z 148 [Sl a6 (o.Module.Ms).length a7, Sl a8 (o.Module.Co).length a9, Sl ba (o.ca).length bb, Sl bc (o.any).length bd, Sl bf (o.loops).length bg], _, _, _, _] := s
 refine rn (pu 3 [(9, Po z 3)] ((ld s 0) (pu 1 [(11, I h)] ((be t) fun bi l t => ?_))))
 obtain ⟨cn, co, cp, T⟩ := s.rowv 3 rfl l
 refine (ix 4 1 l T) ?_
 refine OW.ld rfl rfl rfl rfl (by kernel_rfl) (s.rowc 3 rfl (fun _ => rfl) l T 0 _ rfl) ?_
 refine pu 1 [(14, B (!bi))] (nx (br t (fun t am => ?_) fun t am => ?_))
 ·refine sq ?_
  refine CW.plan (by kernel_rfl) ?_
  intro cq aj
  have s := s.same aj
  refine ap [0, 1, 2] [(17, Po z 3)] ((ad 3 s 0) (ap [4, 5, 6, 7] [(19, I h), (22, Po z 2)] ((ad 8 s 0) (ap [9] [(24, I h)] ?_))))
  refine OA.ldN (i := 10) (cs := (jU (zb) 8 y)) rfl (by kernel_rfl) rfl rfl rfl (by kernel_rfl) (by kernel_rfl) (s.blkN 1 rfl 0 32) ?_
  obtain ⟨cr, cu, cv, V⟩ := s.rowv 3 rfl l
  refine OA.idx (i := 11) 4 1 rfl (by kernel_rfl) rfl rfl rfl V rfl (zh l).1 (zh l).2.1 (by kernel_rfl) (by kernel_rfl) ?_
  refine (aa 12 [10]) ?_
  refine OW.stR s 3 rfl V (fun _ => rfl) rfl rfl l 0 rfl rfl rfl (by kernel_rfl) rfl rfl true rfl ?_
  intro cw s
  refine OA.next ⟨(s.blkN 1 rfl 0 32), trivial⟩ ?_
  refine (be t) fun cx D t => ?_
  obtain ⟨cy, cz, c0, W⟩ := s.rowv 2 rfl D
  refine OA.idx (i := 13) 158 32 rfl (by kernel_rfl) rfl rfl rfl W rfl (zh D).1 (zh D).2.1 (by kernel_rfl) (by kernel_rfl) ?_
  refine (aa 14 []) ?_
  refine OW.stR s 2 rfl W (fun _ => rfl) rfl rfl D 0 rfl rfl rfl (by kernel_rfl) rfl rfl y rfl ?_
  intro c1 s
  refine OA.next trivial ?_
  refine aF (qn (rt (tr ?_)))
  have s := s.borIn A
  have s := s.borIn C
  refine have s := s.ti 2; have s := s.ti 3; have s := s.ti 4; ?_
  obtain ⟨bj, s⟩ := s.s5 (zaO wb Sb) 0 5 6 2 3 4 [1] (ze.mk o.Module (o.ca.set (Int.toNat h) y) (o.any.set (Int.toNat h) true) o.loops)
  obtain rfl := ij t
  exact QW.ret0 rfl (K bj _ (s.k [1]))
 refine sn (rg (pu 1 [(28, I 0)] (nx ((be t) fun X ak t => ?_))))
 refine CW.cutQ (fun a Y => ∃ (J : List Nat), Rep 53 [] a /\ St w Z Y [itI (vr wb Sb) [Pt z] J X]) ?_ ?_
 ·refine bl ?_
  have s := s.borIn A
  have s := s.borIn C
  refine have s := s.ti 2; have s := s.ti 3; have s := s.ti 4; ?_
  obtain ⟨an, s⟩ := s.s5 (zaO wb Sb) 0 5 6 2 3 4 [1] o
  refine CW.loop (fun n a Y => ∃ (c : Nat) (b : ze) (M : List Nat), c + n = 8 /\ Rep 53 [(0, Pt z), (1, I h), (5, Pt b4), (28, I (c : Int))] a /\ St w Z Y [itI (vr wb Sb) [Pt z] M b, zs b4 158 (jU (zb) 8 y)] /\ zQ (qf h y) (fun (b : ze) => b) n c b = some X) 8 (fun a m => ⟨0, o, an, Nat.zero_add _, m.ag, s.keep [1, 0] rfl, ak⟩) ?_
  rintro u a Y ⟨c, b, M, E, m, s, e⟩
  refine go m (rg (pu 1 [(29, B (decide ((c : Int) < 8)))] (nx (sq ?_))))
  rcases zft (decide ((c : Int) < 8)) with g | g
  ·rcases u with _ | u
   ·exact (zb0 E g).elim
   refine ct g (sn (sq (bl (rg (pu 2 [(6, I (c : Int))] (nx ?_))))))
   obtain ⟨bk, bm, bo, bp, bq, bs, bt, bu, bv, bw, s⟩ := s.o5 0
   have G := s.borOut 2 rfl
   have ab := G.bor hb
   have H := s.borOut 3 rfl
   have ac := H.bor hb
   refine have s := s.t1 4; have s := s.t1 5; have s := s.t1 6; have s := s.k [0, 1, 4, 5, 6]; ?_
   obtain ⟨bz, ao, aq, rfl⟩ := ab.len
   obtain ⟨b0, ar, au, rfl⟩ := ac.len
   obtain ⟨b2, av, aw, rfl⟩ := s.le 2
   obtain ⟨b3, ax, ay, rfl⟩ := s.le 3
   obtain ⟨b5, az, a0, rfl⟩ := s.le 4
   have s : St _ _ _ [zs z 148 [Sl ao (b.Module.Ms).length aq, Sl ar (b.Module.Co).length au, Sl av (b.ca).length aw, Sl ax (b.any).length ay, Sl az (b.loops).length a0], _, _, _, _] := s
   refine CW.plan (by kernel_rfl) ?_
   intro b6 ae
   have s := s.same ae
   refine ap [0, 1, 2] [(33, Po z 2)] ((ad 3 s 0) (ap [4, 5, 6, 7, 8] [(35, I h), (36, I (c : Int)), (39, Po z 2)] ((ad 9 s 0) (ap [10, 11] [(41, I h), (42, I (c : Int))] ((be e) fun q f e => ?_)))))
   obtain ⟨a1, a2, b7, O⟩ := s.rowv 2 rfl f
   refine OA.idx (i := 12) 158 32 rfl (by kernel_rfl) rfl rfl rfl O rfl (zh f).1 (zh f).2.1 (by kernel_rfl) (by kernel_rfl) ?_
   refine (be e) fun x d e => ?_
   refine OA.val (i := 13) (v := .pointer (some ⟨a1, a2 + Int.toNat h * 32 + 0 + Int.toNat (c : Int) * 4, none⟩)) rfl (by kernel_rfl) rfl rfl rfl rfl (fun a w m => zy (n := 8) 156 4 rfl rfl rfl (zn d).1 (zn d).2.1 (by kernel_rfl) (by kernel_rfl) a w m) ?_
   refine OA.ldN (i := 14) (cs := zb (q x)) rfl (by kernel_rfl) rfl rfl rfl (by kernel_rfl) (by kernel_rfl) (zd5 (s.rowc 2 rfl (fun _ => rfl) f O) zb (fun _ => rfl) 8 q 0 rfl rfl d) ?_
   refine ap [15] [(46, I (c : Int))] ?_
   refine OA.val (i := 16) (v := .pointer (some ⟨b4, 0 + Int.toNat (c : Int) * 4, none⟩)) rfl (by kernel_rfl) rfl rfl rfl rfl (fun a w m => zy (n := 8) 156 4 rfl rfl rfl (zn d).1 (zn d).2.1 (by kernel_rfl) (by kernel_rfl) a w m) ?_
   refine OA.ldN (i := 17) (cs := zb (y x)) rfl (by kernel_rfl) rfl rfl rfl (by kernel_rfl) (by kernel_rfl) (s.arrB 1 rfl zb (fun _ => rfl) 8 y 0 rfl rfl d) ?_
   obtain ⟨a3, a4, b8, Q⟩ := s.rowv 2 rfl f
   refine OA.idx (i := 19) 158 32 rfl (by kernel_rfl) rfl rfl rfl Q rfl (zh f).1 (zh f).2.1 (by kernel_rfl) (by kernel_rfl) ?_
   refine (aa 18 [3]) ((be e) fun F al e => (fn) (zgQ al (s.p []) fun b9 af => ⟨_, rfl, have s := s.j [] [0, 1, 2, 3, 4] af; ?_⟩))
   refine OA.next ⟨(s.blk 0 rfl rfl), trivial⟩ ?_
   refine OA.val (i := 20) (v := .pointer (some ⟨a3, a4 + Int.toNat h * 32 + 0 + Int.toNat (c : Int) * 4, none⟩)) rfl (by kernel_rfl) rfl rfl rfl rfl (fun a w m => zy (n := 8) 156 4 rfl rfl rfl (zn d).1 (zn d).2.1 (by kernel_rfl) (by kernel_rfl) a w m) ?_
   refine (aa 21 []) ?_
   refine OW.stRA s 2 rfl Q (fun _ => rfl) rfl rfl f rfl rfl (by kernel_rfl) rfl zb (fun _ => rfl) 8 q 0 rfl rfl d 0 rfl rfl F rfl (zW q x F) rfl ?_
   intro ca s
   refine OA.next trivial ?_
   refine aF (bn (qn (rn (pu 2 [(28, I (w64 ((c : Int) + 1)))] (nl ?_)))))
   have s := s.borIn G
   have s := s.borIn H
   refine have s := s.ti 2; have s := s.ti 3; have s := s.ti 4; ?_
   obtain ⟨a5, s⟩ := s.s5 (zaO wb Sb) 0 5 6 2 3 4 [1] (ze.mk b.Module (b.ca.set (Int.toNat h) (zW q x F)) b.any b.loops)
   refine QW.say 28 rfl (congrArg (Value.int .i64) (zq g (by decide))) ?_
   exact me fun a m => ⟨u, zls _, c + 1, (ze.mk b.Module (b.ca.set (Int.toNat h) (zW q x F)) b.any b.loops), a5, zm E, m.ag, s.k [1, 0], e⟩
  rcases u with _ | u
  ·refine cf g (ex (te (te (bh ?_))))
   obtain rfl := ij e
   exact me fun a m => ⟨M, m.ag, s.k [0]⟩
  exact (zb1 E g).elim
 rintro a Y ⟨J, m, s⟩
 refine QW.go ?_ m
 obtain rfl := ij t
 exact QW.end0 rfl (K J _ (s.k [0]))
theorem zeJ {w Z b c d r R} (s : zaH b c d = some r) (a : St w Z w [])
  (K : ∀ w', St w Z w' [] -> R (Rt (.tuple #[B r.1, B r.2])) w') : Calls Tryz.prog 63 [I b, U c, U d].toArray w R := by
 refine sr 29 Tryz.func63 rfl (rg (pu 2 [] (nx (sq (rg (pu 1 [(8, I b)] (nx (bl (rg (pu 2 [(9, B (b == 16))] (nx (br s (fun s e => ?_) fun s e => ?_))))))))))))
 ·refine rg (pu 5 [(6, B (c == d)), (7, B true)] (nx (rt (bt (tr ?_)))))
  obtain rfl := ij s
  exact r2 (K _ (a.k []))
 refine rg (pu 2 [(14, B (b == 17))] (nx (br s (fun s f => ?_) fun s f => ?_)))
 ·refine rg (pu 5 [(6, B (c != d)), (7, B true)] (nx (rt (bt (tr ?_)))))
  obtain rfl := ij s
  exact r2 (K _ (a.k []))
 refine rg (pu 2 [(19, B (b == 18))] (nx (br s (fun s g => ?_) fun s g => ?_)))
 ·refine rg (pu 5 [(6, B (decide (c < d))), (7, B true)] (nx (rt (bt (tr ?_)))))
  obtain rfl := ij s
  exact r2 (K _ (a.k []))
 refine rg (pu 2 [(24, B (b == 19))] (nx (br s (fun s h => ?_) fun s h => ?_)))
 ·refine rg (pu 5 [(6, B (decide (c >= d))), (7, B true)] (nx (rt (bt (tr ?_)))))
  obtain rfl := ij s
  exact r2 (K _ (a.k []))
 refine sk (bn (qn (rg (pu 2 [(6, B false), (7, B false)] (nx (rt ?_))))))
 obtain rfl := ij s
 exact r2 (K _ (a.k []))
theorem zdX {w Z X i r R} (m : vt i = some r) (s : St w Z w []) (T : Rd w Z X qo 2 i)
  (K : ∀ w', St w Z w' [] -> R (Rt (.tuple #[Ag [U r.1.Lo, U r.1.Hi], B r.2])) w') : Calls Tryz.prog 156 [X].toArray w R := by
 refine sr 40 Tryz.func156 rfl ?_
 obtain ⟨Y, D, E, rfl⟩ := T.len
 refine rg ((al s [U 0, U 0]) fun x w7 s => pu 1 [] (nx (rg ((be m) fun r15 V m => (fn) (vj V (s.p []) fun an F => ⟨_, rfl, have s := s.j [] [0] F; (al s [U 0, U 0]) fun l ao s => (st s 1 [U r15.Lo, U r15.Hi]) fun ap s => nx (sq (rg (pu 3 [(8, Sl D (i).length E), (9, I ((i).length : Int)), (10, I 0)] (nx ((be m) fun y G m => ?_)))))⟩)))))
 refine ck (fun a u => ∃ (t128 : zd), y = .inl t128 /\ Rep 40 [(0, Sl D (i).length E), (2, Pt x), (4, Pt l)] a /\ St w Z u [zs x 154 [U 0, U 0], zs l 154 [U t128.Lo, U t128.Hi]]) ?_ ?_
 ·refine bl ?_
  refine CW.loop (fun n a u => ∃ (f : Nat) (b : zd), f + n = (i).length /\ Rep 40 [(0, Sl D (i).length E), (2, Pt x), (4, Pt l), (8, Sl D (i).length E), (9, I ((i).length : Int)), (10, I (f : Int))] a /\ St w Z u [zs x 154 [U 0, U 0], zs l 154 [U b.Lo, U b.Hi]] /\ zQ (zco i) (fun (b : zd) => (.inl b)) n f b = some y) (i).length (fun a h => ⟨0, r15, Nat.zero_add _, h.ag, s.keep [0, 1] rfl, G⟩) ?_
  rintro o a u ⟨f, b, q, h, s, c⟩
  refine go h (rg (pu 1 [(11, B (decide ((f : Int) < ((i).length : Int))))] (nx (sq ?_))))
  rcases zft (decide ((f : Int) < ((i).length : Int))) with g | g
  ·rcases o with _ | o
   ·exact (zb0 q g).elim
   refine ct g (sn (sq (bl (rg ((be c) fun d t c => ?_)))))
   obtain ⟨aa, ab, ac, v⟩ := T.formv (fun _ => ⟨_, rfl⟩) t
   refine (ix 154 2 t v) ((lN (qo d) (T.cellv s t v)) ((al s [U 0, U 0]) fun z ad s => (st s 2 [U d.Lo, U d.Hi]) fun ae s => nx (sq (rg ((lN [U d.Lo, U d.Hi] (s.blkN 2 rfl 0 2)) ((be c) fun r222 H c => (fn) (xQ H (s.p []) fun af A => ⟨_, rfl, have s := s.j [] [0, 1, 2] A; pu 1 [(16, B (!r222))] (nx (br c (fun c J => ?_) fun c J => ?_))⟩)))))))
   ·refine rg (pu 1 [(17, Ag [U 0, U 0])] ((st s 0 [U 0, U 0]) fun ah s => pu 1 [(3, B false)] (nx (rt (tr (bt (tr (tr (bt (tr ?_))))))))))
    obtain rfl := ij c
    obtain rfl := ij m
    exact QW.ret_ct rfl rfl (rl (cs := [U 0, U 0]) (s.blkN 0 rfl 0 2)) rfl (K _ (s.k []))
   refine sn (rn (pu 1 [(18, Pt l)] ((ld s 1) (pu 1 [(20, Pt z)] ((ld s 2) (pu 2 [(22, U (zay b.Lo d.Lo)), (23, Po l 1)] ((ld s 1) (pu 1 [(25, Po z 1)] ((ld s 2) (pu 2 [(28, Ag [U (zay b.Lo d.Lo), U (vH b.Hi d.Hi)])] ((st s 1 [U (zay b.Lo d.Lo), U (vH b.Hi d.Hi)]) fun ai s => nl (bn (qn (rn (pu 2 [(10, I (w64 ((f : Int) + 1)))] (nl ?_))))))))))))))))
   refine QW.say 10 rfl (congrArg (Value.int .i64) (zq g Y)) ?_
   exact me fun a h => ⟨o, zls _, f + 1, (zd.mk (zay b.Lo d.Lo) (vH b.Hi d.Hi)), zm q, h.ag, s.k [0, 1], c⟩
  rcases o with _ | o
  ·refine cf g (ex (te (te (bh ?_))))
   obtain rfl := ij c
   exact me fun a h => ⟨b, rfl, h.ag, s.k [0, 1]⟩
  exact (zb1 q g).elim
 rintro a u ⟨t128, rfl, h, s⟩
 refine go h (sq (sq ((be m) fun W e m => ?_)))
 refine ck (fun a u => Rep 40 [(2, Pt x), (4, Pt l), (37, B W)] a /\ St w Z u [zs x 154 [U 0, U 0], zs l 154 [U t128.Lo, U t128.Hi]]) ?_ fun a u ⟨h, s⟩ => go h (br m (fun m M => ?_) fun m M => ?_)
 ·refine rn (pu 4 [(33, B (((i).length : Int) == 0))] (si 33 e (fun e O => ?_) fun e O => ?_))
  ·refine pu 4 [(37, B true)] (nl ?_)
   obtain rfl := ij e
   exact me fun a h => ⟨h.ag, s.k [0, 1]⟩
  refine (lN [U t128.Lo, U t128.Hi] (s.blkN 1 rfl 0 2)) ((be e) fun r239 Q e => (fn) (xQ Q (s.p []) fun aj C => ⟨_, rfl, have s := s.j [] [0, 1] C; pu 2 [(37, B (!r239))] (nl ?_)⟩))
  obtain rfl := ij e
  exact me fun a h => ⟨h.ag, s.k [0, 1]⟩
 ·refine rg (pu 1 [(38, Ag [U 0, U 0])] ((st s 0 [U 0, U 0]) fun ak s => pu 1 [(3, B false)] (nx (rt (tr ?_)))))
  obtain rfl := ij m
  exact QW.ret_ct rfl rfl (rl (cs := [U 0, U 0]) (s.blkN 0 rfl 0 2)) rfl (K _ (s.k []))
 refine sn (rg ((lN [U t128.Lo, U t128.Hi] (s.blkN 1 rfl 0 2)) ((st s 0 [U t128.Lo, U t128.Hi]) fun am s => pu 1 [(3, B true)] (nx (rt ?_)))))
 obtain rfl := ij m
 exact QW.ret_ct rfl rfl (rl (cs := [U t128.Lo, U t128.Hi]) (s.blkN 0 rfl 0 2)) rfl (K _ (s.k []))
theorem zeK {w Z i b d o r R} (c : jI i b d o = some r) (s : St w Z w [])
  (K : ∀ w', St w Z w' [] -> R (Rt (.tuple #[Ag [U r.1.Lo, U r.1.Hi], B r.2])) w') : Calls Tryz.prog 123 [I i, Ag [U b.Lo, U b.Hi], Ag [U d.Lo, U d.Hi], B o].toArray w R := by
 refine sr 116 Tryz.func123 rfl (rg ((bx s [U b.Lo, U b.Hi]) fun n w8 s => (bx s [U d.Lo, U d.Hi]) fun t bb s => (al s [U 0, U 0]) fun m bc s => pu 1 [] (nx (rg (pu 1 [(14, I i)] ((be c) fun r17 Y c => (fn) (zeJ Y (s.p []) fun bd D => ⟨_, rfl, have s := s.j [] [0, 1, 2] D; pu 5 [(11, B r17.2)] (nx (sq (bl (sq ((be c) fun au g c => ?_)))))⟩)))))))
 refine ck (fun a q => Rep 116 [(0, I i), (3, B o), (5, Pt n), (6, Pt t), (8, Pt m), (18, B au)] a /\ St w Z q [zs n 154 [U b.Lo, U b.Hi], zs t 154 [U d.Lo, U d.Hi], zs m 154 [U 0, U 0]]) ?_ fun a q ⟨f, s⟩ => go f (br c (fun c aa => ?_) fun c aa => ?_)
 ·refine rn (pu 3 [(21, B (!r17.2))] (si 21 g (fun g ab => ?_) fun g ab => ?_))
  ·refine pu 10 [(18, B true)] (nl ?_)
   obtain rfl := ij g
   exact me fun a f => ⟨f.ag, s.k [0, 1, 2]⟩
  refine (lN [U b.Lo, U b.Hi] (s.blkN 0 rfl 0 2)) ((be g) fun av ac g => (fn) (xQ ac (s.p []) fun bf E => ⟨_, rfl, have s := s.j [] [0, 1, 2] E; pu 3 [(26, B (!av))] (si 26 g (fun g ad => ?_) fun g ad => ?_)⟩))
  ·refine pu 5 [(18, B true)] (nl ?_)
   obtain rfl := ij g
   exact me fun a f => ⟨f.ag, s.k [0, 1, 2]⟩
  refine (lN [U d.Lo, U d.Hi] (s.blkN 1 rfl 0 2)) ((be g) fun aw ae g => (fn) (xQ ae (s.p []) fun bg F => ⟨_, rfl, have s := s.j [] [0, 1, 2] F; pu 3 [(18, B (!aw))] (nl ?_)⟩))
  obtain rfl := ij g
  exact me fun a f => ⟨f.ag, s.k [0, 1, 2]⟩
 ·refine rg (pu 1 [(31, Ag [U 0, U 0])] ((st s 2 [U 0, U 0]) fun bh s => pu 1 [(9, B false)] (nx (rt (bt (tr ?_))))))
  obtain rfl := ij c
  exact QW.ret_ct rfl rfl (rl (cs := [U 0, U 0]) (s.blkN 2 rfl 0 2)) rfl (K _ (s.k []))
 refine rg ((lN [U d.Lo, U d.Hi] (s.blkN 1 rfl 0 2)) ((be c) fun ax af c => (fn) (zbE af (s.p []) fun bi G => ⟨_, rfl, have s := s.j [] [0, 1, 2] G; pu 2 [(32, B (!ax))] (nx (br c (fun c ah => ?_) fun c ah => ?_))⟩)))
 ·refine rg ((lN [U b.Lo, U b.Hi] (s.blkN 0 rfl 0 2)) ((st s 2 [U b.Lo, U b.Hi]) fun bj s => pu 1 [(9, B true)] (nx (rt (bt (tr ?_))))))
  obtain rfl := ij c
  exact QW.ret_ct rfl rfl (rl (cs := [U b.Lo, U b.Hi]) (s.blkN 2 rfl 0 2)) rfl (K _ (s.k []))
 refine sk (bn (qn (rg (pu 1 [(37, Pt t)] ((ld s 1) (pu 1 [(12, U d.Lo)] (nx (sq (bl (sq (sq ?_)))))))))))
 refine ck (fun a q => Rep 116 [(0, I i), (3, B o), (5, Pt n), (6, Pt t), (8, Pt m), (12, U d.Lo), (39, B ((i == 18) && o))] a /\ St w Z q [zs n 154 [U b.Lo, U b.Hi], zs t 154 [U d.Lo, U d.Hi], zs m 154 [U 0, U 0]]) ?_ fun a q ⟨f, s⟩ => go f ((be c) fun ay l c => ?_)
 ·refine rn (pu 3 [(42, B (i == 18))] (sp 42 (fun A => ?_) fun A => ?_))
  ·refine pu 3 [(39, B o)] (nl ?_)
   exact QW.say 39 (v := B ((i == 18) && o)) rfl (by rw [A]; try rfl) (me fun a f => ⟨f.ag, s.k [0, 1, 2]⟩)
  refine pu 3 [(39, B false)] (nl ?_)
  exact QW.say 39 (v := B ((i == 18) && o)) rfl (by rw [A]; try rfl) (me fun a f => ⟨f.ag, s.k [0, 1, 2]⟩)
 refine ck (fun a q => Rep 116 [(0, I i), (3, B o), (5, Pt n), (6, Pt t), (8, Pt m), (12, U d.Lo), (39, B ay)] a /\ St w Z q [zs n 154 [U b.Lo, U b.Hi], zs t 154 [U d.Lo, U d.Hi], zs m 154 [U 0, U 0]]) ?_ fun a q ⟨f, s⟩ => go f (br c (fun c ai => ?_) fun c ai => ?_)
 ·refine br l (fun l aj => ?_) fun l aj => ?_
  ·refine sk ?_
   obtain rfl := ij l
   exact me fun a f => ⟨f.ag, s.k [0, 1, 2]⟩
  refine rn (pu 3 [(47, B (i == 19))] (si 47 l (fun l ak => ?_) fun l ak => ?_))
  ·refine pu 4 [(39, B (!o))] (nl ?_)
   obtain rfl := ij l
   exact me fun a f => ⟨f.ag, s.k [0, 1, 2]⟩
  refine pu 4 [(39, B false)] (nl ?_)
  obtain rfl := ij l
  exact me fun a f => ⟨f.ag, s.k [0, 1, 2]⟩
 ·refine sq (rg (pu 2 [(52, B (d.Lo == 0))] (nx (br c (fun c am => ?_) fun c am => ?_))))
  ·refine rg (pu 1 [(53, Ag [U 0, U 0])] ((st s 2 [U 0, U 0]) fun bk s => pu 1 [(9, B false)] (nx (rt (tr (bt (tr ?_)))))))
   obtain rfl := ij c
   exact QW.ret_ct rfl rfl (rl (cs := [U 0, U 0]) (s.blkN 2 rfl 0 2)) rfl (K _ (s.k []))
  refine sn (rg ((lN [U b.Lo, U b.Hi] (s.blkN 0 rfl 0 2)) (pu 3 [(57, Ag [U 0, U (zp (d.Lo - 1))])] ?_)))
  refine OW.row (α := zd) (e := 154) (enc := qo) (sz := 2) s rfl rfl rfl [b, (zd.mk 0 (zp (d.Lo - 1)))] rfl (fun _ => rfl) rfl rfl (fun _ => by kernel_rfl) ?_
  intro bm bo s
  refine (be c) fun u an c => (fn) (zdX an (s.p []) (s.rd 3 rfl (fun _ => rfl) [] rfl (s.len 3 rfl).1) fun bp H => ⟨_, rfl, have s := s.j [] [0, 1, 2, 3] H; pu 2 [(60, Ag [U u.1.Lo, U u.1.Hi]), (61, B u.2)] ((st s 2 [U u.1.Lo, U u.1.Hi]) fun bq s => pu 1 [(9, B u.2)] (nx (rt (bt (tr ?_)))))⟩)
  obtain rfl := ij c
  exact QW.ret_ct rfl rfl (rl (cs := [U u.1.Lo, U u.1.Hi]) (s.blkN 2 rfl 0 2)) rfl (K _ (s.k []))
 refine sq (rg (pu 3 [(62, B (i == 18))] (nx ((be c) fun az y c => ?_))))
 refine ck (fun a q => Rep 116 [(0, I i), (3, B o), (5, Pt n), (6, Pt t), (8, Pt m), (12, U d.Lo), (62, B az)] a /\ St w Z q [zs n 154 [U b.Lo, U b.Hi], zs t 154 [U d.Lo, U d.Hi], zs m 154 [U 0, U 0]]) ?_ fun a q ⟨f, s⟩ => go f (br c (fun c ao => ?_) fun c ao => ?_)
 ·refine br y (fun y ap => ?_) fun y ap => ?_
  ·refine sk ?_
   obtain rfl := ij y
   exact me fun a f => ⟨f.ag, s.k [0, 1, 2]⟩
  refine rn (pu 3 [(62, B (i == 19))] (nl ?_))
  obtain rfl := ij y
  exact me fun a f => ⟨f.ag, s.k [0, 1, 2]⟩
 ·refine rg ((lN [U b.Lo, U b.Hi] (s.blkN 0 rfl 0 2)) (pu 2 [(69, Ag [U d.Lo, U 18446744073709551615])] ?_))
  refine OW.row (α := zd) (e := 154) (enc := qo) (sz := 2) s rfl rfl rfl [b, (zd.mk d.Lo 18446744073709551615)] rfl (fun _ => rfl) rfl rfl (fun _ => by kernel_rfl) ?_
  intro bs bu s
  refine (be c) fun x aq c => (fn) (zdX aq (s.p []) (s.rd 3 rfl (fun _ => rfl) [] rfl (s.len 3 rfl).1) fun bv J => ⟨_, rfl, have s := s.j [] [0, 1, 2, 3] J; pu 2 [(72, Ag [U x.1.Lo, U x.1.Hi]), (73, B x.2)] ((st s 2 [U x.1.Lo, U x.1.Hi]) fun a0 s => pu 1 [(9, B x.2)] (nx (rt (bt (tr ?_)))))⟩)
  obtain rfl := ij c
  exact QW.ret_ct rfl rfl (rl (cs := [U x.1.Lo, U x.1.Hi]) (s.blkN 2 rfl 0 2)) rfl (K _ (s.k []))
 refine sq (sq ?_)
 refine ck (fun a q => Rep 116 [(0, I i), (3, B o), (5, Pt n), (6, Pt t), (8, Pt m), (12, U d.Lo), (74, B ((i == 16) && o))] a /\ St w Z q [zs n 154 [U b.Lo, U b.Hi], zs t 154 [U d.Lo, U d.Hi], zs m 154 [U 0, U 0]]) ?_ fun a q ⟨f, s⟩ => go f ((be c) fun ar h c => ?_)
 ·refine rn (pu 3 [(77, B (i == 16))] (sp 77 (fun z => ?_) fun z => ?_))
  ·refine pu 3 [(74, B o)] (nl ?_)
   exact QW.say 74 (v := B ((i == 16) && o)) rfl (by rw [z]; try rfl) (me fun a f => ⟨f.ag, s.k [0, 1, 2]⟩)
  refine pu 3 [(74, B false)] (nl ?_)
  exact QW.say 74 (v := B ((i == 16) && o)) rfl (by rw [z]; try rfl) (me fun a f => ⟨f.ag, s.k [0, 1, 2]⟩)
 refine ck (fun a q => Rep 116 [(5, Pt n), (6, Pt t), (8, Pt m), (12, U d.Lo), (74, B ar)] a /\ St w Z q [zs n 154 [U b.Lo, U b.Hi], zs t 154 [U d.Lo, U d.Hi], zs m 154 [U 0, U 0]]) ?_ fun a q ⟨f, s⟩ => go f (br c (fun c M => ?_) fun c M => ?_)
 ·refine br h (fun h O => ?_) fun h O => ?_
  ·refine sk ?_
   obtain rfl := ij h
   exact me fun a f => ⟨f.ag, s.k [0, 1, 2]⟩
  refine rn (pu 3 [(82, B (i == 17))] (si 82 h (fun h Q => ?_) fun h Q => ?_))
  ·refine pu 4 [(74, B (!o))] (nl ?_)
   obtain rfl := ij h
   exact me fun a f => ⟨f.ag, s.k [0, 1, 2]⟩
  refine pu 4 [(74, B false)] (nl ?_)
  obtain rfl := ij h
  exact me fun a f => ⟨f.ag, s.k [0, 1, 2]⟩
 ·refine rg ((lN [U b.Lo, U b.Hi] (s.blkN 0 rfl 0 2)) ((lN [U d.Lo, U d.Hi] (s.blkN 1 rfl 0 2)) ?_))
  refine OW.row (α := zd) (e := 154) (enc := qo) (sz := 2) s rfl rfl rfl [b, d] rfl (fun _ => rfl) rfl rfl (fun _ => by kernel_rfl) ?_
  intro a1 a2 s
  refine (be c) fun r118 T c => (fn) (zdX T (s.p []) (s.rd 3 rfl (fun _ => rfl) [] rfl (s.len 3 rfl).1) fun a3 C => ⟨_, rfl, have s := s.j [] [0, 1, 2, 3] C; pu 2 [(90, Ag [U r118.1.Lo, U r118.1.Hi]), (91, B r118.2)] ((st s 2 [U r118.1.Lo, U r118.1.Hi]) fun a4 s => pu 1 [(9, B r118.2)] (nx (rt (bt (tr ?_)))))⟩)
  obtain rfl := ij c
  exact QW.ret_ct rfl rfl (rl (cs := [U r118.1.Lo, U r118.1.Hi]) (s.blkN 2 rfl 0 2)) rfl (K _ (s.k []))
 refine rg ((lN [U b.Lo, U b.Hi] (s.blkN 0 rfl 0 2)) ((lN [U d.Lo, U d.Hi] (s.blkN 1 rfl 0 2)) ?_))
 refine OW.op (v := B ((b.Lo == d.Lo) && ((b.Hi == d.Hi) && true))) rfl rfl rfl rfl (fun a f => zgL rfl rfl rfl (by kernel_rfl) (by kernel_rfl) a _ f) ?_
 refine pu 1 [(92, B ((b.Lo == d.Lo) && ((b.Hi == d.Hi) && true)))] (nx (br c (fun c V => ?_) fun c V => ?_))
 ·refine rg (pu 1 [(96, Ag [U 0, U 0])] ((st s 2 [U 0, U 0]) fun a5 s => pu 1 [(9, B false)] (nx (rt (bt (tr ?_))))))
  obtain rfl := ij c
  exact QW.ret_ct rfl rfl (rl (cs := [U 0, U 0]) (s.blkN 2 rfl 0 2)) rfl (K _ (s.k []))
 refine rg (pu 1 [(98, Pt n)] ((ld s 0) (pu 3 [(97, B (b.Lo == d.Lo))] (nx (br c (fun c W => ?_) fun c W => ?_)))))
 ·refine rn (pu 1 [(102, Pt n)] ((ld s 0) (pu 2 [(104, U (zp (b.Lo + 1))), (105, Pt n)] ((st s 0 [U (zp (b.Lo + 1)), U b.Hi]) fun a6 s => nl (bn (qn (rg ((lN [U (zp (b.Lo + 1)), U b.Hi] (s.blkN 0 rfl 0 2)) ((st s 2 [U (zp (b.Lo + 1)), U b.Hi]) fun a7 s => pu 1 [(9, B true)] (nx (rt ?_)))))))))))
  obtain rfl := ij c
  exact QW.ret_ct rfl rfl (rl (cs := [U (zp (b.Lo + 1)), U b.Hi]) (s.blkN 2 rfl 0 2)) rfl (K _ (s.k []))
 refine rg (pu 1 [(107, Po n 1)] ((ld s 0) (pu 3 [(106, B (b.Hi == d.Lo))] (nx (br c (fun c X => ?_) fun c X => ?_)))))
 ·refine rn (pu 1 [(111, Po n 1)] ((ld s 0) (pu 2 [(113, U (zp (b.Hi - 1))), (114, Po n 1)] ((st s 0 [U b.Lo, U (zp (b.Hi - 1))]) fun a8 s => nl (bn (qn (rg ((lN [U b.Lo, U (zp (b.Hi - 1))] (s.blkN 0 rfl 0 2)) ((st s 2 [U b.Lo, U (zp (b.Hi - 1))]) fun a9 s => pu 1 [(9, B true)] (nx (rt ?_)))))))))))
  obtain rfl := ij c
  exact QW.ret_ct rfl rfl (rl (cs := [U b.Lo, U (zp (b.Hi - 1))]) (s.blkN 2 rfl 0 2)) rfl (K _ (s.k []))
 refine sk (bn (qn (rg ((lN [U b.Lo, U b.Hi] (s.blkN 0 rfl 0 2)) ((st s 2 [U b.Lo, U b.Hi]) fun ba s => pu 1 [(9, B true)] (nx (rt ?_)))))))
 obtain rfl := ij c
 exact QW.ret_ct rfl rfl (rl (cs := [U b.Lo, U b.Hi]) (s.blkN 2 rfl 0 2)) rfl (K _ (s.k []))
theorem ze0 {w Z wb Sb v0 S0 h H l r R} (o : jB h H l = some r) (s : St w Z w [itI (vr wb Sb) [v0] S0 h]) (hb : Bor wb Sb w Z) (cc : Rd w Z (.slice (some ⟨0, 0, none⟩) 23 23) zJ 2 vJ)
  (K : ∀ (s0 : List Nat) w', St w Z w' [itI (vr wb Sb) [v0] s0 r] -> R (Rt (.tuple #[])) w') : Calls Tryz.prog 77 [v0, I H, .agg (jU (zb) 8 l).toArray].toArray w R := by
 refine sr 93 Tryz.func77 rfl ?_
 obtain ⟨y, rfl⟩ := s.fq 0
 refine rg ((bx s (jU (zb) 8 l)) fun b4 w5 s => nx (sq ?_))
 obtain ⟨v6, S7, v8, S9, c7, c8, c9, da, db, dc, s⟩ := s.o5 0
 have E := s.borOut 2 rfl
 have bc := E.bor hb
 have F := s.borOut 3 rfl
 have ab := F.bor hb
 refine have s := s.t1 4; have s := s.t1 5; have s := s.t1 6; have s := s.k [0, 1, 4, 5, 6]; ?_
 obtain ⟨dd, bt, bu, rfl⟩ := bc.len
 obtain ⟨de, bv, bw, rfl⟩ := ab.len
 obtain ⟨df, aq, ar, rfl⟩ := s.le 2
 obtain ⟨dg, au, av, rfl⟩ := s.le 3
 obtain ⟨dh, aw, ax, rfl⟩ := s.le 4
 have s : St _ _ _ [zs y 148 [Sl bt (h.Module.Ms).length bu, Sl bv (h.Module.Co).length bw, Sl aq (h.ca).length ar, Sl au (h.any).length av, Sl aw (h.loops).length ax], _, _, _, _] := s
 refine rn (pu 4 [(20, Po y 1)] ((ld s 0) (pu 1 [(22, I H)] ((be o) fun b ah o => ?_))))
 obtain ⟨di, dj, dk, ay⟩ := ab.formv (fun _ => ⟨_, rfl⟩) ah
 refine (ix 43 5 ah ay) ((lN (zj b) (ab.cellv s ah ay)) ((al s [I 0, I 0, I 0, I 0, I 0]) fun t dl s => (st s 5 [I b.Op, I b.D, I b.A, I b.B, I b.Imm]) fun dm s => nx (rg ((lN [I b.Op, I b.D, I b.A, I b.B, I b.Imm] (s.blkN 5 rfl 0 5)) ((be o) fun f bz o => (fn) (zeZ bz (s.p []) (cc.give s []) fun dn bd => ⟨_, rfl, have s := s.j [] [0, 1, 2, 3, 4, 5] bd; pu 7 [(7, I f.1), (8, B f.2.1), (9, B f.2.2)] (nx (sq (sq ?_)))⟩))))))
 refine ck (fun a u => Rep 93 [(0, Pt y), (1, I H), (5, Pt b4), (6, Pt t), (7, I f.1), (9, B f.2.2), (36, B ((!f.2.1) || decide (f.1 < 0)))] a /\ St w Z u [zs y 148 [Sl bt (h.Module.Ms).length bu, Sl bv (h.Module.Co).length bw, Sl aq (h.ca).length ar, Sl au (h.any).length av, Sl aw (h.loops).length ax], zs b4 158 (jU (zb) 8 l), qH (Sl aq (h.ca).length ar) 158 (jU (zb) 8) 32 h.ca, qH (Sl au (h.any).length av) 4 za8 1 h.any, qH (Sl aw (h.loops).length ax) 164 zu 3 h.loops, zs t 43 [I b.Op, I b.D, I b.A, I b.B, I b.Imm]]) ?_ fun a u ⟨d, s⟩ => go d (br o (fun o b0 => ?_) fun o b0 => ?_)
 ·refine rn (pu 3 [(33, B (!f.2.1))] (sp 33 (fun ai => ?_) fun ai => ?_))
  ·refine pu 3 [(36, B true)] (nl ?_)
   exact QW.say 36 (v := B ((!f.2.1) || decide (f.1 < 0))) rfl (by rw [ai]; try rfl) (me fun a d => ⟨d.ag, s.k [0, 1, 2, 3, 4, 5]⟩)
  refine pu 3 [(36, B (decide (f.1 < 0)))] (nl ?_)
  exact QW.say 36 (v := B ((!f.2.1) || decide (f.1 < 0))) rfl (by rw [ai]; try rfl) (me fun a d => ⟨d.ag, s.k [0, 1, 2, 3, 4, 5]⟩)
 ·refine sq (rg (pu 1 [(37, B f.2.2)] (nx ((be o) fun cd z o => ?_))))
  refine ck (fun a u => ∃ (az : List Nat), Rep 93 [] a /\ St w Z u [itI (vr wb Sb) [Pt y] az cd]) ?_ fun a u ⟨az, d, s⟩ => go d (rt (tr ?_))
  ·refine br z (fun z b2 => ?_) fun z b2 => ?_
   ·refine rn (pu 3 [(38, Pt y), (40, I (w64 (H + 1)))] ((lN ((jU (zb) 8 l)) (s.blkN 1 rfl 0 32)) ?_))
    have s := s.borIn E
    have s := s.borIn F
    refine have s := s.ti 2; have s := s.ti 3; have s := s.ti 4; ?_
    obtain ⟨dp, s⟩ := s.s5 (zaO wb Sb) 0 6 7 2 3 4 [1, 5] h
    refine (be z) fun dq b3 z => (fn) (zaN b3 (s.p [2]) (hb.on s [2]) fun ce dr bf => ⟨_, rfl, have s := s.j [2] [0, 1] bf; nl ?_⟩)
    obtain rfl := ij z
    exact me fun a d => ⟨ce, d.ag, s.k [0]⟩
   refine sk ?_
   have s := s.borIn E
   have s := s.borIn F
   refine have s := s.ti 2; have s := s.ti 3; have s := s.ti 4; ?_
   obtain ⟨cg, s⟩ := s.s5 (zaO wb Sb) 0 6 7 2 3 4 [1, 5] h
   obtain rfl := ij z
   exact me fun a d => ⟨cg, d.ag, s.k [2]⟩
  obtain rfl := ij o
  exact QW.ret0 rfl (K az _ (s.k [0]))
 refine sn (sq (rg (pu 2 [(44, B (!f.2.2))] (nx (br o (fun o b5 => ?_) fun o b5 => ?_)))))
 ·refine rg (pu 4 [(45, Pt y), (48, I (w64 (H + f.1)))] ((lN ((jU (zb) 8 l)) (s.blkN 1 rfl 0 32)) ?_))
  have s := s.borIn E
  have s := s.borIn F
  refine have s := s.ti 2; have s := s.ti 3; have s := s.ti 4; ?_
  obtain ⟨ch, s⟩ := s.s5 (zaO wb Sb) 0 6 7 2 3 4 [1, 5] h
  refine (be o) fun r102 bg o => (fn) (zaN bg (s.p [2]) (hb.on s [2]) fun b6 ci a0 => ⟨_, rfl, have s := s.j [2] [0, 1] a0; nx (rt (tr ?_))⟩)
  obtain rfl := ij o
  exact QW.ret0 rfl (K b6 _ (s.k [0]))
 refine sn (rg ((lN [I b.Op, I b.D, I b.A, I b.B, I b.Imm] (s.blkN 5 rfl 0 5)) ((lN ((jU (zb) 8 l)) (s.blkN 1 rfl 0 32)) ((be o) fun r114 bi o => (fn) (zdV bi (s.p []) fun cj a1 => ⟨_, rfl, have s := s.j [] [0, 1, 2, 3, 4, 5] a1; (al s [I 0, U 0, U 0, I 0]) fun C cl s => (st s 6 [I r114.Ki, U r114.Sp.Lo, U r114.Sp.Hi, I r114.Map]) fun cm s => nx (rg ?_)⟩)))))
 refine OW.row (α := Bool) (e := 4) (enc := za8) (sz := 1) s rfl rfl rfl [true, false] rfl (fun _ => rfl) rfl rfl (fun _ => by kernel_rfl) ?_
 intro J cn s
 refine pu 2 [(55, I 2), (56, I 0)] (nx ((be o) fun a2 bj o => ?_))
 refine CW.cutQ (fun a u => ∃ (aj : List Nat), Rep 93 [] a /\ St w Z u [itI (vr wb Sb) [Pt y] aj a2]) ?_ ?_
 ·refine bl ?_
  have s := s.borIn E
  have s := s.borIn F
  refine have s := s.ti 2; have s := s.ti 3; have s := s.ti 4; ?_
  obtain ⟨b7, s⟩ := s.s5 (zaO wb Sb) 0 8 9 2 3 4 [1, 5, 6, 7] h
  refine CW.loop (fun n a u => ∃ (g : Nat) (x : ze) (M : List Nat), g + n = 2 /\ Rep 93 [(0, Pt y), (1, I H), (5, Pt b4), (6, Pt t), (7, I f.1), (10, Pt C), (54, .slice (some ⟨J, 0, none⟩) 2 2), (55, I 2), (56, I (g : Int))] a /\ St w Z u [itI (vr wb Sb) [Pt y] M x, zs b4 158 (jU (zb) 8 l), zs t 43 [I b.Op, I b.D, I b.A, I b.B, I b.Imm], zs C 156 [I r114.Ki, U r114.Sp.Lo, U r114.Sp.Hi, I r114.Map], qH (.slice (some ⟨J, 0, none⟩) 2 2) 4 za8 1 ([true, false])] /\ zQ (zV H l b f r114) (fun (x : ze) => x) n g x = some a2) 2 (fun a d => ⟨0, h, b7, Nat.zero_add _, d.ag, s.keep [4, 0, 1, 2, 3] rfl, bj⟩) ?_
  rintro O a u ⟨g, x, M, W, d, s, c⟩
  refine go d (rg (pu 1 [(57, B (decide ((g : Int) < 2)))] (nx (sq ?_))))
  rcases zft (decide ((g : Int) < 2)) with q | q
  ·rcases O with _ | O
   ·exact (zb0 W q).elim
   refine ct q (sn (sq (bl (rg ((be c) fun ac ae c => ?_)))))
   obtain ⟨co, cp, cq, ao⟩ := s.rowv 4 rfl ae
   refine (ix 4 1 ae ao) ?_
   refine OW.ld rfl rfl rfl rfl (by kernel_rfl) (s.rowc 4 rfl (fun _ => rfl) ae ao 0 _ rfl) ?_
   refine pu 1 [(12, B ac)] (nx (sq ?_))
   refine CW.plan (by kernel_rfl) ?_
   intro cr a3
   have s := s.same a3
   refine ap [0, 1, 2] [(62, I (w64 (H + f.1)))] ?_
   refine OA.ldN (i := 3) (cs := (jU (zb) 8 l)) rfl (by kernel_rfl) rfl rfl rfl (by kernel_rfl) (by kernel_rfl) (s.blkN 1 rfl 0 32) ?_
   refine (aa 4 [3]) ((al s [I 0, U 0, U 0, I 0, I 0, U 0, U 0, I 0, I 0, U 0, U 0, I 0, I 0, U 0, U 0, I 0, I 0, U 0, U 0, I 0, I 0, U 0, U 0, I 0, I 0, U 0, U 0, I 0, I 0, U 0, U 0, I 0]) fun Y cu s => ?_)
   refine OA.next ⟨(s.blkN 1 rfl 0 32), trivial⟩ ?_
   refine (aa 5 [3]) (pu 1 [(13, I (w64 (H + f.1)))] ?_)
   refine OA.next ⟨(s.blkN 1 rfl 0 32), trivial⟩ ?_
   refine (aa 6 []) ((st s 5 (jU (zb) 8 l)) fun cv s => ?_)
   refine OA.next trivial ?_
   refine aF (qn (sq (rg (pu 2 [(65, B (!ac))] (nx ((be c) fun ak G c => ?_))))))
   refine ck (fun a u => Rep 93 [(0, Pt y), (1, I H), (5, Pt b4), (6, Pt t), (7, I f.1), (10, Pt C), (12, B ac), (13, I ak), (14, Pt Y), (54, .slice (some ⟨J, 0, none⟩) 2 2), (55, I 2), (56, I (g : Int))] a /\ St w Z u [itI (vr wb Sb) [Pt y] M x, zs b4 158 (jU (zb) 8 l), zs t 43 [I b.Op, I b.D, I b.A, I b.B, I b.Imm], zs C 156 [I r114.Ki, U r114.Sp.Lo, U r114.Sp.Hi, I r114.Map], zs Y 158 (jU (zb) 8 l), qH (.slice (some ⟨J, 0, none⟩) 2 2) 4 za8 1 ([true, false])]) ?_ fun a u ⟨d, s⟩ => go d (sq ((be c) fun Q m c => ?_))
   ·refine br G (fun G bk => ?_) fun G bk => ?_
    ·refine rn (pu 3 [(13, I (w64 (H + 1)))] (nl ?_))
     obtain rfl := ij G
     exact me fun a d => ⟨d.ag, s.k [0, 1, 2, 3, 5, 4]⟩
    refine sk ?_
    obtain rfl := ij G
    exact me fun a d => ⟨d.ag, s.k [0, 1, 2, 3, 5, 4]⟩
   refine ck (fun a u => ∃ (am : Nat), Rep 93 [(0, Pt y), (1, I H), (5, Pt b4), (6, Pt t), (7, I f.1), (10, Pt C), (13, I ak), (14, Pt Y), (15, Pt am), (16, B Q.2), (54, .slice (some ⟨J, 0, none⟩) 2 2), (55, I 2), (56, I (g : Int))] a /\ St w Z u [itI (vr wb Sb) [Pt y] M x, zs b4 158 (jU (zb) 8 l), zs t 43 [I b.Op, I b.D, I b.A, I b.B, I b.Imm], zs C 156 [I r114.Ki, U r114.Sp.Lo, U r114.Sp.Hi, I r114.Map], zs Y 158 (jU (zb) 8 l), zs am 154 [U Q.1.Lo, U Q.1.Hi], qH (.slice (some ⟨J, 0, none⟩) 2 2) 4 za8 1 ([true, false])]) ?_ fun a u ⟨am, d, s⟩ => go d (rg (pu 1 [(82, B Q.2)] (nx (br c (fun c bm => ?_) fun c bm => ?_))))
   ·refine CW.plan (by kernel_rfl) ?_
    intro cw a4
    have s := s.same a4
    refine ap [0] [(69, Pt t)] ((ad 1 s 2) (ap [2] [(71, Po t 2)] ((ad 3 s 2) ((be m) fun a5 X m => ?_))))
    refine OA.val (i := 4) (v := .pointer (some ⟨b4, 0 + Int.toNat b.A * 4, none⟩)) rfl (by kernel_rfl) rfl rfl rfl rfl (fun a w d => zy (n := 8) 156 4 rfl rfl rfl (zn X).1 (zn X).2.1 (by kernel_rfl) (by kernel_rfl) a w d) ?_
    refine ap [5] [(74, .pointer (some ⟨b4, 0 + Int.toNat b.A * 4 + 1, none⟩))] ?_
    refine OA.ldN (i := 6) (cs := [U (l a5).Sp.Lo, U (l a5).Sp.Hi]) rfl (by kernel_rfl) rfl rfl rfl (by kernel_rfl) (by kernel_rfl) (elN (s.arrB 1 rfl zb (fun _ => rfl) 8 l 0 rfl rfl X) 1 2) ?_
    refine ap [7] [(76, Po C 1)] ?_
    refine OA.ldN (i := 8) (cs := [U r114.Sp.Lo, U r114.Sp.Hi]) rfl (by kernel_rfl) rfl rfl rfl (by kernel_rfl) (by kernel_rfl) (s.blkN 3 rfl 1 2) ?_
    refine ap [9] [(78, B ac)] ?_
    refine OA.acts [10, 14] 10 (by kernel_rfl) (by kernel_rfl) (by kernel_rfl) (qR ?_ (qR ?_ zbD))
    ·refine Alt.of (i := 10) [] rfl rfl (by kernel_rfl) (by kernel_rfl) ?_
     refine (be m) fun T bo m => (fn) (zeK bo (s.p []) fun cx a6 => ⟨_, rfl, have s := s.j [] [0, 1, 2, 3, 4, 5] a6; ?_⟩)
     refine OA.next trivial ?_
     refine ap [11, 12, 13] [(80, Ag [U T.1.Lo, U T.1.Hi]), (81, B T.2)] ((aa 14 []) ((al s [U 0, U 0]) fun b8 cy s => ?_))
     refine OA.next trivial ?_
     refine (aa 15 []) ((st s 6 [U T.1.Lo, U T.1.Hi]) fun cz s => ?_)
     refine OA.next trivial ?_
     refine (aa 16 []) (pu 1 [(16, B T.2)] ?_)
     refine OA.next trivial ?_
     refine aF ?_
     obtain rfl := ij m
     exact me fun a d => ⟨b8, d.ag, s.k [0, 1, 2, 3, 4, 6, 5]⟩
    refine Alt.of (i := 14) [8, 6, 3, 1] rfl rfl (by kernel_rfl) (by kernel_rfl) ?_
    refine (al s [U 0, U 0]) fun b9 c0 s => ?_
    refine OA.next ⟨(s.blkN 3 rfl 1 2), (elN (s.arrB 1 rfl zb (fun _ => rfl) 8 l 0 rfl rfl X) 1 2), (s.blk 2 rfl rfl), (s.blk 2 rfl rfl), trivial⟩ ?_
    refine (aa 10 []) ((be m) fun V bp m => (fn) (zeK bp (s.p []) fun c1 a7 => ⟨_, rfl, have s := s.j [] [0, 1, 2, 3, 4, 5, 6] a7; ?_⟩))
    refine OA.next trivial ?_
    refine ap [11, 12, 13] [(80, Ag [U V.1.Lo, U V.1.Hi]), (81, B V.2)] ((aa 15 []) ((st s 6 [U V.1.Lo, U V.1.Hi]) fun c2 s => ?_))
    refine OA.next trivial ?_
    refine (aa 16 []) (pu 1 [(16, B V.2)] ?_)
    refine OA.next trivial ?_
    refine aF ?_
    obtain rfl := ij m
    exact me fun a d => ⟨b9, d.ag, s.k [0, 1, 2, 3, 4, 6, 5]⟩
   ·refine sq ?_
    refine CW.plan (by kernel_rfl) ?_
    intro c3 a8
    have s := s.same a8
    refine ap [0] [(83, Po t 2)] ((ad 1 s 2) ?_)
    refine OA.ldN (i := 2) (cs := [U Q.1.Lo, U Q.1.Hi]) rfl (by kernel_rfl) rfl rfl rfl (by kernel_rfl) (by kernel_rfl) (s.blkN 5 rfl 0 2) ?_
    refine (aa 3 [1]) ((be c) fun an bq c => (fn) (xA bq (s.p []) fun c4 a9 => ⟨_, rfl, have s := s.j [] [0, 1, 2, 3, 4, 5, 6] a9; ?_⟩))
    refine OA.next ⟨(s.blk 2 rfl rfl), trivial⟩ ?_
    refine (be c) fun ba af c => ?_
    refine OA.val (i := 4) (v := .pointer (some ⟨Y, 0 + Int.toNat b.A * 4, none⟩)) rfl (by kernel_rfl) rfl rfl rfl rfl (fun a w d => zy (n := 8) 156 4 rfl rfl rfl (zn af).1 (zn af).2.1 (by kernel_rfl) (by kernel_rfl) a w d) ?_
    refine (aa 5 []) ?_
    refine OW.stA s 4 rfl rfl rfl rfl rfl (by kernel_rfl) rfl zb (fun _ => rfl) 8 l 0 rfl rfl af 0 rfl rfl an rfl (jU (zb) 8 (zW l ba an)) rfl ?_
    intro c5 s
    refine OA.next trivial ?_
    refine aF (qn (rn (pu 2 [(88, Pt y), (89, I ak)] ((lN ((jU (zb) 8 (zW l ba an))) (s.blkN 4 rfl 0 32)) ((be c) fun ca bs c => (fn) (zaN bs (s.p [0]) (hb.on s [0]) fun cb c6 bb => ⟨_, rfl, have s := s.j [0] [1, 2, 3, 4, 5, 6] bb; nl (bn (qn (rn (pu 2 [(56, I (w64 ((g : Int) + 1)))] (nl ?_)))))⟩))))))
    refine QW.say 56 rfl (congrArg (Value.int .i64) (zq q (by decide))) ?_
    exact me fun a d => ⟨O, zls _, g + 1, ca, cb, zm W, d.ag, s.k [0, 1, 2, 3, 6], c⟩
   refine sk (bn (qn (rn (pu 2 [(56, I (w64 ((g : Int) + 1)))] (nl ?_)))))
   refine QW.say 56 rfl (congrArg (Value.int .i64) (zq q (by decide))) ?_
   exact me fun a d => ⟨O, zls _, g + 1, x, M, zm W, d.ag, s.k [0, 1, 2, 3, 6], c⟩
  rcases O with _ | O
  ·refine cf q (ex (te (te (bh ?_))))
   obtain rfl := ij c
   exact me fun a d => ⟨M, d.ag, s.k [0]⟩
  exact (zb1 W q).elim
 rintro a u ⟨aj, d, s⟩
 refine QW.go ?_ d
 obtain rfl := ij o
 exact QW.end0 rfl (K aj _ (s.k [0]))
theorem zgR {w Z wb Sb fu ah ai f r R} (h : jC fu f = some r) (s : St w Z w []) (A : Bor wb Sb w Z) (H : Rd wb Sb ah (zx .i64) 1 f.Ms) (J : Rd wb Sb ai zj 5 f.Co) (E : Rd w Z (.slice (some ⟨0, 0, none⟩) 23 23) zJ 2 vJ) (cl : Rd w Z (.slice (some ⟨1, 0, none⟩) 7 7) qi 5 zbe)
  (K1 : ∀ (k0 : ze) (y0 : Value) (z0 : List Nat) w', r.1 = some k0 -> St w Z w' [itI (vr wb Sb) [y0] z0 k0] -> R (Rt (.tuple #[y0, I r.2.1, I r.2.2])) w') (K2 : ∀ w', r.1 = none -> St w Z w' [] -> R (Rt (.tuple #[.pointer none, I r.2.1, I r.2.2])) w') : Calls Tryz.prog 46 [Ag [ah, ai]].toArray w R := by
 refine sr 83 Tryz.func46 rfl ?_
 have h0_0b := H.bor A
 have h0_1b := J.bor A
 obtain ⟨l1, M, O, rfl⟩ := h0_0b.len
 obtain ⟨l4, Q, T, rfl⟩ := h0_1b.len
 refine rg ((bx s [Sl M (f.Ms).length O, Sl Q (f.Co).length T]) fun F ds s => pu 3 [] (nx (sq (rg (pu 1 [(11, Pt F)] ((ld s 0) ((be h) fun r15 bv h => (fn) (zhH bv (s.p []) (h0_0b.give s []) fun dt ay => ⟨_, rfl, have s := s.j [] [0] ay; pu 1 [(14, B (!r15))] (nx (br h (fun h bw => ?_) fun h bw => ?_))⟩))))))))
 ·refine rg (pu 3 [(2, .pointer none), (3, I 0), (4, I 2)] (nx (rt (tr ?_))))
  obtain rfl := ij h
  exact QW.ret3 rfl rfl rfl rfl (K2 _ rfl (s.k []))
 refine sn (sq (rg (pu 1 [(16, Po F 1)] ((ld s 0) ((be h) fun r24 bz h => (fn) (zfA bz (s.p []) (h0_1b.give s []) (E.give s []) fun du az => ⟨_, rfl, have s := s.j [] [0] az; pu 5 [(5, I r24.1), (6, I r24.2)] (nx (rg (pu 2 [(22, B (r24.2 != 0))] (nx (br h (fun h b0 => ?_) fun h b0 => ?_)))))⟩))))))
 ·refine rg (pu 5 [(2, .pointer none), (3, I r24.1), (4, I r24.2)] (nx (rt (tr ?_))))
  obtain rfl := ij h
  exact QW.ret3 rfl rfl rfl rfl (K2 _ rfl (s.k []))
 refine sn (sq ((be h) fun g l h => ?_))
 refine ck (fun a G => ∃ (e : Nat) (bc : List Nat), Rep 83 [(1, Pt F), (7, Pt e)] a /\ St w Z G [zs F 25 [Sl M (f.Ms).length O, Sl Q (f.Co).length T], itI (vr wb Sb) [Pt e] bc g]) ?_ fun a G ⟨e, bc, o, s⟩ => go o (sq ?_)
 ·refine CW.plan (by kernel_rfl) ?_
  intro dv a0
  have s := s.same a0
  refine OA.ldN (i := 0) (cs := [Sl M (f.Ms).length O, Sl Q (f.Co).length T]) rfl (by kernel_rfl) rfl rfl rfl (by kernel_rfl) (by kernel_rfl) (s.blkN 0 rfl 0 2) ?_
  refine ap [1] [(26, Po F 1)] ((ad 2 s 0) (ap [3, 5] [(28, I ((f.Co).length : Int)), (30, Po F 1)] ((ad 6 s 0) (ap [7] [(32, I ((f.Co).length : Int))] ?_))))
  refine OA.acts [4, 8] 4 (by kernel_rfl) (by kernel_rfl) (by kernel_rfl) (qR ?_ (qR ?_ zbD))
  ·refine Alt.of (i := 4) [6, 0] rfl rfl (by kernel_rfl) (by kernel_rfl) ?_
   refine (be l) fun q V l => ?_
   refine OW.make (enc := jU (zb) 8) (sz := 32) s rfl rfl rfl rfl rfl (by kernel_rfl) znz (fun _ => (za.mk 0 (zd.mk 0 0) 0)) (by kernel_rfl) (fun _ => rfl) V ?_
   intro bd dw s
   refine OA.next ⟨(s.blk 0 rfl rfl), (s.blkN 0 rfl 0 2), trivial⟩ ?_
   refine (aa 8 [0]) ((be l) fun t W l => ?_)
   refine OW.make (enc := za8) (sz := 1) s rfl rfl rfl rfl rfl (by kernel_rfl) el4 false (by kernel_rfl) (fun _ => rfl) W ?_
   intro bf dx s
   refine OA.next ⟨(s.blkN 0 rfl 0 2), trivial⟩ ?_
   refine ap [9] [(34, Ag [Sl M (f.Ms).length O, Sl Q (f.Co).length T, .slice (some ⟨bd, 0, none⟩) q q, .slice (some ⟨bf, 0, none⟩) t t, Sn])] ((aa 10 []) ((bx s [Sl M (f.Ms).length O, Sl Q (f.Co).length T, .slice (some ⟨bd, 0, none⟩) q q, .slice (some ⟨bf, 0, none⟩) t t, Sn]) fun bg dy s => ?_))
   refine OA.next trivial ?_
   refine (aa 11 []) (pu 1 [(7, Pt bg)] ?_)
   refine OA.next trivial ?_
   refine aF ?_
   have s := s.borIn H
   have s := s.borIn J
   have s := s.nilRow zC 164 zu 3
   refine have s := s.ti 1; have s := s.ti 2; have s := s.ti 6; ?_
   obtain ⟨cm, s⟩ := s.s5 (zaO wb Sb) 3 4 5 1 2 6 [0] (ze.mk f (List.replicate q (fun _ => (za.mk 0 (zd.mk 0 0) 0))) (List.replicate t false) ([] : List zC))
   obtain rfl := ij l
   exact me fun a o => ⟨bg, cm, o.ag, s.k [0, 1]⟩
  refine (be l) fun q V l => (be l) fun t W l => ?_
  refine Alt.of (i := 8) [2, 0] rfl rfl (by kernel_rfl) (by kernel_rfl) ?_
  refine OW.make (enc := za8) (sz := 1) s rfl rfl rfl rfl rfl (by kernel_rfl) el4 false (by kernel_rfl) (fun _ => rfl) W ?_
  intro bi dz s
  refine OA.next ⟨(s.blk 0 rfl rfl), (s.blkN 0 rfl 0 2), trivial⟩ ?_
  refine (aa 4 [0]) ?_
  refine OW.make (enc := jU (zb) 8) (sz := 32) s rfl rfl rfl rfl rfl (by kernel_rfl) znz (fun _ => (za.mk 0 (zd.mk 0 0) 0)) (by kernel_rfl) (fun _ => rfl) V ?_
  intro bj d0 s
  refine OA.next ⟨(s.blkN 0 rfl 0 2), trivial⟩ ?_
  refine ap [9] [(34, Ag [Sl M (f.Ms).length O, Sl Q (f.Co).length T, .slice (some ⟨bj, 0, none⟩) q q, .slice (some ⟨bi, 0, none⟩) t t, Sn])] ((aa 10 []) ((bx s [Sl M (f.Ms).length O, Sl Q (f.Co).length T, .slice (some ⟨bj, 0, none⟩) q q, .slice (some ⟨bi, 0, none⟩) t t, Sn]) fun bk d1 s => ?_))
  refine OA.next trivial ?_
  refine (aa 11 []) (pu 1 [(7, Pt bk)] ?_)
  refine OA.next trivial ?_
  refine aF ?_
  have s := s.borIn H
  have s := s.borIn J
  have s := s.nilRow zC 164 zu 3
  refine have s := s.ti 2; have s := s.ti 1; have s := s.ti 6; ?_
  obtain ⟨cn, s⟩ := s.s5 (zaO wb Sb) 3 4 5 2 1 6 [0] (ze.mk f (List.replicate q (fun _ => (za.mk 0 (zd.mk 0 0) 0))) (List.replicate t false) ([] : List zC))
  obtain rfl := ij l
  exact me fun a o => ⟨bk, cn, o.ag, s.k [0, 1]⟩
 obtain ⟨d2, d3, d4, d5, d6, d7, d8, d9, ea, eb, s⟩ := s.o5 1
 have ab := s.borOut 2 rfl
 have a1 := ab.bor A
 have ac := s.borOut 3 rfl
 have a3 := ac.bor A
 refine have s := s.t1 4; have s := s.t1 5; have s := s.t1 6; have s := s.k [0, 1, 4, 5, 6]; ?_
 obtain ⟨ec, bm, bo, rfl⟩ := a1.len
 obtain ⟨ed, bp, bq, rfl⟩ := a3.len
 obtain ⟨ee, bs, bu, rfl⟩ := s.le 2
 obtain ⟨ef, aj, ak, rfl⟩ := s.le 3
 obtain ⟨co, b1, b2, rfl⟩ := s.le 4
 have s : St _ _ _ [_, zs e 148 [Sl bm (g.Module.Ms).length bo, Sl bp (g.Module.Co).length bq, Sl bs (g.ca).length bu, Sl aj (g.any).length ak, Sl b1 (g.loops).length b2], _, _, _] := s
 refine rn (pu 2 [(37, Pt e), (38, Po F 1)] ((ld s 0) ((be h) fun r114 a4 h => (fn) (zhI a4 (s.p []) (h0_1b.give s []) (E.give s []) fun cp cq am => ⟨_, rfl, have s := s.j [] [0, 1, 2, 3, 4] am; ?_⟩))))
 obtain ⟨cr, an, ao, rfl⟩ := s.le 0
 refine pu 5 [(41, Sl an (r114.1).length ao), (44, Po e 4)] ((st s 2 [Sl bm (g.Module.Ms).length bo, Sl bp (g.Module.Co).length bq, Sl bs (g.ca).length bu, Sl aj (g.any).length ak, Sl an (r114.1).length ao]) fun cu s => nx (rg (pu 3 [(47, Po e 3)] ((ld s 2) ((be h) fun cv C h => ?_)))))
 obtain ⟨cw, cx, cy, ae⟩ := s.rowv 4 rfl C
 refine (ix 4 1 C ae) ?_
 refine OW.stR s 4 rfl ae (fun _ => rfl) rfl rfl C 0 rfl rfl rfl (by kernel_rfl) rfl rfl true rfl ?_
 intro cz s
 refine nx (sq (rg (pu 1 [(50, Po F 1)] ((ld s 1) (pu 2 [(52, I ((f.Co).length : Int)), (53, I 0)] (nx ((be h) fun aq a6 h => ?_)))))))
 refine ck (fun a G => ∃ (t399 : ze) (X : List Nat), aq = .inl t399 /\ Rep 83 [(7, Pt e)] a /\ St w Z G [itI (vr wb Sb) [Pt e] X t399]) ?_ ?_
 ·refine bl ?_
  have s := s.borIn ab
  have s := s.borIn ac
  refine have s := s.ti 3; have s := s.ti 4; have s := s.ti 0; ?_
  obtain ⟨b3, s⟩ := s.s5 (zaO wb Sb) 2 6 7 3 4 0 [1, 5] (ze.mk g.Module g.ca (g.any.set (Int.toNat 0) true) r114.1)
  refine CW.loop (fun n a G => ∃ (c : Nat) (d : ze) (Y : List Nat), c + n = (f.Co).length /\ Rep 83 [(7, Pt e), (52, I ((f.Co).length : Int)), (53, I (c : Int))] a /\ St w Z G [itI (vr wb Sb) [Pt e] Y d] /\ zQ (zL fu) (fun (d : ze) => (.inl d)) n c d = some aq) (f.Co).length (fun a o => ⟨0, (ze.mk g.Module g.ca (g.any.set (Int.toNat 0) true) r114.1), b3, Nat.zero_add _, o.ag, s.keep [2] rfl, a6⟩) ?_
  rintro v a G ⟨c, d, Y, x, o, s, b⟩
  refine go o (rg (pu 1 [(54, B (decide ((c : Int) < ((f.Co).length : Int))))] (nx (sq ?_))))
  rcases zft (decide ((c : Int) < ((f.Co).length : Int))) with m | m
  ·rcases v with _ | v
   ·exact (zb0 x m).elim
   refine ct m (sn (sq (bl (rg (pu 2 [(8, I (c : Int))] (nx (sq (sq ?_))))))))
   obtain ⟨c0, c1, c2, c4, c5, c7, c8, c9, da, db, s⟩ := s.o5 0
   have y := s.borOut 1 rfl
   have ar := y.bor A
   have z := s.borOut 2 rfl
   have au := z.bor A
   refine have s := s.t1 3; have s := s.t1 4; have s := s.t1 5; have s := s.k [0, 3, 4, 5]; ?_
   obtain ⟨dc, b4, b5, rfl⟩ := ar.len
   obtain ⟨dd, b6, b7, rfl⟩ := au.len
   obtain ⟨de, b8, ca, rfl⟩ := s.le 1
   obtain ⟨df, cb, cc, rfl⟩ := s.le 2
   obtain ⟨dg, cd, ce, rfl⟩ := s.le 3
   have s : St _ _ _ [zs e 148 [Sl b4 (d.Module.Ms).length b5, Sl b6 (d.Module.Co).length b7, Sl b8 (d.ca).length ca, Sl cb (d.any).length cc, Sl cd (d.loops).length ce], _, _, _] := s
   refine rn (pu 3 [(58, Po e 3)] ((ld s 0) (pu 1 [(60, I (c : Int))] ((be b) fun cg D b => ?_))))
   obtain ⟨dh, di, dj, af⟩ := s.rowv 2 rfl D
   refine (ix 4 1 D af) ?_
   refine OW.ld rfl rfl rfl rfl (by kernel_rfl) (s.rowc 2 rfl (fun _ => rfl) D af 0 _ rfl) ?_
   refine pu 1 [(63, B (!cg))] (nx (br b (fun b a7 => ?_) fun b a7 => ?_))
   ·refine ex (te (bh (qn (rn (pu 2 [(53, I (w64 ((c : Int) + 1)))] (nl ?_))))))
    have s := s.borIn y
    have s := s.borIn z
    refine have s := s.ti 1; have s := s.ti 2; have s := s.ti 3; ?_
    obtain ⟨ch, s⟩ := s.s5 (zaO wb Sb) 0 4 5 1 2 3 [] d
    refine QW.say 53 rfl (congrArg (Value.int .i64) (zq m l4)) ?_
    exact me fun a o => ⟨v, zls _, c + 1, d, ch, zm x, o.ag, s.k [0], b⟩
   refine sn (rg (pu 2 [(64, Pt e), (65, I (c : Int))] ?_))
   have s := s.borIn y
   have s := s.borIn z
   refine have s := s.ti 1; have s := s.ti 2; have s := s.ti 3; ?_
   obtain ⟨dk, s⟩ := s.s5 (zaO wb Sb) 0 4 5 1 2 3 [] d
   refine (be b) fun dl a8 b => (fn) (zex a8 (s.p [0]) (A.on s [0]) (E.give s [0]) fun dm dn av => ⟨_, rfl, have s := s.j [0] [] av; nx (rg (pu 2 [(68, Pt e), (69, I (c : Int))] ((be b) fun u a9 b => (fn) (zfC a9 (s.p [0]) (A.on s [0]) (E.give s [0]) (cl.give s [0]) fun dp w642 aw => ⟨_, rfl, have s := s.j [0] [] aw; pu 3 [(71, .agg (jU (zb) 8 u.1).toArray), (72, I u.2)] ((al s [I 0, U 0, U 0, I 0, I 0, U 0, U 0, I 0, I 0, U 0, U 0, I 0, I 0, U 0, U 0, I 0, I 0, U 0, U 0, I 0, I 0, U 0, U 0, I 0, I 0, U 0, U 0, I 0, I 0, U 0, U 0, I 0]) fun dq w646 s => (st s 1 (jU (zb) 8 u.1)) fun w647 s => pu 1 [(10, I u.2)] (nx (sq (rg (pu 2 [(74, B (u.2 != 0))] (nx (br b (fun b ba => ?_) fun b ba => ?_)))))))⟩))))⟩)
   ·refine rg (pu 5 [(2, .pointer none), (3, I (c : Int)), (4, I u.2)] (nx (rt (tr (bt (tr (tr (bt (tr ?_)))))))))
    obtain rfl := ij b
    obtain rfl := ij h
    exact QW.ret3 rfl rfl rfl rfl (K2 _ rfl (s.k []))
   refine sn (rn (pu 2 [(77, Pt e), (78, I (c : Int))] ((lN ((jU (zb) 8 u.1)) (s.blkN 1 rfl 0 32)) ((be b) fun ci bb b => (fn) (ze0 bb (s.p [0]) (A.on s [0]) (E.give s [0]) fun cj dr ax => ⟨_, rfl, have s := s.j [0] [1] ax; nl (bn (qn (rn (pu 2 [(53, I (w64 ((c : Int) + 1)))] (nl ?_)))))⟩)))))
   refine QW.say 53 rfl (congrArg (Value.int .i64) (zq m l4)) ?_
   exact me fun a o => ⟨v, zls _, c + 1, ci, cj, zm x, o.ag, s.k [0], b⟩
  rcases v with _ | v
  ·refine cf m (ex (te (te (bh ?_))))
   obtain rfl := ij b
   exact me fun a o => ⟨d, Y, rfl, o.ag, s.k [0]⟩
  exact (zb1 x m).elim
 rintro a G ⟨t399, X, rfl, o, s⟩
 refine go o (rg (pu 4 [(2, Pt e), (3, I 0), (4, I 0)] (nx (rt ?_))))
 obtain rfl := ij h
 exact QW.ret3 rfl rfl rfl rfl (K1 _ (Pt e) X _ rfl (s.k [0]))
theorem zgY {w Z wb Sb fu d e c r R} (b : zbi fu c = some r) (s : St w Z w []) (h : Bor wb Sb w Z) (f : Rd wb Sb d (zx .i64) 1 c.Ms) (g : Rd wb Sb e zj 5 c.Co) (n : Rd w Z (.slice (some ⟨0, 0, none⟩) 23 23) zJ 2 vJ) (o : Rd w Z (.slice (some ⟨1, 0, none⟩) 7 7) qi 5 zbe)
  (K : ∀ w', St w Z w' [] -> R (Rt (.tuple #[I r.1, I r.2])) w') : Calls Tryz.prog 23 [Ag [d, e]].toArray w R := by
 refine sr 15 Tryz.func23 rfl ?_
 have h0_0b := f.bor h
 have h0_1b := g.bor h
 obtain ⟨E, q, t, rfl⟩ := h0_0b.len
 obtain ⟨F, u, v, rfl⟩ := h0_1b.len
 refine rg ((bx s [Sl q (c.Ms).length t, Sl u (c.Co).length v]) fun G y s => pu 2 [] (nx (rg ((lN [Sl q (c.Ms).length t, Sl u (c.Co).length v] (s.blkN 0 rfl 0 2)) ((be b) fun r21 i b => (fn) (zgR i (s.p []) (h.on s []) f g (n.give s []) (o.give s []) (fun z A C x l a => ⟨_, rfl, ?_⟩) fun x m a => ⟨_, rfl, ?_⟩))))))
 ·have b := zg9 b l
  refine have s := s.j [] [0] a; ?_
  obtain ⟨D, rfl⟩ := s.fq 0
  refine pu 7 [(5, I r21.2.1), (6, I r21.2.2)] (nx (rg (pu 4 [(2, I r21.2.1), (3, I r21.2.2)] (nx (rt ?_)))))
  obtain rfl := ij b
  exact r2 (K _ (s.k []))
 have b := zg8 b m
 refine have s := s.j [] [0] a; pu 7 [(5, I r21.2.1), (6, I r21.2.2)] (nx (rg (pu 4 [(2, I r21.2.1), (3, I r21.2.2)] (nx (rt ?_)))))
 obtain rfl := ij b
 exact r2 (K _ (s.k []))
theorem zdY (w : World) (b : Nat) (T0 : TypeId) (A0 C0 : List Value) (s : zR) (r : zR) (d : zaZ s = some r)
    (c : St w (fp [zbd b T0 A0 (zdD s.wo []) C0]) w [zbd b T0 A0 (zdD s.wo []) C0]) :
    Calls Tryz.prog 27 [.pointer (some ⟨b, A0.length + 0, none⟩)].toArray w (fun e w' => e = .returned (.tuple #[]) /\ St w (fp [zbd b T0 A0 (zdD s.wo []) C0]) w' [zbd b T0 A0 (zdD r.wo []) C0]) := by
 refine sr 6 Tryz.func27 rfl (rn (pu 3 [(4, .pointer (some ⟨b, A0.length + 0, none⟩))] ?_))
 refine OW.op (v := .slice (some ⟨b, A0.length + 0, none⟩) 16 16) rfl rfl rfl rfl (fun a f => zl9 (e := 26) 1 rfl rfl (by kernel_rfl) (by kernel_rfl) a _ f) ?_
 refine OW.clearP (e := 26) (z := U 0) c 0 rfl rfl rfl 0 (n := 15) rfl rfl (by kernel_rfl) (by kernel_rfl) [U 0, U 0, U 0, U 0, U 0, U 0, U 0, U 0, U 0, U 0, U 0, U 0, U 0, U 0, U 0, U 0] (by kernel_rfl) rfl rfl [U 0, U 0, U 0, U 0, U 0, U 0, U 0, U 0, U 0, U 0, U 0, U 0, U 0, U 0, U 0, U 0] rfl ?_
 intro g c
 refine nl ?_
 obtain rfl := ij d
 refine QW.end0 rfl ?_
 exact ⟨rfl, c.keep [0] rfl⟩
theorem zdr {w Z l d r R} (b : xW d = some r) (s : St w Z w []) (i : Rd w Z l (zx .i64) 1 d)
  (K : ∀ (m : Value) w', St w Z w' [qH m 3 (zx .i64) 1 r] -> R (Rt (m)) w') : Calls Tryz.prog 28 [l].toArray w R := by
 refine sr 8 Tryz.func28 rfl ?_
 obtain ⟨A, f, n, rfl⟩ := i.len
 refine rg (pu 1 [] (nx (sq (rg (pu 1 [(3, Sl f (d).length n)] ?_)))))
 refine OW.op (v := B (f).isNone) rfl rfl rfl rfl (fun a p => zjv (e := 3) rfl rfl rfl (by kernel_rfl) a _ p) ?_
 refine nx ?_
 rcases zft ((f).isNone) with c | c
 ·have o := i.isnil (fun _ => ⟨_, rfl⟩) c
  have b : some ([] : List Int) = some r := by rw [o] at b; exact b
  refine ct c (rg (pu 1 [(2, Sn)] (nx (rt (tr ?_)))))
  have s := s.nilRow Int 3 (zx .i64) 1
  obtain rfl := ij b
  exact r1 (K (Sn) _ (s.k [0]))
 refine cf c (sn (rg ?_))
 refine OW.row (α := Int) (e := 3) (enc := zx .i64) (sz := 1) s rfl rfl rfl [] rfl (fun _ => rfl) rfl rfl (fun _ => by kernel_rfl) ?_
 intro q t s
 refine pu 1 [(6, Sl f (d).length n)] ((be b) fun u j b => ?_)
 refine OW.app s 0 rfl (fun _ => rfl) (fun _ => rfl) rfl rfl rfl rfl rfl rfl (by kernel_rfl) el3 (i.on s) (jR j) ?_
 intro x y s
 obtain ⟨z, g, h, rfl⟩ := s.le 0
 refine pu 1 [(2, Sl g ((([] : List Int) ++ d)).length h)] (nx (rt ?_))
 obtain rfl := ij b
 exact r1 (K (Sl g ((([] : List Int) ++ d)).length h) _ (s.k [0]))
theorem xU {w Z l d r R} (b : zH d = some r) (s : St w Z w []) (i : Rd w Z l zj 5 d)
  (K : ∀ (m : Value) w', St w Z w' [qH m 43 zj 5 r] -> R (Rt (m)) w') : Calls Tryz.prog 29 [l].toArray w R := by
 refine sr 8 Tryz.func29 rfl ?_
 obtain ⟨A, f, n, rfl⟩ := i.len
 refine rg (pu 1 [] (nx (sq (rg (pu 1 [(3, Sl f (d).length n)] ?_)))))
 refine OW.op (v := B (f).isNone) rfl rfl rfl rfl (fun a p => zjv (e := 43) rfl rfl rfl (by kernel_rfl) a _ p) ?_
 refine nx ?_
 rcases zft ((f).isNone) with c | c
 ·have o := i.isnil (fun _ => ⟨_, rfl⟩) c
  have b : some ([] : List zc) = some r := by rw [o] at b; exact b
  refine ct c (rg (pu 1 [(2, Sn)] (nx (rt (tr ?_)))))
  have s := s.nilRow zc 43 zj 5
  obtain rfl := ij b
  exact r1 (K (Sn) _ (s.k [0]))
 refine cf c (sn (rg ?_))
 refine OW.row (α := zc) (e := 43) (enc := zj) (sz := 5) s rfl rfl rfl [] rfl (fun _ => rfl) rfl rfl (fun _ => by kernel_rfl) ?_
 intro q t s
 refine pu 1 [(6, Sl f (d).length n)] ((be b) fun u j b => ?_)
 refine OW.app s 0 rfl (fun _ => rfl) (fun _ => rfl) rfl rfl rfl rfl rfl rfl (by kernel_rfl) znG (i.on s) (jR j) ?_
 intro x y s
 obtain ⟨z, g, h, rfl⟩ := s.le 0
 refine pu 1 [(2, Sl g ((([] : List zc) ++ d)).length h)] (nx (rt ?_))
 obtain rfl := ij b
 exact r1 (K (Sl g ((([] : List zc) ++ d)).length h) _ (s.k [0]))
theorem zir {w Z e r R} (f : ze9 e = some r) (s : St w Z w []) (g : Rd w Z (.slice (some ⟨1, 0, none⟩) 7 7) qi 5 zbe)
  (K : ∀ w', St w Z w' [] -> R (Rt (.tuple #[I r.1, B r.2])) w') : Calls Tryz.prog 57 [I e].toArray w R := by
 refine sr 15 Tryz.func57 rfl (rg (pu 2 [] (nx (rg (pu 1 [(7, I e)] ((be f) fun a h f => (fn) (zem h (s.p []) (g.give s []) fun i b => ⟨_, rfl, have s := s.j [] [] b; pu 3 [(9, Ag [.string a.1.name, .string a.1.wants, U a.1.most, I a.1.asks, B a.1.isAsked]), (10, B a.2)] ((al s [.string ByteArray.empty, .string ByteArray.empty, U 0, I 0, B false]) fun d l s => (st s 0 [.string a.1.name, .string a.1.wants, U a.1.most, I a.1.asks, B a.1.isAsked]) fun m s => pu 1 [] (nx (sq ?_)))⟩)))))))
 refine CW.still (by kernel_rfl) (by kernel_rfl) ?_
 intro n c
 have s := s.same c
 refine op' 1 [(11, Po d 3)] ((od s 0) (op' 1 [(13, Po d 4)] ((od s 0) (op' 2 [(2, I a.1.asks), (3, B a.1.isAsked)] ?_))))
 refine OS.fin rfl ?_
 refine qn (rt ?_)
 obtain rfl := ij f
 exact r2 (K _ (s.k []))
theorem zcX (w : World) (g : Nat) (T0 : TypeId) (A0 C0 : List Value) (s : qg) (f : Int) (r : Int × Int × qg) (i : qM s f = some r)
    (d : St w (fp [zbd g T0 A0 (zdD s.cn []) C0]) w [zbd g T0 A0 (zdD s.cn []) C0]) :
    Calls Tryz.prog 59 [.pointer (some ⟨g, A0.length + 0, none⟩), I f].toArray w (fun e w' => e = .returned (.tuple #[U r.1, I r.2.1]) /\ St w (fp [zbd g T0 A0 (zdD s.cn []) C0]) w' [zbd g T0 A0 (zdD r.2.2.cn []) C0]) := by
 refine sr 28 Tryz.func59 rfl (rg (pu 2 [] (nx (sq (sq ?_)))))
 refine ck (fun a m => Rep 28 [(0, .pointer (some ⟨g, A0.length + 0, none⟩)), (1, I f), (11, B (decide (f < 0) || decide (f >= 16)))] a /\ St w (fp [zbd g T0 A0 (zdD s.cn []) C0]) m [zbd g T0 A0 (zdD s.cn []) C0]) ?_ fun a m ⟨h, d⟩ => go h (br i (fun i o => ?_) fun i o => ?_)
 ·refine rn (pu 3 [(8, B (decide (f < 0)))] (sp 8 (fun j => ?_) fun j => ?_))
  ·refine pu 3 [(11, B true)] (nl ?_)
   exact QW.say 11 (v := B (decide (f < 0) || decide (f >= 16))) rfl (by rw [j]; try rfl) (me fun a h => ⟨h.ag, d.k [0]⟩)
  refine pu 3 [(11, B (decide (f >= 16)))] (nl ?_)
  exact QW.say 11 (v := B (decide (f < 0) || decide (f >= 16))) rfl (by rw [j]; try rfl) (me fun a h => ⟨h.ag, d.k [0]⟩)
 ·refine rg (pu 2 [(4, U 0), (5, I 35)] (nx (rt (tr ?_))))
  obtain rfl := ij i
  refine QW.ret2 rfl rfl rfl ?_
  exact ⟨rfl, d.keep [0] rfl⟩
 refine sn (sq ?_)
 refine CW.tail 10 (by kernel_rfl) (by kernel_rfl) ?_
 intro q l
 have d := d.same l
 refine op' 4 [(12, .pointer (some ⟨g, A0.length + 0, none⟩)), (13, I f), (15, .pointer (some ⟨g, A0.length + 0, none⟩))] ((be i) fun b c i => ?_)
 refine OS.op (v := .pointer (some ⟨g, A0.length + 0 + Int.toNat f * 1, none⟩)) rfl rfl rfl rfl rfl (fun a h => zy (n := 16) 26 1 rfl rfl rfl (zn c).1 (zn c).2.1 (by kernel_rfl) (by kernel_rfl) a _ h) ?_
 refine OS.ld rfl rfl rfl rfl rfl (by kernel_rfl) (d.arrP 0 rfl (zx .u64) (fun _ => rfl) 16 s.cn 0 rfl rfl c 0 _ rfl) ?_
 refine op' 3 [(18, U (zp ((s.cn b) + 1))), (20, .pointer (some ⟨g, A0.length + 0, none⟩))] ?_
 refine OS.op (v := .pointer (some ⟨g, A0.length + 0 + Int.toNat f * 1, none⟩)) rfl rfl rfl rfl rfl (fun a h => zy (n := 16) 26 1 rfl rfl rfl (zn c).1 (zn c).2.1 (by kernel_rfl) (by kernel_rfl) a _ h) ?_
 refine OS.on ?_
 refine OW.stPA d 0 rfl rfl rfl rfl rfl (by kernel_rfl) rfl (zx .u64) (fun _ => rfl) 16 s.cn 0 rfl rfl c 0 rfl rfl (zp ((s.cn b) + 1)) rfl (zdD (zW s.cn b (zp ((s.cn b) + 1))) []) rfl ?_
 intro p d
 refine nx (rg (pu 4 [(23, I f), (25, .pointer (some ⟨g, A0.length + 0, none⟩))] ?_))
 refine OW.op (v := .pointer (some ⟨g, A0.length + 0 + Int.toNat f * 1, none⟩)) rfl rfl rfl rfl (fun a h => zy (n := 16) 26 1 rfl rfl rfl (zn c).1 (zn c).2.1 (by kernel_rfl) (by kernel_rfl) a _ h) ?_
 refine OW.ld rfl rfl rfl rfl (by kernel_rfl) (d.arrP 0 rfl (zx .u64) (fun _ => rfl) 16 (zW s.cn b (zp ((s.cn b) + 1))) 0 rfl rfl c 0 _ rfl) ?_
 refine pu 2 [(4, U ((zW s.cn b (zp ((s.cn b) + 1))) b)), (5, I 0)] (nx (rt ?_))
 obtain rfl := ij i
 refine QW.ret2 rfl rfl rfl ?_
 exact ⟨rfl, d.keep [0] rfl⟩
end Go.Proofs.YtgmmfjpmahcocaaGreatDoor
