import Derived.Test.YtgmmfjpmahcocaaGreatDoorW1p2
set_option linter.unusedSimpArgs false
namespace Go.Proofs.YtgmmfjpmahcocaaGreatDoor
open Go.Sx
set_option linter.unusedVariables false
set_option maxRecDepth 10000
set_option maxHeartbeats 4000000
theorem zbP {w Z fu aj ak p0 p1 v2 g p3 r R} (c : qD fu p0 p1 g p3 = some r) (s : St w Z w []) (cd : Rd w Z aj (zx .i64) 1 p0.Ms) (X : Rd w Z ak zj 5 p0.Co) (t : Rd w Z v2 zb 4 g)
  (K : ∀ (x0 : Value) w', St w Z w' [qH x0 156 zb 4 r.1] -> R (Rt (.tuple #[x0, B r.2])) w') : Calls Tryz.prog 139 [Ag [aj, ak], I p1, v2, B p3].toArray w R := by
 refine sr 131 Tryz.func139 rfl ?_
 obtain ⟨l1, a2, c3, rfl⟩ := cd.len
 obtain ⟨l4, a5, c6, rfl⟩ := X.len
 obtain ⟨l7, Y, c9, rfl⟩ := t.len
 refine rg ((bx s [Sl a2 (p0.Ms).length c3, Sl a5 (p0.Co).length c6]) fun cw et s => pu 2 [] (nx (rg (pu 1 [(19, Po cw 1)] ((ld s 0) (pu 1 [(21, I p1)] ((be c) fun b ab c => ?_)))))))
 obtain ⟨eu, ev, ew, am⟩ := X.formv (fun _ => ⟨_, rfl⟩) ab
 refine (ix 43 5 ab am) ((lN (zj b) (X.cellv s ab am)) ((al s [I 0, I 0, I 0, I 0, I 0]) fun m ex s => (st s 1 [I b.Op, I b.D, I b.A, I b.B, I b.Imm]) fun ey s => nx (rg (pu 1 [(24, Pt m)] ((ld s 1) (pu 1 [(11, I b.Op)] (nx (rg ?_))))))))
 refine OW.row (α := za) (e := 156) (enc := zb) (sz := 4) s rfl rfl rfl [] rfl (fun _ => rfl) rfl rfl (fun _ => by kernel_rfl) ?_
 intro ez e0 s
 refine pu 1 [(27, Sl Y (g).length c9)] ((be c) fun e1 ce c => ?_)
 refine OW.app s 2 rfl (fun _ => rfl) (fun _ => rfl) rfl rfl rfl rfl rfl rfl (by kernel_rfl) zi8 (t.on s) (jR ce) ?_
 intro e2 e3 s
 obtain ⟨e4, d, f, rfl⟩ := s.le 2
 refine pu 1 [(12, Sl d ((([] : List za) ++ g)).length f)] (nx (sq (bl (rg (pu 3 [(29, B (b.Op == 0))] (nx (br c (fun c cf => ?_) fun c cf => ?_)))))))
 ·refine CW.plan (by kernel_rfl) ?_
  intro e5 bk
  have s := s.same bk
  refine ap [0, 1] [(32, Sl d ((([] : List za) ++ g)).length f), (33, Po m 1)] ((ad 2 s 1) ?_)
  refine OA.ldN (i := 3) (cs := [I b.Op, I b.D, I b.A, I b.B, I b.Imm]) rfl (by kernel_rfl) rfl rfl rfl (by kernel_rfl) (by kernel_rfl) (s.blkN 1 rfl 0 5) ?_
  refine ap [4] [(36, Sl Y (g).length c9)] ((aa 5 [2]) ((be c) fun cx cg c => (fn) (qT cg (s.p []) (t.give s []) fun e6 bm => ⟨_, rfl, have s := s.j [] [0, 1, 2] bm; ?_⟩)))
  refine OA.next ⟨(s.blk 1 rfl rfl), trivial⟩ ?_
  refine (be c) fun e7 M c => ?_
  obtain ⟨e8, e9, fa, an⟩ := s.rowv 2 rfl M
  refine OA.idx (i := 6) 156 4 rfl (by kernel_rfl) rfl rfl rfl an rfl (zh M).1 (zh M).2.1 (by kernel_rfl) (by kernel_rfl) ?_
  refine (aa 7 []) ?_
  refine OW.stR s 2 rfl an (fun _ => rfl) rfl rfl M 0 rfl rfl rfl (by kernel_rfl) rfl rfl cx rfl ?_
  intro fb s
  refine OA.next trivial ?_
  refine aF (bn (qn (rg (pu 3 [(8, Sl d ((([] : List za) ++ g)).length f), (9, B true)] (nx (rt ?_))))))
  obtain rfl := ij c
  exact r2 (K (Sl d ((([] : List za) ++ g)).length f) _ (s.k [2]))
 refine rg (pu 1 [(40, I b.Op)] ((be c) fun cy ch c => (fn) (zat ch (s.p []) fun fc bo => ⟨_, rfl, have s := s.j [] [0, 1, 2] bo; pu 1 [(39, B cy)] (nx (br c (fun c ci => ?_) fun c ci => ?_))⟩)))
 ·refine sq ((be c) fun ao h c => ?_)
  refine ck (fun a W => ∃ (H : Nat), Rep 131 [(10, Pt m), (12, Sl d ((([] : List za) ++ g)).length f), (13, Pt H)] a /\ St w Z W [zs m 43 [I b.Op, I b.D, I b.A, I b.B, I b.Imm], qH (Sl d ((([] : List za) ++ g)).length f) 156 zb 4 (([] : List za) ++ g), zs H 154 [U ao.Lo, U ao.Hi]]) ?_ fun a W ⟨H, q, s⟩ => go q ?_
  ·refine CW.plan (by kernel_rfl) ?_
   intro cz aq
   have s := s.same aq
   refine ap [0, 1, 2] [(43, I b.Op), (44, Sl Y (g).length c9), (45, Po m 2)] ((ad 3 s 1) ((be h) fun ar n h => ?_))
   obtain ⟨cj, cl, c0, u⟩ := t.formv (fun _ => ⟨_, rfl⟩) n
   refine OA.idx (i := 4) 156 4 rfl (by kernel_rfl) rfl rfl rfl u rfl (zh n).1 (zh n).2.1 (by kernel_rfl) (by kernel_rfl) ?_
   refine ap [5] [(48, .pointer (some ⟨cj, cl + Int.toNat b.A * 4 + 1, none⟩))] ?_
   refine OA.ldN (i := 6) (cs := [U ar.Sp.Lo, U ar.Sp.Hi]) rfl (by kernel_rfl) rfl rfl rfl (by kernel_rfl) (by kernel_rfl) (elN (t.cellv s n u) 1 2) ?_
   refine OA.ldN (i := 7) (cs := [I b.Op, I b.D, I b.A, I b.B, I b.Imm]) rfl (by kernel_rfl) rfl rfl rfl (by kernel_rfl) (by kernel_rfl) (s.blkN 1 rfl 0 5) ?_
   refine ap [8] [(51, Sl Y (g).length c9)] ?_
   refine OA.acts [9, 15] 9 (by kernel_rfl) (by kernel_rfl) (by kernel_rfl) (qR ?_ (qR ?_ zbD))
   ·refine Alt.of (i := 9) [6, 3] rfl rfl (by kernel_rfl) (by kernel_rfl) ?_
    refine (be h) fun r143 bp h => (fn) (qT bp (s.p []) (t.give s []) fun c1 au => ⟨_, rfl, have s := s.j [] [0, 1, 2] au; ?_⟩)
    refine OA.next ⟨(elN (t.cellv s n u) 1 2), (s.blk 1 rfl rfl), trivial⟩ ?_
    refine ap [10] [(53, Ag [U r143.Sp.Lo, U r143.Sp.Hi])] ?_
    refine OA.acts [11, 15] 11 (by kernel_rfl) (by kernel_rfl) (by kernel_rfl) (qR ?_ (qR ?_ zbD))
    ·refine Alt.of (i := 11) [] rfl rfl (by kernel_rfl) (by kernel_rfl) ?_
     refine (be h) fun r147 bq h => (fn) (zbq bq (s.p []) fun c2 av => ⟨_, rfl, have s := s.j [] [0, 1, 2] av; ?_⟩)
     refine OA.next trivial ?_
     refine ap [12, 13, 14] [(55, Ag [U r147.1.Lo, U r147.1.Hi]), (56, B r147.2)] ((aa 15 []) ((al s [U 0, U 0]) fun cm c4 s => ?_))
     refine OA.next trivial ?_
     refine (aa 16 []) ((st s 3 [U r147.1.Lo, U r147.1.Hi]) fun c5 s => ?_)
     refine OA.next trivial ?_
     refine (aa 17 []) (pu 1 [(14, B r147.2)] ?_)
     refine OA.next trivial ?_
     refine aF ?_
     obtain rfl := ij h
     exact me fun a q => ⟨cm, q.ag, s.k [1, 2, 3]⟩
    refine Alt.of (i := 15) [6, 3] rfl rfl (by kernel_rfl) (by kernel_rfl) ?_
    refine (al s [U 0, U 0]) fun cn c7 s => ?_
    refine OA.next ⟨(elN (t.cellv s n u) 1 2), (s.blk 1 rfl rfl), trivial⟩ ?_
    refine (aa 11 []) ((be h) fun r156 bs h => (fn) (zbq bs (s.p []) fun c8 aw => ⟨_, rfl, have s := s.j [] [0, 1, 2, 3] aw; ?_⟩))
    refine OA.next trivial ?_
    refine ap [12, 13, 14] [(55, Ag [U r156.1.Lo, U r156.1.Hi]), (56, B r156.2)] ((aa 16 []) ((st s 3 [U r156.1.Lo, U r156.1.Hi]) fun da s => ?_))
    refine OA.next trivial ?_
    refine (aa 17 []) (pu 1 [(14, B r156.2)] ?_)
    refine OA.next trivial ?_
    refine aF ?_
    obtain rfl := ij h
    exact me fun a q => ⟨cn, q.ag, s.k [1, 2, 3]⟩
   refine Alt.of (i := 15) [7, 6, 3] rfl rfl (by kernel_rfl) (by kernel_rfl) ?_
   refine (al s [U 0, U 0]) fun co db s => ?_
   refine OA.next ⟨(s.blkN 1 rfl 0 5), (elN (t.cellv s n u) 1 2), (s.blk 1 rfl rfl), trivial⟩ ?_
   refine (aa 9 [6, 3]) ((be h) fun r163 bu h => (fn) (qT bu (s.p []) (t.give s []) fun dc ax => ⟨_, rfl, have s := s.j [] [0, 1, 2, 3] ax; ?_⟩))
   refine OA.next ⟨(elN (t.cellv s n u) 1 2), (s.blk 1 rfl rfl), trivial⟩ ?_
   refine ap [10] [(53, Ag [U r163.Sp.Lo, U r163.Sp.Hi])] ((aa 11 []) ((be h) fun r167 bv h => (fn) (zbq bv (s.p []) fun dd ay => ⟨_, rfl, have s := s.j [] [0, 1, 2, 3] ay; ?_⟩)))
   refine OA.next trivial ?_
   refine ap [12, 13, 14] [(55, Ag [U r167.1.Lo, U r167.1.Hi]), (56, B r167.2)] ((aa 16 []) ((st s 3 [U r167.1.Lo, U r167.1.Hi]) fun de s => ?_))
   refine OA.next trivial ?_
   refine (aa 17 []) (pu 1 [(14, B r167.2)] ?_)
   refine OA.next trivial ?_
   refine aF ?_
   obtain rfl := ij h
   exact me fun a q => ⟨co, q.ag, s.k [1, 2, 3]⟩
  refine CW.plan (by kernel_rfl) ?_
  intro df az
  have s := s.same az
  refine ap [0, 1] [(57, Sl d ((([] : List za) ++ g)).length f), (58, Po m 1)] ((ad 2 s 0) (ap [3] [(60, Pt H)] ((ad 4 s 2) (ap [5] [(62, Po H 1)] ((ad 6 s 2) ((aa 7 [2]) ((be c) fun r187 bw c => (fn) (xR bw (s.p []) fun dg a0 => ⟨_, rfl, have s := s.j [] [0, 1, 2] a0; ?_⟩))))))))
  refine OA.next ⟨(s.blk 0 rfl rfl), trivial⟩ ?_
  refine (be c) fun dh E c => ?_
  obtain ⟨di, dj, dk, ac⟩ := s.rowv 1 rfl E
  refine OA.idx (i := 8) 156 4 rfl (by kernel_rfl) rfl rfl rfl ac rfl (zh E).1 (zh E).2.1 (by kernel_rfl) (by kernel_rfl) ?_
  refine (aa 9 []) ?_
  refine OW.stR s 1 rfl ac (fun _ => rfl) rfl rfl E 0 rfl rfl rfl (by kernel_rfl) rfl rfl r187 rfl ?_
  intro dl s
  refine OA.next trivial ?_
  refine aF (bn (qn (rg (pu 3 [(8, Sl d ((([] : List za) ++ g)).length f), (9, B true)] (nx (rt ?_))))))
  obtain rfl := ij c
  exact r2 (K (Sl d ((([] : List za) ++ g)).length f) _ (s.k [1]))
 refine sq ?_
 refine ck (fun a W => Rep 131 [(2, Sl Y (g).length c9), (3, B p3), (10, Pt m), (11, I b.Op), (12, Sl d ((([] : List za) ++ g)).length f), (66, B ((b.Op == 11) || (b.Op == 13)))] a /\ St w Z W [zs m 43 [I b.Op, I b.D, I b.A, I b.B, I b.Imm], qH (Sl d ((([] : List za) ++ g)).length f) 156 zb 4 (([] : List za) ++ g)]) ?_ fun a W ⟨q, s⟩ => go q (br c (fun c bz => ?_) fun c bz => ?_)
 ·refine rn (pu 3 [(69, B (b.Op == 11))] (sp 69 (fun O => ?_) fun O => ?_))
  ·refine pu 4 [(66, B true)] (nl ?_)
   exact QW.say 66 (v := B ((b.Op == 11) || (b.Op == 13))) rfl (by rw [O]; try rfl) (me fun a q => ⟨q.ag, s.k [1, 2]⟩)
  refine pu 4 [(66, B (b.Op == 13))] (nl ?_)
  exact QW.say 66 (v := B ((b.Op == 11) || (b.Op == 13))) rfl (by rw [O]; try rfl) (me fun a q => ⟨q.ag, s.k [1, 2]⟩)
 ·refine CW.plan (by kernel_rfl) ?_
  intro dm a1
  have s := s.same a1
  refine ap [0, 1] [(73, Sl d ((([] : List za) ++ g)).length f), (74, Po m 1)] ((ad 2 s 0) ((aa 3 [2]) ((be c) fun r215 b0 c => (fn) (zci b0 (s.p []) fun dn a3 => ⟨_, rfl, have s := s.j [] [0, 1] a3; ?_⟩))))
  refine OA.next ⟨(s.blk 0 rfl rfl), trivial⟩ ?_
  refine (be c) fun dp F c => ?_
  obtain ⟨dq, dr, ds, ae⟩ := s.rowv 1 rfl F
  refine OA.idx (i := 4) 156 4 rfl (by kernel_rfl) rfl rfl rfl ae rfl (zh F).1 (zh F).2.1 (by kernel_rfl) (by kernel_rfl) ?_
  refine (aa 5 []) ?_
  refine OW.stR s 1 rfl ae (fun _ => rfl) rfl rfl F 0 rfl rfl rfl (by kernel_rfl) rfl rfl r215 rfl ?_
  intro dt s
  refine OA.next trivial ?_
  refine aF (bn (qn (rg (pu 3 [(8, Sl d ((([] : List za) ++ g)).length f), (9, B true)] (nx (rt ?_))))))
  obtain rfl := ij c
  exact r2 (K (Sl d ((([] : List za) ++ g)).length f) _ (s.k [1]))
 refine rg (pu 3 [(78, B (b.Op == 14))] (nx (br c (fun c b1 => ?_) fun c b1 => ?_)))
 ·refine rn (pu 2 [(81, Sl d ((([] : List za) ++ g)).length f), (82, Po m 1)] ((ld s 0) (pu 1 [(84, Po m 4)] ((ld s 0) (pu 1 [(86, Ag [I 2, U 0, U 0, I b.Imm])] ((be c) fun du Q c => ?_))))))
  obtain ⟨dv, dw, dx, af⟩ := s.rowv 1 rfl Q
  refine (ix 156 4 Q af) ?_
  refine OW.stR s 1 rfl af (fun _ => rfl) rfl rfl Q 0 rfl rfl rfl (by kernel_rfl) rfl rfl (za.mk 2 (zd.mk 0 0) b.Imm) rfl ?_
  intro dy s
  refine nl (bn (qn (rg (pu 3 [(8, Sl d ((([] : List za) ++ g)).length f), (9, B true)] (nx (rt ?_))))))
  obtain rfl := ij c
  exact r2 (K (Sl d ((([] : List za) ++ g)).length f) _ (s.k [1]))
 refine rg (pu 3 [(88, B (b.Op == 21))] (nx (br c (fun c b2 => ?_) fun c b2 => ?_)))
 ·refine rg (pu 1 [(92, Po m 4)] ((ld s 0) ((be c) fun r249 b3 c => (fn) (zd4 b3 (s.p []) fun dz a4 => ⟨_, rfl, have s := s.j [] [0, 1] a4; pu 3 [(95, Ag [I r249.1.Ki, U r249.1.Sp.Lo, U r249.1.Sp.Hi, I r249.1.Map]), (96, B r249.2)] ((al s [I 0, U 0, U 0, I 0]) fun d0 d1 s => (st s 2 [I r249.1.Ki, U r249.1.Sp.Lo, U r249.1.Sp.Hi, I r249.1.Map]) fun d2 s => pu 1 [] (nx (rn (pu 1 [(97, Sl d ((([] : List za) ++ g)).length f)] ((lN [I r249.1.Ki, U r249.1.Sp.Lo, U r249.1.Sp.Hi, I r249.1.Map] (s.blkN 2 rfl 0 4)) ((be c) fun d3 T c => ?_))))))⟩))))
  obtain ⟨d4, d5, d6, ah⟩ := s.rowv 1 rfl T
  refine (ix 156 4 T ah) ?_
  refine OW.stR s 1 rfl ah (fun _ => rfl) rfl rfl T 0 rfl rfl rfl (by kernel_rfl) rfl rfl r249.1 rfl ?_
  intro d7 s
  refine nl (bn (qn (rg (pu 3 [(8, Sl d ((([] : List za) ++ g)).length f), (9, B true)] (nx (rt ?_))))))
  obtain rfl := ij c
  exact r2 (K (Sl d ((([] : List za) ++ g)).length f) _ (s.k [1]))
 refine rg (pu 1 [(101, I b.Op)] ((be c) fun r274 b4 c => (fn) (vp b4 (s.p []) fun d8 a6 => ⟨_, rfl, have s := s.j [] [0, 1] a6; pu 1 [(100, B r274)] (nx (br c (fun c b5 => ?_) fun c b5 => ?_))⟩)))
 ·refine sq ((be c) fun V l c => ?_)
  refine ck (fun a W => ∃ (J : Nat), Rep 131 [(10, Pt m), (12, Sl d ((([] : List za) ++ g)).length f), (17, Pt J), (18, B V.2)] a /\ St w Z W [zs m 43 [I b.Op, I b.D, I b.A, I b.B, I b.Imm], qH (Sl d ((([] : List za) ++ g)).length f) 156 zb 4 (([] : List za) ++ g), zs J 154 [U V.1.Lo, U V.1.Hi]]) ?_ fun a W ⟨J, q, s⟩ => go q (sq (rg (pu 2 [(120, B (!V.2))] (nx (br c (fun c b6 => ?_) fun c b6 => ?_)))))
  ·refine CW.plan (by kernel_rfl) ?_
   intro d9 a7
   have s := s.same a7
   refine ap [0, 1, 2] [(104, I b.Op), (105, Sl Y (g).length c9), (106, Po m 2)] ((ad 3 s 0) ((be l) fun a9 o l => ?_))
   obtain ⟨cp, cq, ea, x⟩ := t.formv (fun _ => ⟨_, rfl⟩) o
   refine OA.idx (i := 4) 156 4 rfl (by kernel_rfl) rfl rfl rfl x rfl (zh o).1 (zh o).2.1 (by kernel_rfl) (by kernel_rfl) ?_
   refine ap [5] [(109, .pointer (some ⟨cp, cq + Int.toNat b.A * 4 + 1, none⟩))] ?_
   refine OA.ldN (i := 6) (cs := [U a9.Sp.Lo, U a9.Sp.Hi]) rfl (by kernel_rfl) rfl rfl rfl (by kernel_rfl) (by kernel_rfl) (elN (t.cellv s o x) 1 2) ?_
   refine OA.ldN (i := 7) (cs := [I b.Op, I b.D, I b.A, I b.B, I b.Imm]) rfl (by kernel_rfl) rfl rfl rfl (by kernel_rfl) (by kernel_rfl) (s.blkN 0 rfl 0 5) ?_
   refine ap [8, 11] [(112, Sl Y (g).length c9), (115, B p3)] ?_
   refine OA.acts [9, 16] 9 (by kernel_rfl) (by kernel_rfl) (by kernel_rfl) (qR ?_ (qR ?_ zbD))
   ·refine Alt.of (i := 9) [6, 3] rfl rfl (by kernel_rfl) (by kernel_rfl) ?_
    refine (be l) fun ba b7 l => (fn) (qT b7 (s.p []) (t.give s []) fun eb bb => ⟨_, rfl, have s := s.j [] [0, 1] bb; ?_⟩)
    refine OA.next ⟨(elN (t.cellv s o x) 1 2), (s.blk 0 rfl rfl), trivial⟩ ?_
    refine ap [10] [(114, Ag [U ba.Sp.Lo, U ba.Sp.Hi])] ?_
    refine OA.acts [12, 16] 12 (by kernel_rfl) (by kernel_rfl) (by kernel_rfl) (qR ?_ (qR ?_ zbD))
    ·refine Alt.of (i := 12) [] rfl rfl (by kernel_rfl) (by kernel_rfl) ?_
     refine (be l) fun y b8 l => (fn) (vT b8 (s.p []) fun ec bc => ⟨_, rfl, have s := s.j [] [0, 1] bc; ?_⟩)
     refine OA.next trivial ?_
     refine ap [13, 14, 15] [(117, Ag [U y.1.Lo, U y.1.Hi]), (118, B y.2)] ((aa 16 []) ((al s [U 0, U 0]) fun cr ed s => ?_))
     refine OA.next trivial ?_
     refine (aa 17 []) ((st s 2 [U y.1.Lo, U y.1.Hi]) fun ee s => ?_)
     refine OA.next trivial ?_
     refine (aa 18 []) (pu 1 [(18, B y.2)] ?_)
     refine OA.next trivial ?_
     refine aF ?_
     obtain rfl := ij l
     exact me fun a q => ⟨cr, q.ag, s.k [0, 1, 2]⟩
    refine Alt.of (i := 16) [6, 3] rfl rfl (by kernel_rfl) (by kernel_rfl) ?_
    refine (al s [U 0, U 0]) fun ct ef s => ?_
    refine OA.next ⟨(elN (t.cellv s o x) 1 2), (s.blk 0 rfl rfl), trivial⟩ ?_
    refine (aa 12 []) ((be l) fun z b9 l => (fn) (vT b9 (s.p []) fun eg bd => ⟨_, rfl, have s := s.j [] [0, 1, 2] bd; ?_⟩))
    refine OA.next trivial ?_
    refine ap [13, 14, 15] [(117, Ag [U z.1.Lo, U z.1.Hi]), (118, B z.2)] ((aa 17 []) ((st s 2 [U z.1.Lo, U z.1.Hi]) fun eh s => ?_))
    refine OA.next trivial ?_
    refine (aa 18 []) (pu 1 [(18, B z.2)] ?_)
    refine OA.next trivial ?_
    refine aF ?_
    obtain rfl := ij l
    exact me fun a q => ⟨ct, q.ag, s.k [0, 1, 2]⟩
   refine Alt.of (i := 16) [7, 6, 3] rfl rfl (by kernel_rfl) (by kernel_rfl) ?_
   refine (al s [U 0, U 0]) fun cu ei s => ?_
   refine OA.next ⟨(s.blkN 0 rfl 0 5), (elN (t.cellv s o x) 1 2), (s.blk 0 rfl rfl), trivial⟩ ?_
   refine (aa 9 [6, 3]) ((be l) fun bf ca l => (fn) (qT ca (s.p []) (t.give s []) fun ej bg => ⟨_, rfl, have s := s.j [] [0, 1, 2] bg; ?_⟩))
   refine OA.next ⟨(elN (t.cellv s o x) 1 2), (s.blk 0 rfl rfl), trivial⟩ ?_
   refine ap [10] [(114, Ag [U bf.Sp.Lo, U bf.Sp.Hi])] ((aa 12 []) ((be l) fun C cb l => (fn) (vT cb (s.p []) fun ek bh => ⟨_, rfl, have s := s.j [] [0, 1, 2] bh; ?_⟩)))
   refine OA.next trivial ?_
   refine ap [13, 14, 15] [(117, Ag [U C.1.Lo, U C.1.Hi]), (118, B C.2)] ((aa 17 []) ((st s 2 [U C.1.Lo, U C.1.Hi]) fun el s => ?_))
   refine OA.next trivial ?_
   refine (aa 18 []) (pu 1 [(18, B C.2)] ?_)
   refine OA.next trivial ?_
   refine aF ?_
   obtain rfl := ij l
   exact me fun a q => ⟨cu, q.ag, s.k [0, 1, 2]⟩
  ·refine rg (pu 2 [(8, Sn), (9, B false)] (nx (rt (tr (bt (tr ?_))))))
   have s := s.nilRow za 156 zb 4
   obtain rfl := ij c
   exact r2 (K (Sn) _ (s.k [3]))
  refine sn ?_
  refine CW.plan (by kernel_rfl) ?_
  intro em bi
  have s := s.same bi
  refine ap [0, 1] [(121, Sl d ((([] : List za) ++ g)).length f), (122, Po m 2)] ((ad 2 s 0) (ap [3] [(124, Pt J)] ((ad 4 s 2) (ap [5] [(126, Po J 1)] ((ad 6 s 2) ((aa 7 [2]) ((be c) fun cv cc c => (fn) (xR cc (s.p []) fun en bj => ⟨_, rfl, have s := s.j [] [0, 1, 2] bj; ?_⟩))))))))
  refine OA.next ⟨(s.blk 0 rfl rfl), trivial⟩ ?_
  refine (be c) fun eo G c => ?_
  obtain ⟨ep, eq, er, ai⟩ := s.rowv 1 rfl G
  refine OA.idx (i := 8) 156 4 rfl (by kernel_rfl) rfl rfl rfl ai rfl (zh G).1 (zh G).2.1 (by kernel_rfl) (by kernel_rfl) ?_
  refine (aa 9 []) ?_
  refine OW.stR s 1 rfl ai (fun _ => rfl) rfl rfl G 0 rfl rfl rfl (by kernel_rfl) rfl rfl cv rfl ?_
  intro es s
  refine OA.next trivial ?_
  refine aF (bn (qn (rg (pu 3 [(8, Sl d ((([] : List za) ++ g)).length f), (9, B true)] (nx (rt ?_))))))
  obtain rfl := ij c
  exact r2 (K (Sl d ((([] : List za) ++ g)).length f) _ (s.k [1]))
 refine sk (bn (qn (rg (pu 3 [(8, Sl d ((([] : List za) ++ g)).length f), (9, B true)] (nx (rt ?_))))))
 obtain rfl := ij c
 exact r2 (K (Sl d ((([] : List za) ++ g)).length f) _ (s.k [1]))
theorem zeq {w Z fu az a0 m x v2 V r R} (hF : zab fu m x V = some r) (s : St w Z w []) (ai : Rd w Z az (zx .i64) 1 m.Ms) (W : Rd w Z a0 zj 5 m.Co) (h2 : RdN w Z v2 jZ.rd 1 V)
  (K : ∀ (x0 : Value) (cc : List Nat) w', St w Z w' [nI 126 jZ x0 cc r none] -> R (Rt (x0)) w') : Calls Tryz.prog 91 [Ag [az, a0], I x, v2].toArray w R := by
 refine sr 89 Tryz.func91 rfl ?_
 obtain ⟨l1, a2, c3, rfl⟩ := ai.len
 obtain ⟨l4, a5, c6, rfl⟩ := W.len
 obtain ⟨l7, a8, c9, rfl⟩ := h2.len
 refine rg ((bx s [Sl a2 (m.Ms).length c3, Sl a5 (m.Co).length c6]) fun y d1 s => pu 1 [] (nx (rg (pu 1 [(7, Sn)] (nx (sq (rg (pu 2 [(17, B (x == 0))] (nx ((be hF) fun a1 o hF => ?_))))))))))
 refine ck (fun a z => ∃ (a3 : Value) (a4 : List Nat), Rep 89 [(1, I x), (2, Sl a8 (V).length c9), (3, Pt y), (7, a3)] a /\ St w Z z [zs y 25 [Sl a2 (m.Ms).length c3, Sl a5 (m.Co).length c6], nI 126 jZ a3 a4 a1 none]) ?_ fun a z ⟨a3, a4, d, s⟩ => go d ?_
 ·refine br o (fun o b9 => ?_) fun o b9 => ?_
  ·refine rn (pu 1 [(18, Sn)] ((be o) fun M ca o => ?_))
   refine OW.make (enc := zb) (sz := 4) s rfl rfl rfl rfl rfl (by kernel_rfl) zi8 (za.mk 0 (zd.mk 0 0) 0) (by kernel_rfl) (fun _ => rfl) ca ?_
   intro b6 d2 s
   refine have s := s.ti 1; ?_
   refine OW.row (α := List Value) (e := 126) (enc := fit 1) (sz := 1) s rfl rfl rfl [[.slice (some ⟨b6, 0, none⟩) M M]] rfl (fun _ => xT _ _) rfl rfl (fun _ => by kernel_rfl) ?_
   intro cd d3 s
   have s := s.bchOne (R := jZ) 1 rfl
   refine have s := s.k [0, 1, 2]; ?_
   have s : St _ _ _ [_, zm4 jZ [[.slice (some ⟨b6, 0, none⟩) M M]] _ [(List.replicate M (za.mk 0 (zd.mk 0 0) 0))], _] := s
   obtain ⟨ce, s⟩ := s.nOf 2 1 rfl rfl rfl rfl
   refine have s := s.k [0, 2]; ?_
   have s : St _ _ _ [_, nI 126 jZ (.slice (some ⟨cd, 0, none⟩) 1 1) ce ([(List.replicate M (za.mk 0 (zd.mk 0 0) 0))]) none] := s
   have s := s.nNil 126 jZ none
   refine (be o) fun d4 cb o => ?_
   refine OW.appN s 2 1 rfl rfl rfl rfl rfl rfl rfl rfl rfl (by kernel_rfl) zlU (jR cb) (fun _ _ _ _ h => zge h) ?_
   intro d5 cf d6 s
   refine have s := s.k [0, 2]; ?_
   obtain ⟨d7, b7, b8, rfl⟩ := s.nq 1
   refine pu 1 [(7, Sl b7 ((([] : List (List za)) ++ [(List.replicate M (za.mk 0 (zd.mk 0 0) 0))])).length b8)] (nl ?_)
   obtain rfl := ij o
   exact me fun a d => ⟨(Sl b7 ((([] : List (List za)) ++ [(List.replicate M (za.mk 0 (zd.mk 0 0) 0))])).length b8), cf, d.ag, s.k [0, 1]⟩
  refine sk ?_
  have s := s.nNil 126 jZ none
  obtain rfl := ij o
  exact me fun a d => ⟨(Sn), ([]), d.ag, s.k [0, 1]⟩
 obtain ⟨d8, cg, ch, rfl⟩ := s.nq 1
 refine sq (rg (pu 1 [(8, I 0)] (nx ((be hF) fun ac bw hF => ?_))))
 refine ck (fun a z => ∃ (aj : Value) (ak : List Nat), Rep 89 [(7, aj)] a /\ St w Z z [nI 126 jZ aj ak ac none]) ?_ fun a z ⟨aj, ak, d, s⟩ => go d ?_
 ·refine bl ?_
  refine CW.loop (fun n a z => ∃ (b : (List (List za)) × Int) (ad : Value) (q : List Nat), Rep 89 [(1, I x), (2, Sl a8 (V).length c9), (3, Pt y), (7, ad), (8, I b.2)] a /\ St w Z z [zs y 25 [Sl a2 (m.Ms).length c3, Sl a5 (m.Co).length c6], nI 126 jZ ad q b.1 none] /\ loop (qA fu m x V) n b = some ac) fu (fun a d => ⟨(a1, 0), (Sl cg (a1).length ch), a4, d.ag, s.keep [0, 1] rfl, bw⟩) ?_
  rintro A a z ⟨b, ad, q, d, s, c⟩
  rcases A with _ | A
  ·exact (jX c).elim
  refine go d ?_
  obtain ⟨cm, t, u, rfl⟩ := s.nq 1
  refine sq (rg (pu 3 [(24, B (decide (b.2 < x)))] (nx (br c (fun c a6 => ?_) fun c a6 => ?_))))
  ·refine sn (sq (bl (sq (rg (pu 2 [(27, Sl a8 (V).length c9), (28, I b.2)] ((be c) fun O l c => ?_))))))
   obtain ⟨cn, co, cp, ci, a7, a9, ba⟩ := h2.formv l
   obtain ⟨cq, rfl, ae⟩ := a9
   have ae : Rd _ _ _ _ _ O := ae
   obtain ⟨cr, ct, cu, rfl⟩ := ae.len
   refine (ix 126 1 l a7) ?_
   refine OW.ld rfl rfl rfl rfl (by kernel_rfl) (ba 0 _ rfl _ _ s) ?_
   refine pu 2 [(32, B (((O).length : Int) == 0))] (nx (br c (fun c bb => ?_) fun c bb => ?_))
   ·exact ex (te (bh (qn (rn (pu 3 [(8, I (w64 (b.2 + 1)))] (nl (me fun a d => ⟨A, zls _, (b.1, w64 (b.2 + 1)), (Sl t (b.1).length u), q, d.ag, s.k [0, 1], c⟩)))))))
   refine sn (rg (pu 1 [(34, Po y 1)] ((ld s 0) (pu 1 [(36, I b.2)] ((be c) fun bz X c => ?_)))))
   obtain ⟨cv, cw, cx, ah⟩ := W.formv (fun _ => ⟨_, rfl⟩) X
   refine (ix 43 5 X ah) ((lN (zj bz) (W.cellv s X ah)) ((be c) fun r1510 bc c => (fn) (vq bc (s.p []) fun cy au => ⟨_, rfl, have s := s.j [] [0, 1] au; pu 7 [(9, I r1510.1), (10, B r1510.2.1), (11, B r1510.2.2)] (nx (sq (sq ?_)))⟩)))
   refine ck (fun a z => Rep 89 [(1, I x), (2, Sl a8 (V).length c9), (3, Pt y), (7, Sl t (b.1).length u), (8, I b.2), (11, B r1510.2.2), (50, B (r1510.2.1 && ((w64 (b.2 + r1510.1)) == x)))] a /\ St w Z z [zs y 25 [Sl a2 (m.Ms).length c3, Sl a5 (m.Co).length c6], nI 126 jZ (Sl t (b.1).length u) q b.1 none]) ?_ fun a z ⟨d, s⟩ => go d ((be c) fun g f c => ?_)
   ·refine rn (pu 2 [(44, B r1510.2.1)] (sp 44 (fun Y => ?_) fun Y => ?_))
    ·refine pu 6 [(50, B ((w64 (b.2 + r1510.1)) == x))] (nl ?_)
     exact QW.say 50 (v := B (r1510.2.1 && ((w64 (b.2 + r1510.1)) == x))) rfl (by rw [Y]; try rfl) (me fun a d => ⟨d.ag, s.k [0, 1]⟩)
    refine pu 6 [(50, B false)] (nl ?_)
    exact QW.say 50 (v := B (r1510.2.1 && ((w64 (b.2 + r1510.1)) == x))) rfl (by rw [Y]; try rfl) (me fun a d => ⟨d.ag, s.k [0, 1]⟩)
   refine ck (fun a z => ∃ (af : Value) (C : List Nat), Rep 89 [(1, I x), (2, Sl a8 (V).length c9), (3, Pt y), (7, af), (8, I b.2), (11, B r1510.2.2)] a /\ St w Z z [zs y 25 [Sl a2 (m.Ms).length c3, Sl a5 (m.Co).length c6], nI 126 jZ af C g none]) ?_ fun a z ⟨af, C, d, s⟩ => go d ?_
   ·refine br f (fun f bd => ?_) fun f bd => ?_
    ·refine sq ?_
     refine CW.plan (by kernel_rfl) ?_
     intro cz av
     have s := s.same av
     refine OA.ldN (i := 0) (cs := [Sl a2 (m.Ms).length c3, Sl a5 (m.Co).length c6]) rfl (by kernel_rfl) rfl rfl rfl (by kernel_rfl) (by kernel_rfl) (s.blkN 0 rfl 0 2) ?_
     refine ap [1, 2, 3] [(53, I b.2), (54, Sl a8 (V).length c9), (55, I b.2)] ?_
     obtain ⟨c0, c1, c2, cj, bf, bg, bi⟩ := h2.formv l
     obtain ⟨c4, rfl, Q⟩ := bg
     have Q : Rd _ _ _ _ _ O := Q
     obtain ⟨c5, c7, c8, rfl⟩ := Q.len
     refine OA.idx (i := 4) 126 1 rfl (by kernel_rfl) rfl rfl rfl bf rfl (zh l).1 (zh l).2.1 (by kernel_rfl) (by kernel_rfl) ?_
     refine OA.ld (i := 5) rfl (by kernel_rfl) rfl rfl rfl (by kernel_rfl) (bi 0 _ rfl _ _ s) ?_
     refine (aa 6 []) ((be f) fun r1624 bj f => (fn) (zbP bj (s.p []) (ai.give s []) (W.give s []) (Q.give s []) fun da db aw => ⟨_, rfl, have s := s.j [] [0, 1] aw; ?_⟩))
     obtain ⟨dc, D, E, rfl⟩ := s.le 0
     refine OA.next trivial ?_
     refine ap [7, 8, 9] [(59, Sl D (r1624.1).length E), (60, B r1624.2)] ((aa 10 []) (pu 1 [(12, Sl D (r1624.1).length E)] ?_))
     refine OA.next trivial ?_
     refine (aa 11 []) (pu 1 [(13, B r1624.2)] ?_)
     refine OA.next trivial ?_
     refine aF (qn (rg (pu 1 [(61, B r1624.2)] (nx (br f (fun f bk => ?_) fun f bk => ?_)))))
     ·refine rn (pu 2 [(62, Sl t (b.1).length u), (63, Sl D (r1624.1).length E)] (have s := s.ti 0; ?_))
      refine OW.row (α := List Value) (e := 126) (enc := fit 1) (sz := 1) s rfl rfl rfl [[Sl D (r1624.1).length E]] rfl (fun _ => xT _ _) rfl rfl (fun _ => by kernel_rfl) ?_
      intro b0 dd s
      have s := s.bchOne (R := jZ) 0 rfl
      refine have s := s.k [1, 2, 0, 3]; ?_
      have s : St _ _ _ [_, _, zm4 jZ [[Sl D (r1624.1).length E]] _ [r1624.1], _] := s
      obtain ⟨b1, s⟩ := s.nOf 3 2 rfl rfl rfl rfl
      refine have s := s.k [0, 1, 3]; ?_
      have s : St _ _ _ [_, _, nI 126 jZ (.slice (some ⟨b0, 0, none⟩) 1 1) b1 ([r1624.1]) none] := s
      refine (be f) fun de bm f => ?_
      refine OW.appN s 1 2 rfl rfl rfl rfl rfl rfl rfl rfl rfl (by kernel_rfl) zlU (jR bm) (fun _ _ _ _ h => zge h) ?_
      intro df b2 dg s
      refine have s := s.k [0, 1]; ?_
      obtain ⟨dh, al, am, rfl⟩ := s.nq 1
      refine pu 1 [(7, Sl al ((b.1 ++ [r1624.1])).length am)] (nl ?_)
      obtain rfl := ij f
      exact me fun a d => ⟨(Sl al ((b.1 ++ [r1624.1])).length am), b2, d.ag, s.k [0, 1]⟩
     refine sk ?_
     obtain rfl := ij f
     exact me fun a d => ⟨(Sl t (b.1).length u), q, d.ag, s.k [1, 2]⟩
    refine sk ?_
    obtain rfl := ij f
    exact me fun a d => ⟨(Sl t (b.1).length u), q, d.ag, s.k [0, 1]⟩
   obtain ⟨di, F, G, rfl⟩ := s.nq 1
   refine sq ?_
   refine ck (fun a z => Rep 89 [(1, I x), (2, Sl a8 (V).length c9), (3, Pt y), (7, Sl F (g).length G), (8, I b.2), (72, B (r1510.2.2 && ((w64 (b.2 + 1)) == x)))] a /\ St w Z z [zs y 25 [Sl a2 (m.Ms).length c3, Sl a5 (m.Co).length c6], nI 126 jZ (Sl F (g).length G) C g none]) ?_ fun a z ⟨d, s⟩ => go d (br c (fun c bo => ?_) fun c bo => ?_)
   ·refine rn (pu 2 [(67, B r1510.2.2)] (sp 67 (fun ab => ?_) fun ab => ?_))
    ·refine pu 5 [(72, B ((w64 (b.2 + 1)) == x))] (nl ?_)
     exact QW.say 72 (v := B (r1510.2.2 && ((w64 (b.2 + 1)) == x))) rfl (by rw [ab]; try rfl) (me fun a d => ⟨d.ag, s.k [0, 1]⟩)
    refine pu 5 [(72, B false)] (nl ?_)
    exact QW.say 72 (v := B (r1510.2.2 && ((w64 (b.2 + 1)) == x))) rfl (by rw [ab]; try rfl) (me fun a d => ⟨d.ag, s.k [0, 1]⟩)
   ·refine sq ?_
    refine CW.plan (by kernel_rfl) ?_
    intro dj ax
    have s := s.same ax
    refine OA.ldN (i := 0) (cs := [Sl a2 (m.Ms).length c3, Sl a5 (m.Co).length c6]) rfl (by kernel_rfl) rfl rfl rfl (by kernel_rfl) (by kernel_rfl) (s.blkN 0 rfl 0 2) ?_
    refine ap [1, 2, 3] [(75, I b.2), (76, Sl a8 (V).length c9), (77, I b.2)] ?_
    obtain ⟨dk, dl, dm, cl, bp, bq, bs⟩ := h2.formv l
    obtain ⟨dn, rfl, T⟩ := bq
    have T : Rd _ _ _ _ _ O := T
    obtain ⟨dp, dq, dr, rfl⟩ := T.len
    refine OA.idx (i := 4) 126 1 rfl (by kernel_rfl) rfl rfl rfl bp rfl (zh l).1 (zh l).2.1 (by kernel_rfl) (by kernel_rfl) ?_
    refine OA.ld (i := 5) rfl (by kernel_rfl) rfl rfl rfl (by kernel_rfl) (bs 0 _ rfl _ _ s) ?_
    refine (aa 6 []) ((be c) fun r1699 bt c => (fn) (zbP bt (s.p []) (ai.give s []) (W.give s []) (T.give s []) fun ds dt ay => ⟨_, rfl, have s := s.j [] [0, 1] ay; ?_⟩))
    obtain ⟨du, H, J, rfl⟩ := s.le 0
    refine OA.next trivial ?_
    refine ap [7, 8, 9] [(81, Sl H (r1699.1).length J), (82, B r1699.2)] ((aa 10 []) (pu 1 [(14, Sl H (r1699.1).length J)] ?_))
    refine OA.next trivial ?_
    refine (aa 11 []) (pu 1 [(15, B r1699.2)] ?_)
    refine OA.next trivial ?_
    refine aF (qn (rg (pu 1 [(83, B r1699.2)] (nx (br c (fun c bu => ?_) fun c bu => ?_)))))
    ·refine rn (pu 2 [(84, Sl F (g).length G), (85, Sl H (r1699.1).length J)] (have s := s.ti 0; ?_))
     refine OW.row (α := List Value) (e := 126) (enc := fit 1) (sz := 1) s rfl rfl rfl [[Sl H (r1699.1).length J]] rfl (fun _ => xT _ _) rfl rfl (fun _ => by kernel_rfl) ?_
     intro b3 dv s
     have s := s.bchOne (R := jZ) 0 rfl
     refine have s := s.k [1, 2, 0, 3]; ?_
     have s : St _ _ _ [_, _, zm4 jZ [[Sl H (r1699.1).length J]] _ [r1699.1], _] := s
     obtain ⟨b4, s⟩ := s.nOf 3 2 rfl rfl rfl rfl
     refine have s := s.k [0, 1, 3]; ?_
     have s : St _ _ _ [_, _, nI 126 jZ (.slice (some ⟨b3, 0, none⟩) 1 1) b4 ([r1699.1]) none] := s
     refine (be c) fun dw bv c => ?_
     refine OW.appN s 1 2 rfl rfl rfl rfl rfl rfl rfl rfl rfl (by kernel_rfl) zlU (jR bv) (fun _ _ _ _ h => zge h) ?_
     intro dx b5 dy s
     refine have s := s.k [0, 1]; ?_
     obtain ⟨dz, an, ao, rfl⟩ := s.nq 1
     exact pu 1 [(7, Sl an ((g ++ [r1699.1])).length ao)] (nl (bn (qn (rn (pu 3 [(8, I (w64 (b.2 + 1)))] (nl (me fun a d => ⟨A, zls _, ((g ++ [r1699.1]), w64 (b.2 + 1)), (Sl an ((g ++ [r1699.1])).length ao), b5, d.ag, s.k [0, 1], c⟩)))))))
    exact sk (bn (qn (rn (pu 3 [(8, I (w64 (b.2 + 1)))] (nl (me fun a d => ⟨A, zls _, (g, w64 (b.2 + 1)), (Sl F (g).length G), C, d.ag, s.k [1, 2], c⟩))))))
   exact sk (bn (qn (rn (pu 3 [(8, I (w64 (b.2 + 1)))] (nl (me fun a d => ⟨A, zls _, (g, w64 (b.2 + 1)), (Sl F (g).length G), C, d.ag, s.k [0, 1], c⟩))))))
  refine ex (te (te (bh ?_)))
  obtain rfl := ij c
  exact me fun a d => ⟨(Sl t (b.1).length u), q, d.ag, s.k [1]⟩
 obtain ⟨d0, aq, ar, rfl⟩ := s.nq 0
 refine rg (pu 2 [(6, Sl aq (ac).length ar)] (nx (rt ?_)))
 obtain rfl := ij hF
 exact r1 (K (Sl aq (ac).length ar) ak _ (s.k [0]))
theorem zeW {w Z v0 h r R} (W : zaC h = some r) (s : St w Z w []) (x : Rd w Z v0 qo 2 h)
  (K : ∀ w', St w Z w' [] -> R (Rt (.tuple #[Ag [U r.1.Lo, U r.1.Hi], B r.2])) w') : Calls Tryz.prog 140 [v0].toArray w R := by
 refine sr 59 Tryz.func140 rfl ?_
 obtain ⟨l1, z, A, rfl⟩ := x.len
 refine rg ((al s [U 0, U 0]) fun C w7 s => pu 1 [] (nx (rg ((al s [U 0, U 0]) fun g a7 s => nx (sq (rg (pu 1 [(5, I 0)] (nx ((be W) fun O X W => ?_)))))))))
 refine ck (fun a o => ∃ (t263 : zd), O = .inl t263 /\ Rep 59 [(0, Sl z (h).length A), (2, Pt C), (4, Pt g)] a /\ St w Z o [zs C 154 [U 0, U 0], zs g 154 [U t263.Lo, U t263.Hi]]) ?_ ?_
 ·refine bl ?_
  refine CW.loop (fun n a o => ∃ (c : Nat) (e : zd), c + n = (h).length /\ Rep 59 [(0, Sl z (h).length A), (2, Pt C), (4, Pt g), (5, I (c : Int))] a /\ St w Z o [zs C 154 [U 0, U 0], zs g 154 [U e.Lo, U e.Hi]] /\ zQ (zM h) (fun (e : zd) => (.inl e)) n c e = some O) (h).length (fun a f => ⟨0, (zd.mk 0 0), Nat.zero_add _, f.ag, s.keep [0, 1] rfl, X⟩) ?_
  rintro t a o ⟨c, e, v, f, s, b⟩
  refine go f (sq (rg (pu 4 [(9, B (decide ((c : Int) < ((h).length : Int))))] (nx ?_))))
  rcases zft (decide ((c : Int) < ((h).length : Int))) with i | i
  ·rcases t with _ | t
   ·exact (zb0 v i).elim
   refine ct i (sn (sq (bl (sq (rg (pu 2 [(12, Sl z (h).length A), (13, I (c : Int))] ((be b) fun u d b => ?_)))))))
   obtain ⟨aq, ar, au, F⟩ := x.formv (fun _ => ⟨_, rfl⟩) d
   refine (ix 154 2 d F) ((lN (qo u) (x.cellv s d F)) ((be b) fun ad Y b => (fn) (qj Y (s.p []) fun av Q => ⟨_, rfl, have s := s.j [] [0, 1] Q; pu 1 [(17, B (!ad))] (nx (br b (fun b aa => ?_) fun b aa => ?_))⟩)))
   ·refine rg (pu 1 [(18, Ag [U 0, U 0])] ((st s 0 [U 0, U 0]) fun aw s => pu 1 [(3, B false)] (nx (rt (tr (bt (tr (tr (bt (tr ?_))))))))))
    obtain rfl := ij b
    obtain rfl := ij W
    exact QW.ret_ct rfl rfl (rl (cs := [U 0, U 0]) (s.blkN 0 rfl 0 2)) rfl (K _ (s.k []))
   refine sn (sq (sq ((be b) fun ae l b => ?_)))
   refine ck (fun a o => Rep 59 [(0, Sl z (h).length A), (2, Pt C), (4, Pt g), (5, I (c : Int)), (30, B ae)] a /\ St w Z o [zs C 154 [U 0, U 0], zs g 154 [U e.Lo, U e.Hi]]) ?_ fun a o ⟨f, s⟩ => go f ((be b) fun y q b => ?_)
   ·refine CW.still (by kernel_rfl) (by kernel_rfl) ?_
    intro ax T
    have s := s.same T
    refine op' 3 [(21, B ((c : Int) == 0))] ?_
    refine OS.split 21 rfl (fun D => ?_) (fun D => ?_)
    ·have l := zfr l D
     refine op' 9 [(30, B true)] ?_
     refine OS.fin rfl ?_
     obtain rfl := ij l
     exact me fun a f => ⟨f.ag, s.k [0, 1]⟩
    have l := zfs l D
    refine op' 2 [(22, Sl z (h).length A), (23, I (c : Int))] ?_
    obtain ⟨af, ah, ay, G⟩ := x.formv (fun _ => ⟨_, rfl⟩) d
    refine OS.idx 154 2 rfl rfl rfl rfl rfl G rfl (zh d).1 (zh d).2.1 (by kernel_rfl) (by kernel_rfl) ?_
    refine op' 1 [(25, .pointer (some ⟨af, ah + Int.toNat (c : Int) * 2, none⟩))] ?_
    refine OS.ld rfl rfl rfl rfl rfl (by kernel_rfl) (x.cellv s d G 0 _ rfl) ?_
    refine op' 1 [(27, Pt g)] ((od s 1) (op' 2 [(30, B (decide (u.Lo < e.Lo)))] ?_))
    refine OS.fin rfl ?_
    obtain rfl := ij l
    exact me fun a f => ⟨f.ag, s.k [0, 1]⟩
   refine ck (fun a o => Rep 59 [(0, Sl z (h).length A), (2, Pt C), (4, Pt g), (5, I (c : Int))] a /\ St w Z o [zs C 154 [U 0, U 0], zs g 154 [U y, U e.Hi]]) ?_ fun a o ⟨f, s⟩ => go f (sq ((be b) fun ai m b => ?_))
   ·refine br q (fun q ab => ?_) fun q ab => ?_
    ·refine rn (pu 2 [(31, Sl z (h).length A), (32, I (c : Int))] ?_)
     obtain ⟨aj, ak, az, H⟩ := x.formv (fun _ => ⟨_, rfl⟩) d
     refine (ix 154 2 d H) (pu 1 [(34, .pointer (some ⟨aj, ak + Int.toNat (c : Int) * 2, none⟩))] ?_)
     refine OW.ld rfl rfl rfl rfl (by kernel_rfl) (x.cellv s d H 0 _ rfl) ?_
     refine pu 1 [(36, Pt g)] ((st s 1 [U u.Lo, U e.Hi]) fun a0 s => nl ?_)
     obtain rfl := ij q
     exact me fun a f => ⟨f.ag, s.k [0, 1]⟩
    refine sk ?_
    obtain rfl := ij q
    exact me fun a f => ⟨f.ag, s.k [0, 1]⟩
   refine ck (fun a o => Rep 59 [(0, Sl z (h).length A), (2, Pt C), (4, Pt g), (5, I (c : Int)), (48, B ai)] a /\ St w Z o [zs C 154 [U 0, U 0], zs g 154 [U y, U e.Hi]]) ?_ fun a o ⟨f, s⟩ => go f (br b (fun b ac => ?_) fun b ac => ?_)
   ·refine CW.still (by kernel_rfl) (by kernel_rfl) ?_
    intro a1 V
    have s := s.same V
    refine op' 3 [(39, B ((c : Int) == 0))] ?_
    refine OS.split 39 rfl (fun E => ?_) (fun E => ?_)
    ·have m := zfr m E
     refine op' 9 [(48, B true)] ?_
     refine OS.fin rfl ?_
     obtain rfl := ij m
     exact me fun a f => ⟨f.ag, s.k [0, 1]⟩
    have m := zfs m E
    refine op' 2 [(40, Sl z (h).length A), (41, I (c : Int))] ?_
    obtain ⟨am, an, a3, J⟩ := x.formv (fun _ => ⟨_, rfl⟩) d
    refine OS.idx 154 2 rfl rfl rfl rfl rfl J rfl (zh d).1 (zh d).2.1 (by kernel_rfl) (by kernel_rfl) ?_
    refine op' 1 [(43, .pointer (some ⟨am, an + Int.toNat (c : Int) * 2 + 1, none⟩))] ?_
    refine OS.ld rfl rfl rfl rfl rfl (by kernel_rfl) (x.cellv s d J 1 _ rfl) ?_
    refine op' 1 [(45, Po g 1)] ((od s 1) (op' 2 [(48, B (decide (u.Hi > e.Hi)))] ?_))
    refine OS.fin rfl ?_
    obtain rfl := ij m
    exact me fun a f => ⟨f.ag, s.k [0, 1]⟩
   ·refine rn (pu 2 [(49, Sl z (h).length A), (50, I (c : Int))] ?_)
    obtain ⟨ao, ap, a4, M⟩ := x.formv (fun _ => ⟨_, rfl⟩) d
    refine (ix 154 2 d M) (pu 1 [(52, .pointer (some ⟨ao, ap + Int.toNat (c : Int) * 2 + 1, none⟩))] ?_)
    refine OW.ld rfl rfl rfl rfl (by kernel_rfl) (x.cellv s d M 1 _ rfl) ?_
    refine pu 1 [(54, Po g 1)] ((st s 1 [U y, U u.Hi]) fun a5 s => nl (bn (qn (rn (pu 3 [(5, I (w64 ((c : Int) + 1)))] (nl ?_))))))
    refine QW.say 5 rfl (congrArg (Value.int .i64) (zq i l1)) ?_
    exact me fun a f => ⟨t, zls _, c + 1, (zd.mk y u.Hi), zm v, f.ag, s.k [0, 1], b⟩
   refine sk (bn (qn (rn (pu 3 [(5, I (w64 ((c : Int) + 1)))] (nl ?_)))))
   refine QW.say 5 rfl (congrArg (Value.int .i64) (zq i l1)) ?_
   exact me fun a f => ⟨t, zls _, c + 1, (zd.mk y e.Hi), zm v, f.ag, s.k [0, 1], b⟩
  rcases t with _ | t
  ·refine cf i (ex (te (te (bh ?_))))
   obtain rfl := ij b
   exact me fun a f => ⟨e, rfl, f.ag, s.k [0, 1]⟩
  exact (zb1 v i).elim
 rintro a o ⟨t263, rfl, f, s⟩
 refine go f (rg ((lN [U t263.Lo, U t263.Hi] (s.blkN 1 rfl 0 2)) (pu 3 [(58, B (decide (((h).length : Int) > 0)))] ((st s 0 [U t263.Lo, U t263.Hi]) fun a6 s => pu 1 [(3, B (decide (((h).length : Int) > 0)))] (nx (rt ?_))))))
 obtain rfl := ij W
 exact QW.ret_ct rfl rfl (rl (cs := [U t263.Lo, U t263.Hi]) (s.blkN 0 rfl 0 2)) rfl (K _ (s.k []))
theorem zdS {w Z v0 l r R} (v : vC l = some r) (s : St w Z w []) (m : Rd w Z v0 zb 4 l)
  (K : ∀ w', St w Z w' [] -> R (Rt (Ag [I r.Ki, U r.Sp.Lo, U r.Sp.Hi, I r.Map])) w') : Calls Tryz.prog 92 [v0].toArray w R := by
 refine sr 70 Tryz.func92 rfl ?_
 obtain ⟨l1, y, z, rfl⟩ := m.len
 refine rg ((al s [I 0, U 0, U 0, I 0]) fun b6 w7 s => nx (rg (pu 1 [(3, Sn)] (nx (sq (rg (pu 1 [(4, I 0)] (nx ((be v) fun ae ao v => ?_)))))))))
 refine ck (fun a M => ∃ (t342 : (List zd)) (O : Value), ae = .inl t342 /\ Rep 70 [(0, Sl y (l).length z), (2, Pt b6), (3, O)] a /\ St w Z M [zs b6 156 [I 0, U 0, U 0, I 0], qH O 154 qo 2 t342]) ?_ ?_
 ·refine bl ?_
  have s := s.nilRow zd 154 qo 2
  refine CW.loop (fun n a M => ∃ (c : Nat) (g : (List zd)) (Q : Value), c + n = (l).length /\ Rep 70 [(0, Sl y (l).length z), (2, Pt b6), (3, Q), (4, I (c : Int))] a /\ St w Z M [zs b6 156 [I 0, U 0, U 0, I 0], qH Q 154 qo 2 g] /\ zQ (qq l) (fun (g : (List zd)) => (.inl g)) n c g = some ae) (l).length (fun a o => ⟨0, ([] : List zd), (Sn), Nat.zero_add _, o.ag, s.keep [0, 1] rfl, ao⟩) ?_
  rintro A a M ⟨c, g, Q, D, o, s, d⟩
  refine go o ?_
  obtain ⟨bf, E, F, rfl⟩ := s.le 1
  refine sq (rg (pu 4 [(10, B (decide ((c : Int) < ((l).length : Int))))] (nx ?_)))
  rcases zft (decide ((c : Int) < ((l).length : Int))) with t | t
  ·rcases A with _ | A
   ·exact (zb0 D t).elim
   refine ct t (sn (sq (bl (sq (sq ((be d) fun aw b d => ?_))))))
   refine ck (fun a M => Rep 70 [(0, Sl y (l).length z), (2, Pt b6), (3, Sl E (g).length F), (4, I (c : Int)), (42, B aw)] a /\ St w Z M [zs b6 156 [I 0, U 0, U 0, I 0], qH (Sl E (g).length F) 154 qo 2 g]) ?_ fun a M ⟨o, s⟩ => go o (br d (fun d ap => ?_) fun d ap => ?_)
   ·refine CW.still (by kernel_rfl) (by kernel_rfl) ?_
    intro bg af
    have s := s.same af
    refine op' 2 [(13, Sl y (l).length z), (14, I (c : Int))] ((be b) fun T f b => ?_)
    obtain ⟨ax, ay, bi, V⟩ := m.formv (fun _ => ⟨_, rfl⟩) f
    refine OS.idx 156 4 rfl rfl rfl rfl rfl V rfl (zh f).1 (zh f).2.1 (by kernel_rfl) (by kernel_rfl) ?_
    refine op' 1 [(16, .pointer (some ⟨ax, ay + Int.toNat (c : Int) * 4, none⟩))] ?_
    refine OS.ld rfl rfl rfl rfl rfl (by kernel_rfl) (m.cellv s f V 0 _ rfl) ?_
    refine op' 1 [(18, Sl y (l).length z)] ((be b) fun ah h b => ?_)
    obtain ⟨az, a0, bj, W⟩ := m.formv (fun _ => ⟨_, rfl⟩) h
    refine OS.idx 156 4 rfl rfl rfl rfl rfl W rfl (zh h).1 (zh h).2.1 (by kernel_rfl) (by kernel_rfl) ?_
    refine op' 1 [(20, .pointer (some ⟨az, a0 + Int.toNat 0 * 4, none⟩))] ?_
    refine OS.ld rfl rfl rfl rfl rfl (by kernel_rfl) (m.cellv s h W 0 _ rfl) ?_
    refine op' 2 [(23, B (T.Ki != ah.Ki))] ?_
    refine OS.split 23 rfl (fun G => ?_) (fun G => ?_)
    ·have b := zfr b G
     refine op' 19 [(42, B true)] ?_
     refine OS.fin rfl ?_
     obtain rfl := ij b
     exact me fun a o => ⟨o.ag, s.k [0, 1]⟩
    have b := zfs b G
    refine op' 2 [(24, Sl y (l).length z), (25, I (c : Int))] ?_
    obtain ⟨a1, a3, bk, X⟩ := m.formv (fun _ => ⟨_, rfl⟩) f
    refine OS.idx 156 4 rfl rfl rfl rfl rfl X rfl (zh f).1 (zh f).2.1 (by kernel_rfl) (by kernel_rfl) ?_
    refine op' 1 [(27, .pointer (some ⟨a1, a3 + Int.toNat (c : Int) * 4, none⟩))] ?_
    refine OS.ld rfl rfl rfl rfl rfl (by kernel_rfl) (m.cellv s f X 0 _ rfl) ?_
    refine op' 2 [(30, B (T.Ki == 2))] ?_
    refine OS.split 30 rfl (fun H => ?_) (fun H => ?_)
    ·have b := zfr b H
     refine op' 2 [(31, Sl y (l).length z), (32, I (c : Int))] ?_
     obtain ⟨a4, a5, bm, Y⟩ := m.formv (fun _ => ⟨_, rfl⟩) f
     refine OS.idx 156 4 rfl rfl rfl rfl rfl Y rfl (zh f).1 (zh f).2.1 (by kernel_rfl) (by kernel_rfl) ?_
     refine op' 1 [(34, .pointer (some ⟨a4, a5 + Int.toNat (c : Int) * 4 + 3, none⟩))] ?_
     refine OS.ld rfl rfl rfl rfl rfl (by kernel_rfl) (m.cellv s f Y 3 _ rfl) ?_
     refine op' 1 [(36, Sl y (l).length z)] ?_
     obtain ⟨a6, a7, bo, aa⟩ := m.formv (fun _ => ⟨_, rfl⟩) h
     refine OS.idx 156 4 rfl rfl rfl rfl rfl aa rfl (zh h).1 (zh h).2.1 (by kernel_rfl) (by kernel_rfl) ?_
     refine op' 1 [(38, .pointer (some ⟨a6, a7 + Int.toNat 0 * 4 + 3, none⟩))] ?_
     refine OS.ld rfl rfl rfl rfl rfl (by kernel_rfl) (m.cellv s h aa 3 _ rfl) ?_
     refine op' 3 [(42, B (T.Map != ah.Map))] ?_
     refine OS.fin rfl ?_
     obtain rfl := ij b
     exact me fun a o => ⟨o.ag, s.k [0, 1]⟩
    have b := zfs b H
    refine op' 12 [(42, B false)] ?_
    refine OS.fin rfl ?_
    obtain rfl := ij b
    exact me fun a o => ⟨o.ag, s.k [0, 1]⟩
   ·refine rg (pu 1 [(43, Ag [I 0, U 0, U 0, I 0])] ((st s 0 [I 0, U 0, U 0, I 0]) fun w643 s => nx (rt (tr (bt (tr (tr (bt (tr ?_)))))))))
    obtain rfl := ij d
    obtain rfl := ij v
    exact QW.ret_c rfl rfl (rl (cs := [I 0, U 0, U 0, I 0]) (s.blkN 0 rfl 0 4)) (K _ (s.k []))
   refine sn (rn (pu 3 [(44, Sl E (g).length F), (45, Sl y (l).length z), (46, I (c : Int))] ((be d) fun x J d => ?_)))
   obtain ⟨a8, a9, bp, ab⟩ := m.formv (fun _ => ⟨_, rfl⟩) J
   refine (ix 156 4 J ab) (pu 1 [(48, .pointer (some ⟨a8, a9 + Int.toNat (c : Int) * 4 + 1, none⟩))] ((lN [U x.Sp.Lo, U x.Sp.Hi] (elN (m.cellv s J ab) 1 2)) ?_))
   refine OW.row (α := zd) (e := 154) (enc := qo) (sz := 2) s rfl rfl rfl [x.Sp] rfl (fun _ => rfl) rfl rfl (fun _ => by kernel_rfl) ?_
   intro bq bs s
   refine (be d) fun bu aq d => ?_
   refine OW.app s 1 rfl (fun _ => rfl) (fun _ => rfl) rfl rfl rfl rfl rfl rfl (by kernel_rfl) zn0 (s.rd 2 rfl (fun _ => rfl) [] rfl (s.len 2 rfl).1) (jR aq) ?_
   intro bv bw s
   obtain ⟨bx, ai, aj, rfl⟩ := s.le 1
   refine pu 1 [(3, Sl ai ((g ++ [x.Sp])).length aj)] (nl (bn (qn (rn (pu 3 [(4, I (w64 ((c : Int) + 1)))] (nl ?_))))))
   refine QW.say 4 rfl (congrArg (Value.int .i64) (zq t l1)) ?_
   exact me fun a o => ⟨A, zls _, c + 1, (g ++ [x.Sp]), (Sl ai ((g ++ [x.Sp])).length aj), zm D, o.ag, s.k [0, 1], d⟩
  rcases A with _ | A
  ·refine cf t (ex (te (te (bh ?_))))
   obtain rfl := ij d
   exact me fun a o => ⟨g, (Sl E (g).length F), rfl, o.ag, s.k [0, 1]⟩
  exact (zb1 D t).elim
 rintro a M ⟨t342, O, rfl, o, s⟩
 refine go o ?_
 obtain ⟨bz, ba, bb, rfl⟩ := s.le 1
 refine sq (rg (pu 1 [(52, Sl y (l).length z)] ((be v) fun i u v => ?_)))
 obtain ⟨bc, bd, b0, ac⟩ := m.formv (fun _ => ⟨_, rfl⟩) u
 refine (ix 156 4 u ac) (pu 1 [(54, .pointer (some ⟨bc, bd + Int.toNat 0 * 4, none⟩))] ?_)
 refine OW.ld rfl rfl rfl rfl (by kernel_rfl) (m.cellv s u ac 0 _ rfl) ?_
 refine pu 1 [(56, B (i.Ki == 1))] (nx (br v (fun v ar => ?_) fun v ar => ?_))
 ·refine rg (pu 1 [(58, Sl ba (t342).length bb)] ((be v) fun C au v => (fn) (zeW au (s.p []) (s.rd 1 rfl (fun _ => rfl) [] rfl (s.len 1 rfl).1) fun b1 ak => ⟨_, rfl, have s := s.j [] [0, 1] ak; pu 3 [(60, Ag [U C.1.Lo, U C.1.Hi]), (61, B C.2)] ((al s [U 0, U 0]) fun am b2 s => (st s 2 [U C.1.Lo, U C.1.Hi]) fun b3 s => pu 1 [] (nx (rg (pu 1 [(62, Pt am)] ((ld s 2) (pu 1 [(64, Po am 1)] ((ld s 2) ((be v) fun q av v => (fn) (xR av (s.p []) fun b4 an => ⟨_, rfl, have s := s.j [] [0, 1, 2] an; (st s 0 [I q.Ki, U q.Sp.Lo, U q.Sp.Hi, I q.Map]) fun b5 s => nx (rt (tr ?_))⟩)))))))))⟩)))
  obtain rfl := ij v
  exact QW.ret_c rfl rfl (rl (cs := [I q.Ki, U q.Sp.Lo, U q.Sp.Hi, I q.Map]) (s.blkN 0 rfl 0 4)) (K _ (s.k []))
 refine sn (rg (pu 1 [(67, Sl y (l).length z)] ?_))
 obtain ⟨b7, b8, b9, ad⟩ := m.formv (fun _ => ⟨_, rfl⟩) u
 refine (ix 156 4 u ad) ((lN (zb i) (m.cellv s u ad)) ((st s 0 [I i.Ki, U i.Sp.Lo, U i.Sp.Hi, I i.Map]) fun ca s => nx (rt ?_)))
 obtain rfl := ij v
 exact QW.ret_c rfl rfl (rl (cs := [I i.Ki, U i.Sp.Lo, U i.Sp.Hi, I i.Map]) (s.blkN 0 rfl 0 4)) (K _ (s.k []))
theorem zdT {w Z s r R} (c : vD s = some r) (b : St w Z w [])
  (K : ∀ w', St w Z w' [] -> R (Rt (.tuple #[I r.1, B r.2])) w') : Calls Tryz.prog 93 [Ag [I s.Op, I s.D, I s.A, I s.B, I s.Imm]].toArray w R := by
 refine sr 26 Tryz.func93 rfl (rg ((bx b [I s.Op, I s.D, I s.A, I s.B, I s.Imm]) fun g t b => pu 2 [] (nx (rg (pu 1 [(5, Pt g)] ((ld b 0) (pu 1 [(4, I s.Op)] (nx (sq (bl (rg ((lN [I s.Op, I s.D, I s.A, I s.B, I s.Imm] (b.blkN 0 rfl 0 5)) ((be c) fun o i c => (fn) (vb i (b.p []) fun q h => ⟨_, rfl, have b := b.j [] [0] h; pu 2 [(7, B (!o))] (nx (br c (fun c l => ?_) fun c l => ?_))⟩))))))))))))))
 ·refine rg (pu 2 [(2, I 0), (3, B false)] (nx (rt (bt (tr ?_)))))
  obtain rfl := ij c
  exact r2 (K _ (b.k []))
 refine sq ?_
 refine ck (fun a n => Rep 26 [(1, Pt g), (4, I s.Op), (11, B ((decide (s.Op <= 11) || (s.Op == 13)) || (s.Op == 14)))] a /\ St w Z n [zs g 43 [I s.Op, I s.D, I s.A, I s.B, I s.Imm]]) ?_ fun a n ⟨e, b⟩ => go e (br c (fun c m => ?_) fun c m => ?_)
 ·refine rn (pu 3 [(14, B (decide (s.Op <= 11)))] (sp 14 (fun d => ?_) fun d => ?_))
  ·refine pu 8 [(11, B true)] (nl ?_)
   exact QW.say 11 (v := B ((decide (s.Op <= 11) || (s.Op == 13)) || (s.Op == 14))) rfl (by rw [d]; try rfl) (me fun a e => ⟨e.ag, b.k [0]⟩)
  refine pu 4 [(18, B (s.Op == 13))] (sp 18 (fun f => ?_) fun f => ?_)
  ·refine pu 4 [(11, B true)] (nl ?_)
   exact QW.say 11 (v := B ((decide (s.Op <= 11) || (s.Op == 13)) || (s.Op == 14))) rfl (by rw [d, f]; try rfl) (me fun a e => ⟨e.ag, b.k [0]⟩)
  refine pu 4 [(11, B (s.Op == 14))] (nl ?_)
  exact QW.say 11 (v := B ((decide (s.Op <= 11) || (s.Op == 13)) || (s.Op == 14))) rfl (by rw [d, f]; try rfl) (me fun a e => ⟨e.ag, b.k [0]⟩)
 ·refine rg (pu 1 [(22, Po g 1)] ((ld b 0) (pu 2 [(2, I s.D), (3, B true)] (nx (rt (bt (tr ?_)))))))
  obtain rfl := ij c
  exact r2 (K _ (b.k []))
 refine sk (bn (qn (rg (pu 4 [(2, I 0), (3, B (s.Op == 21))] (nx (rt ?_))))))
 obtain rfl := ij c
 exact r2 (K _ (b.k []))
theorem zfT {w Z fu bs bt o Q v2 p2 r R} (hF : zbw fu o Q p2 = some r) (s : St w Z w []) (bu : Rd w Z bs (zx .i64) 1 o.Ms) (T : Rd w Z bt zj 5 o.Co) (h2 : RdN w Z v2 jZ.rd 1 p2)
  (K : ∀ (x0 : Value) w', St w Z w' [qH x0 156 zb 4 r] -> R (Rt (x0)) w') : Calls Tryz.prog 55 [Ag [bs, bt], I Q, v2].toArray w R := by
 refine sr 117 Tryz.func55 rfl ?_
 obtain ⟨l1, a2, c3, rfl⟩ := bu.len
 obtain ⟨l4, a5, c6, rfl⟩ := T.len
 obtain ⟨l7, a8, c9, rfl⟩ := h2.len
 refine rg ((bx s [Sl a2 (o.Ms).length c3, Sl a5 (o.Co).length c6]) fun i eh s => pu 1 [] (nx (rg ((lN [Sl a2 (o.Ms).length c3, Sl a5 (o.Co).length c6] (s.blkN 0 rfl 0 2)) (pu 2 [(17, I Q), (18, Sl a8 (p2).length c9)] ((be hF) fun r22 cy hF => (fn) (zeq cy (s.p []) (bu.give s []) (T.give s []) (h2.give (R := jZ) (by decide) s []) fun ei cz ej cc => ⟨_, rfl, have s := s.j [] [0] cc; ?_⟩)))))))
 obtain ⟨c2, ac, ad, rfl⟩ := s.nq 0
 refine pu 1 [(7, Sl ac (r22).length ad)] (nx (sq (rg (pu 3 [(22, B (((r22).length : Int) == 0))] (nx (br hF (fun hF c0 => ?_) fun hF c0 => ?_))))))
 ·refine rg (pu 1 [(6, Sn)] (nx (rt (tr ?_))))
  have s := s.nilRow za 156 zb 4
  obtain rfl := ij hF
  exact r1 (K (Sn) _ (s.k [2]))
 refine sn (rg ((be hF) fun b c1 hF => ?_))
 refine OW.make (enc := zb) (sz := 4) s rfl rfl rfl rfl rfl (by kernel_rfl) zi8 (za.mk 0 (zd.mk 0 0) 0) (by kernel_rfl) (fun _ => rfl) c1 ?_
 intro g ek s
 refine pu 1 [(8, .slice (some ⟨g, 0, none⟩) b b)] (nx (sq (rg (pu 1 [(9, I 0)] (nx ((be hF) fun aq bv hF => ?_))))))
 refine ck (fun a q => Rep 117 [(1, I Q), (3, Pt i), (8, .slice (some ⟨g, 0, none⟩) b b)] a /\ St w Z q [zs i 25 [Sl a2 (o.Ms).length c3, Sl a5 (o.Co).length c6], qH (.slice (some ⟨g, 0, none⟩) b b) 156 zb 4 aq]) ?_ fun a q ⟨d, s⟩ => go d (sq (rg (pu 1 [(12, I 0)] (nx ((be hF) fun bd bw hF => ?_)))))
 ·refine bl ?_
  refine CW.loop (fun n a q => ∃ (l : Nat) (G : (List za)) (ar : List Nat), l + n = 8 /\ Rep 117 [(1, I Q), (3, Pt i), (7, Sl ac (r22).length ad), (8, .slice (some ⟨g, 0, none⟩) b b), (9, I (l : Int))] a /\ St w Z q [zs i 25 [Sl a2 (o.Ms).length c3, Sl a5 (o.Co).length c6], nI 126 jZ (Sl ac (r22).length ad) ar r22 none, qH (.slice (some ⟨g, 0, none⟩) b b) 156 zb 4 G] /\ zQ (jO r22) (fun (G : (List za)) => G) n l G = some aq) 8 (fun a d => ⟨0, (List.replicate b (za.mk 0 (zd.mk 0 0) 0)), cz, Nat.zero_add _, d.ag, s.keep [1, 0, 2] rfl, bv⟩) ?_
  rintro W a q ⟨l, G, ar, ah, d, s, x⟩
  refine go d (sq (rg (pu 2 [(25, B (decide ((l : Int) < 8)))] (nx ?_))))
  rcases zft (decide ((l : Int) < 8)) with J | J
  ·rcases W with _ | W
   ·exact (zb0 ah J).elim
   refine ct J (sn (sq (bl (rg (pu 1 [(10, Sn)] (nx (sq (rg (pu 1 [(11, I 0)] (nx ((be x) fun au bz x => ?_)))))))))))
   refine ck (fun a q => ∃ (av : List Nat) (aw : Value), Rep 117 [(1, I Q), (3, Pt i), (7, Sl ac (r22).length ad), (8, .slice (some ⟨g, 0, none⟩) b b), (9, I (l : Int)), (10, aw)] a /\ St w Z q [zs i 25 [Sl a2 (o.Ms).length c3, Sl a5 (o.Co).length c6], nI 126 jZ (Sl ac (r22).length ad) av r22 none, qH (.slice (some ⟨g, 0, none⟩) b b) 156 zb 4 G, qH aw 156 zb 4 au]) ?_ fun a q ⟨av, aw, d, s⟩ => go d ?_
   ·refine bl ?_
    have s := s.nilRow za 156 zb 4
    refine CW.loop (fun n a q => ∃ (z : Nat) (v : (List za)) (ax : List Nat) (ay : Value), z + n = (r22).length /\ Rep 117 [(1, I Q), (3, Pt i), (7, Sl ac (r22).length ad), (8, .slice (some ⟨g, 0, none⟩) b b), (9, I (l : Int)), (10, ay), (11, I (z : Int))] a /\ St w Z q [zs i 25 [Sl a2 (o.Ms).length c3, Sl a5 (o.Co).length c6], nI 126 jZ (Sl ac (r22).length ad) ax r22 none, qH (.slice (some ⟨g, 0, none⟩) b b) 156 zb 4 G, qH ay 156 zb 4 v] /\ zQ (jN r22 l) (fun (v : (List za)) => v) n z v = some au) (r22).length (fun a d => ⟨0, ([] : List za), ar, (Sn), Nat.zero_add _, d.ag, s.keep [0, 1, 2, 3] rfl, bz⟩) ?_
    rintro X a q ⟨z, v, ax, ay, ai, d, s, y⟩
    refine go d ?_
    obtain ⟨c4, bf, bg, rfl⟩ := s.le 3
    refine sq (rg (pu 4 [(31, B (decide ((z : Int) < ((r22).length : Int))))] (nx ?_)))
    rcases zft (decide ((z : Int) < ((r22).length : Int))) with M | M
    ·rcases X with _ | X
     ·exact (zb0 ai M).elim
     refine ct M (sn (sq (bl (rn (pu 3 [(34, Sl bf (v).length bg), (35, Sl ac (r22).length ad), (36, I (z : Int))] ((be y) fun c5 Y y => ?_))))))
     obtain ⟨c7, c8, da, a0⟩ := s.nrowv 1 rfl Y
     refine (ix 126 1 Y a0) ?_
     obtain ⟨db, dc, dd, bm, s⟩ := s.nout1 1 rfl rfl Y a0
     refine have s := s.t1 4; ?_
     obtain ⟨de, df, dg, rfl⟩ := s.le 4
     refine OW.ld rfl rfl rfl rfl (by kernel_rfl) bm ?_
     refine pu 1 [(39, I (l : Int))] ((be y) fun aa aj y => ?_)
     obtain ⟨dh, di, dj, a1⟩ := s.rowv 4 rfl aj
     refine (ix 156 4 aj a1) ((lN (zb aa) (s.rowc 4 rfl (fun _ => rfl) aj a1)) ?_)
     refine OW.row (α := za) (e := 156) (enc := zb) (sz := 4) s rfl rfl rfl [aa] rfl (fun _ => rfl) rfl rfl (fun _ => by kernel_rfl) ?_
     intro dk dl s
     refine (be y) fun dm b0 y => ?_
     refine OW.app s 3 rfl (fun _ => rfl) (fun _ => rfl) rfl rfl rfl rfl rfl rfl (by kernel_rfl) zi8 (s.rd 5 rfl (fun _ => rfl) [] rfl (s.len 5 rfl).1) (jR b0) ?_
     intro dn dp s
     obtain ⟨dq, bi, bj, rfl⟩ := s.le 3
     refine pu 1 [(10, Sl bi ((v ++ [aa])).length bj)] (nl (bn (qn (rn (pu 3 [(11, I (w64 ((z : Int) + 1)))] (nl (have s := s.ti 4; ?_)))))))
     obtain ⟨cd, s⟩ := s.nback0 1 4 rfl rfl rfl Y
     refine have s := s.k [0, 1, 2, 3, 5]; ?_
     refine QW.say 11 rfl (congrArg (Value.int .i64) (zq M c2)) ?_
     exact me fun a d => ⟨X, zls _, z + 1, (v ++ [aa]), cd, (Sl bi ((v ++ [aa])).length bj), zm ai, d.ag, s.k [0, 1, 2, 3], y⟩
    rcases X with _ | X
    ·refine cf M (ex (te (te (bh ?_))))
     obtain rfl := ij y
     exact me fun a d => ⟨ax, (Sl bf (v).length bg), d.ag, s.k [0, 1, 2, 3]⟩
    exact (zb1 ai M).elim
   obtain ⟨dr, ce, cg, rfl⟩ := s.le 3
   refine rn (pu 3 [(44, .slice (some ⟨g, 0, none⟩) b b), (45, I (l : Int)), (46, Sl ce (au).length cg)] ((be x) fun r2590 b1 x => (fn) (zdS b1 (s.p []) (s.rd 3 rfl (fun _ => rfl) [] rfl (s.len 3 rfl).1) fun ds bo => ⟨_, rfl, have s := s.j [] [0, 1, 2, 3] bo; (be x) fun dt ak x => ?_⟩)))
   obtain ⟨du, dv, dw, a3⟩ := s.rowv 2 rfl ak
   refine (ix 156 4 ak a3) ?_
   refine OW.stR s 2 rfl a3 (fun _ => rfl) rfl rfl ak 0 rfl rfl rfl (by kernel_rfl) rfl rfl r2590 rfl ?_
   intro dx s
   refine nl (bn (qn (rn (pu 3 [(9, I (w64 ((l : Int) + 1)))] (nl ?_)))))
   refine QW.say 9 rfl (congrArg (Value.int .i64) (zq J (by decide))) ?_
   exact me fun a d => ⟨W, zls _, l + 1, (G.set (Int.toNat (l : Int)) r2590), av, zm ah, d.ag, s.k [0, 1, 2], x⟩
  rcases W with _ | W
  ·refine cf J (ex (te (te (bh ?_))))
   obtain rfl := ij x
   exact me fun a d => ⟨d.ag, s.k [0, 2]⟩
  exact (zb1 ah J).elim
 refine ck (fun a q => Rep 117 [(8, .slice (some ⟨g, 0, none⟩) b b)] a /\ St w Z q [qH (.slice (some ⟨g, 0, none⟩) b b) 156 zb 4 bd]) ?_ fun a q ⟨d, s⟩ => go d (rg (pu 2 [(6, .slice (some ⟨g, 0, none⟩) b b)] (nx (rt ?_))))
 ·refine bl ?_
  refine CW.loop (fun n a q => ∃ (f : Nat) (H : (List za)), f + n = (o.Co).length /\ Rep 117 [(1, I Q), (3, Pt i), (8, .slice (some ⟨g, 0, none⟩) b b), (12, I (f : Int))] a /\ St w Z q [zs i 25 [Sl a2 (o.Ms).length c3, Sl a5 (o.Co).length c6], qH (.slice (some ⟨g, 0, none⟩) b b) 156 zb 4 H] /\ zQ (jP fu o Q) (fun (H : (List za)) => H) n f H = some bd) (o.Co).length (fun a d => ⟨0, aq, Nat.zero_add _, d.ag, s.keep [0, 1] rfl, bw⟩) ?_
  rintro V a q ⟨f, H, ab, d, s, t⟩
  refine go d (sq (rg (pu 2 [(49, I (f : Int)), (50, Po i 1)] ((ld s 0) (pu 2 [(53, B (decide ((f : Int) < ((o.Co).length : Int))))] (nx ?_))))))
  rcases zft (decide ((f : Int) < ((o.Co).length : Int))) with A | A
  ·rcases V with _ | V
   ·exact (zb0 ab A).elim
   refine ct A (sn (sq (bl (sq (sq ((be t) fun ch C t => ?_))))))
   refine ck (fun a q => Rep 117 [(1, I Q), (3, Pt i), (8, .slice (some ⟨g, 0, none⟩) b b), (12, I (f : Int)), (74, B ch)] a /\ St w Z q [zs i 25 [Sl a2 (o.Ms).length c3, Sl a5 (o.Co).length c6], qH (.slice (some ⟨g, 0, none⟩) b b) 156 zb 4 H]) ?_ fun a q ⟨d, s⟩ => go d (br t (fun t b2 => ?_) fun t b2 => ?_)
   ·refine rn (pu 1 [(56, Po i 1)] ((ld s 0) (pu 1 [(58, I (f : Int))] ((be C) fun bk O C => ?_))))
    obtain ⟨ci, cj, dy, a4⟩ := T.formv (fun _ => ⟨_, rfl⟩) O
    refine (ix 43 5 O a4) (pu 1 [(60, .pointer (some ⟨ci, cj + Int.toNat (f : Int) * 5, none⟩))] ?_)
    refine OW.ld rfl rfl rfl rfl (by kernel_rfl) (T.cellv s O a4 0 _ rfl) ?_
    refine pu 2 [(63, B (bk.Op != 20))] (si 63 C (fun C b3 => ?_) fun C b3 => ?_)
    ·refine pu 11 [(74, B true)] (nl ?_)
     obtain rfl := ij C
     exact me fun a d => ⟨d.ag, s.k [0, 1]⟩
    refine pu 2 [(64, I (f : Int)), (65, Po i 1)] ((ld s 0) (pu 1 [(67, I (f : Int))] ?_))
    obtain ⟨cl, cm, dz, a6⟩ := T.formv (fun _ => ⟨_, rfl⟩) O
    refine (ix 43 5 O a6) (pu 1 [(69, .pointer (some ⟨cl, cm + Int.toNat (f : Int) * 5 + 1, none⟩))] ?_)
    refine OW.ld rfl rfl rfl rfl (by kernel_rfl) (T.cellv s O a6 1 _ rfl) ?_
    refine pu 4 [(74, B ((w64 ((f : Int) - bk.D)) != Q))] (nl ?_)
    obtain rfl := ij C
    exact me fun a d => ⟨d.ag, s.k [0, 1]⟩
   ·refine ex (te (bh (qn (rn (pu 3 [(12, I (w64 ((f : Int) + 1)))] (nl ?_))))))
    refine QW.say 12 rfl (congrArg (Value.int .i64) (zq A l4)) ?_
    exact me fun a d => ⟨V, zls _, f + 1, H, zm ab, d.ag, s.k [0, 1], t⟩
   refine sn (rg (pu 2 [(13, I Q)] (nx ((be t) fun az b4 t => ?_))))
   refine CW.cutQ (fun a q => Rep 117 [(1, I Q), (3, Pt i), (8, .slice (some ⟨g, 0, none⟩) b b), (12, I (f : Int))] a /\ St w Z q [zs i 25 [Sl a2 (o.Ms).length c3, Sl a5 (o.Co).length c6], qH (.slice (some ⟨g, 0, none⟩) b b) 156 zb 4 az]) ?_ ?_
   ·refine bl ?_
    refine CW.loop (fun n a q => ∃ (m : (List za) × Int), Rep 117 [(1, I Q), (3, Pt i), (8, .slice (some ⟨g, 0, none⟩) b b), (12, I (f : Int)), (13, I m.2)] a /\ St w Z q [zs i 25 [Sl a2 (o.Ms).length c3, Sl a5 (o.Co).length c6], qH (.slice (some ⟨g, 0, none⟩) b b) 156 zb 4 m.1] /\ loop (vh o f) n m = some az) fu (fun a d => ⟨(H, Q), d.ag, s.keep [0, 1] rfl, b4⟩) ?_
    rintro ae a q ⟨m, d, s, c⟩
    rcases ae with _ | ae
    ·exact (jX c).elim
    refine go d (sq (rg (pu 3 [(78, B (decide (m.2 <= (f : Int))))] (nx (br c (fun c b5 => ?_) fun c b5 => ?_)))))
    ·refine sn (sq (bl (rg (pu 1 [(82, Po i 1)] ((ld s 0) (pu 1 [(84, I m.2)] ((be c) fun cn al c => ?_)))))))
     obtain ⟨d0, d1, d2, a7⟩ := T.formv (fun _ => ⟨_, rfl⟩) al
     refine (ix 43 5 al a7) ((lN (zj cn) (T.cellv s al a7)) ((be c) fun h b6 c => (fn) (zdT b6 (s.p []) fun d3 bp => ⟨_, rfl, have s := s.j [] [0, 1] bp; pu 5 [(14, I h.1), (15, B h.2)] (nx (sq (sq ((be c) fun co E c => ?_))))⟩)))
     refine ck (fun a q => Rep 117 [(1, I Q), (3, Pt i), (8, .slice (some ⟨g, 0, none⟩) b b), (12, I (f : Int)), (13, I m.2), (14, I h.1), (15, B h.2), (98, B co)] a /\ St w Z q [zs i 25 [Sl a2 (o.Ms).length c3, Sl a5 (o.Co).length c6], qH (.slice (some ⟨g, 0, none⟩) b b) 156 zb 4 m.1]) ?_ fun a q ⟨d, s⟩ => go d ((be c) fun af u c => ?_)
     ·refine rn (pu 2 [(91, B h.2)] (si 91 E (fun E b7 => ?_) fun E b7 => ?_))
      ·refine pu 2 [(92, .slice (some ⟨g, 0, none⟩) b b), (93, I h.1)] ((be E) fun cp am E => ?_)
       obtain ⟨cq, cr, d4, a9⟩ := s.rowv 1 rfl am
       refine (ix 156 4 am a9) (pu 1 [(95, .pointer (some ⟨cq, cr + Int.toNat h.1 * 4, none⟩))] ?_)
       refine OW.ld rfl rfl rfl rfl (by kernel_rfl) (s.rowc 1 rfl (fun _ => rfl) am a9 0 _ rfl) ?_
       refine pu 2 [(98, B (cp.Ki == 1))] (nl ?_)
       obtain rfl := ij E
       exact me fun a d => ⟨d.ag, s.k [0, 1]⟩
      refine pu 7 [(98, B false)] (nl ?_)
      obtain rfl := ij E
      exact me fun a d => ⟨d.ag, s.k [0, 1]⟩
     refine ck (fun a q => Rep 117 [(1, I Q), (3, Pt i), (8, .slice (some ⟨g, 0, none⟩) b b), (12, I (f : Int)), (13, I m.2), (14, I h.1), (15, B h.2)] a /\ St w Z q [zs i 25 [Sl a2 (o.Ms).length c3, Sl a5 (o.Co).length c6], qH (.slice (some ⟨g, 0, none⟩) b b) 156 zb 4 af]) ?_ fun a q ⟨d, s⟩ => go d (sq ((be c) fun cs F c => ?_))
     ·refine br u (fun u b8 => ?_) fun u b8 => ?_
      ·refine rn (pu 2 [(99, .slice (some ⟨g, 0, none⟩) b b), (100, I h.1)] ((be u) fun cu b9 u => (fn) (zci b9 (s.p []) fun d5 bq => ⟨_, rfl, have s := s.j [] [0, 1] bq; (be u) fun d6 an u => ?_⟩)))
       obtain ⟨d7, d8, d9, ba⟩ := s.rowv 1 rfl an
       refine (ix 156 4 an ba) ?_
       refine OW.stR s 1 rfl ba (fun _ => rfl) rfl rfl an 0 rfl rfl rfl (by kernel_rfl) rfl rfl cu rfl ?_
       intro ea s
       refine nl ?_
       obtain rfl := ij u
       exact me fun a d => ⟨d.ag, s.k [0, 1]⟩
      refine sk ?_
      obtain rfl := ij u
      exact me fun a d => ⟨d.ag, s.k [0, 1]⟩
     refine ck (fun a q => Rep 117 [(1, I Q), (3, Pt i), (8, .slice (some ⟨g, 0, none⟩) b b), (12, I (f : Int)), (13, I m.2), (14, I h.1), (111, B cs)] a /\ St w Z q [zs i 25 [Sl a2 (o.Ms).length c3, Sl a5 (o.Co).length c6], qH (.slice (some ⟨g, 0, none⟩) b b) 156 zb 4 af]) ?_ fun a q ⟨d, s⟩ => go d (br c (fun c ca => ?_) fun c ca => ?_)
     ·refine rn (pu 2 [(104, B h.2)] (si 104 F (fun F cb => ?_) fun F cb => ?_))
      ·refine pu 2 [(105, .slice (some ⟨g, 0, none⟩) b b), (106, I h.1)] ((be F) fun cv ao F => ?_)
       obtain ⟨cw, cx, eb, bb⟩ := s.rowv 1 rfl ao
       refine (ix 156 4 ao bb) (pu 1 [(108, .pointer (some ⟨cw, cx + Int.toNat h.1 * 4, none⟩))] ?_)
       refine OW.ld rfl rfl rfl rfl (by kernel_rfl) (s.rowc 1 rfl (fun _ => rfl) ao bb 0 _ rfl) ?_
       refine pu 2 [(111, B (cv.Ki == 2))] (nl ?_)
       obtain rfl := ij F
       exact me fun a d => ⟨d.ag, s.k [0, 1]⟩
      refine pu 7 [(111, B false)] (nl ?_)
      obtain rfl := ij F
      exact me fun a d => ⟨d.ag, s.k [0, 1]⟩
     ·refine rn (pu 3 [(112, .slice (some ⟨g, 0, none⟩) b b), (113, I h.1), (114, Ag [I 0, U 0, U 0, I 0])] ((be c) fun ec ap c => ?_))
      obtain ⟨ed, ee, ef, bc⟩ := s.rowv 1 rfl ap
      refine (ix 156 4 ap bc) ?_
      refine OW.stR s 1 rfl bc (fun _ => rfl) rfl rfl ap 0 rfl rfl rfl (by kernel_rfl) rfl rfl (za.mk 0 (zd.mk 0 0) 0) rfl ?_
      intro eg s
      exact nl (bn (qn (rn (pu 3 [(13, I (w64 (m.2 + 1)))] (nl (me fun a d => ⟨ae, zls _, ((af.set (Int.toNat h.1) (za.mk 0 (zd.mk 0 0) 0)), w64 (m.2 + 1)), d.ag, s.k [0, 1], c⟩))))))
     exact sk (bn (qn (rn (pu 3 [(13, I (w64 (m.2 + 1)))] (nl (me fun a d => ⟨ae, zls _, (af, w64 (m.2 + 1)), d.ag, s.k [0, 1], c⟩))))))
    refine ex (te (te (bh ?_)))
    obtain rfl := ij c
    exact me fun a d => ⟨d.ag, s.k [0, 1]⟩
   rintro a q ⟨d, s⟩
   refine QW.go ?_ d
   refine bn (qn (rn (pu 3 [(12, I (w64 ((f : Int) + 1)))] (nl ?_))))
   refine QW.say 12 rfl (congrArg (Value.int .i64) (zq A l4)) ?_
   exact me fun a d => ⟨V, zls _, f + 1, az, zm ab, d.ag, s.k [0, 1], t⟩
  rcases V with _ | V
  ·refine cf A (ex (te (te (bh ?_))))
   obtain rfl := ij t
   exact me fun a d => ⟨d.ag, s.k [1]⟩
  exact (zb1 ab A).elim
 obtain rfl := ij hF
 exact r1 (K (.slice (some ⟨g, 0, none⟩) b b) _ (s.k [0]))
theorem zdU {w Z c r R} (g : vE c = some r) (b : St w Z w [])
  (K : ∀ w', St w Z w' [] -> R (Rt (B r)) w') : Calls Tryz.prog 95 [Ag [I c.Op, I c.D, I c.A, I c.B, I c.Imm]].toArray w R := by
 refine sr 16 Tryz.func95 rfl (rg ((bx b [I c.Op, I c.D, I c.A, I c.B, I c.Imm]) fun q v b => pu 1 [] (nx (rg (pu 1 [(4, Pt q)] ((ld b 0) (pu 1 [(3, I c.Op)] (nx (sq ((be g) fun n s g => ?_))))))))))
 refine ck (fun a o => Rep 16 [(2, B n)] a /\ St w Z o []) ?_ fun a o ⟨d, b⟩ => go d (rt ?_)
 ·refine rn ((lN [I c.Op, I c.D, I c.A, I c.B, I c.Imm] (b.blkN 0 rfl 0 5)) ((be s) fun r21 h s => (fn) (vb h (b.p []) fun t e => ⟨_, rfl, have b := b.j [] [0] e; pu 1 [(8, B r21)] (si 8 s (fun s i => ?_) fun s i => ?_)⟩)))
  ·refine pu 3 [(11, B (decide (c.Op <= 12)))] (si 11 s (fun s l => ?_) fun s l => ?_)
   ·refine pu 5 [(2, B true)] (nl ?_)
    obtain rfl := ij s
    exact me fun a d => ⟨d.ag, b.k []⟩
   refine pu 1 [(12, I c.Op)] ((be s) fun r27 m s => (fn) (vp m (b.p []) fun u f => ⟨_, rfl, have b := b.j [] [0] f; pu 3 [(2, B r27)] (nl ?_)⟩))
   obtain rfl := ij s
   exact me fun a d => ⟨d.ag, b.k []⟩
  refine pu 8 [(2, B false)] (nl ?_)
  obtain rfl := ij s
  exact me fun a d => ⟨d.ag, b.k []⟩
 obtain rfl := ij g
 exact r1 (K _ (b.k []))
theorem zcb {w Z f r R} (b : zaD f = some r) (s : St w Z w [])
  (K : ∀ (H : Value) w', St w Z w' [qH H 156 zb 4 r] -> R (Rt (H)) w') : Calls Tryz.prog 97 [I f].toArray w R := by
 refine sr 31 Tryz.func97 rfl (rg (pu 1 [] (nx (rg (pu 1 [(3, U 18446744073709551615)] (nx (sq (rg (pu 1 [(4, I f)] (nx (bl (sq (rg (pu 2 [(5, B (f == 0))] (nx ((be b) fun Y c b => ?_))))))))))))))))
 refine ck (fun a h => Rep 31 [(3, U 18446744073709551615), (4, I f), (5, B Y)] a /\ St w Z h []) ?_ fun a h ⟨d, s⟩ => go d (br b (fun b J => ?_) fun b J => ?_)
 ·refine br c (fun c M => ?_) fun c M => ?_
  ·refine sk ?_
   obtain rfl := ij c
   exact me fun a d => ⟨d.ag, s.k []⟩
  refine rg (pu 2 [(5, B (f == 1))] (nx (br c (fun c O => ?_) fun c O => ?_)))
  ·refine sk ?_
   obtain rfl := ij c
   exact me fun a d => ⟨d.ag, s.k []⟩
  refine rn (pu 2 [(5, B (f == 3))] (nl ?_))
  obtain rfl := ij c
  exact me fun a d => ⟨d.ag, s.k []⟩
 ·refine rg (pu 2 [(9, Ag [I 2, U 0, U 0, I 0]), (10, U 18446744073709551615)] ((be b) fun r14 x b => (fn) (qE x (s.p []) fun aa i => ⟨_, rfl, have s := s.j [] [] i; ?_⟩)))
  refine OW.row (α := za) (e := 156) (enc := zb) (sz := 4) s rfl rfl rfl [(za.mk 2 (zd.mk 0 0) 0), r14] rfl (fun _ => rfl) rfl rfl (fun _ => by kernel_rfl) ?_
  intro q ab s
  refine pu 1 [(2, .slice (some ⟨q, 0, none⟩) 2 2)] (nx (rt (bt (tr ?_))))
  obtain rfl := ij b
  exact r1 (K (.slice (some ⟨q, 0, none⟩) 2 2) _ (s.k [0]))
 refine sq (rg (pu 2 [(13, B (f == 2))] (nx ((be b) fun Q g b => ?_))))
 refine ck (fun a h => Rep 31 [(3, U 18446744073709551615), (4, I f), (13, B Q)] a /\ St w Z h []) ?_ fun a h ⟨d, s⟩ => go d (br b (fun b y => ?_) fun b y => ?_)
 ·refine br g (fun g z => ?_) fun g z => ?_
  ·refine sk ?_
   obtain rfl := ij g
   exact me fun a d => ⟨d.ag, s.k []⟩
  refine rn (pu 2 [(13, B (f == 4))] (nl ?_))
  obtain rfl := ij g
  exact me fun a d => ⟨d.ag, s.k []⟩
 ·refine rg (pu 2 [(16, Ag [I 2, U 0, U 0, I 0]), (17, U 18446744073709551615)] ((be b) fun T A b => (fn) (qE A (s.p []) fun ac l => ⟨_, rfl, have s := s.j [] [] l; pu 1 [(19, U 18446744073709551615)] ((be b) fun V C b => (fn) (qE C (s.p []) fun ad m => ⟨_, rfl, have s := s.j [] [] m; ?_⟩))⟩)))
  refine OW.row (α := za) (e := 156) (enc := zb) (sz := 4) s rfl rfl rfl [(za.mk 2 (zd.mk 0 0) 0), T, V] rfl (fun _ => rfl) rfl rfl (fun _ => by kernel_rfl) ?_
  intro t ae s
  refine pu 1 [(2, .slice (some ⟨t, 0, none⟩) 3 3)] (nx (rt (bt (tr ?_))))
  obtain rfl := ij b
  exact r1 (K (.slice (some ⟨t, 0, none⟩) 3 3) _ (s.k [0]))
 refine rg (pu 2 [(22, B (f == 5))] (nx (br b (fun b D => ?_) fun b D => ?_)))
 ·refine rg ((be b) fun W E b => (fn) (qE E (s.p []) fun af n => ⟨_, rfl, have s := s.j [] [] n; ?_⟩))
  refine OW.row (α := za) (e := 156) (enc := zb) (sz := 4) s rfl rfl rfl [W] rfl (fun _ => rfl) rfl rfl (fun _ => by kernel_rfl) ?_
  intro u ah s
  refine pu 1 [(2, .slice (some ⟨u, 0, none⟩) 1 1)] (nx (rt (bt (tr ?_))))
  obtain rfl := ij b
  exact r1 (K (.slice (some ⟨u, 0, none⟩) 1 1) _ (s.k [0]))
 refine rg (pu 2 [(26, B (f == 6))] (nx (br b (fun b F => ?_) fun b F => ?_)))
 ·refine rg (pu 1 [(28, U 18446744073709551615)] ((be b) fun X G b => (fn) (qE G (s.p []) fun ai o => ⟨_, rfl, have s := s.j [] [] o; ?_⟩)))
  refine OW.row (α := za) (e := 156) (enc := zb) (sz := 4) s rfl rfl rfl [X] rfl (fun _ => rfl) rfl rfl (fun _ => by kernel_rfl) ?_
  intro v aj s
  refine pu 1 [(2, .slice (some ⟨v, 0, none⟩) 1 1)] (nx (rt (bt (tr ?_))))
  obtain rfl := ij b
  exact r1 (K (.slice (some ⟨v, 0, none⟩) 1 1) _ (s.k [0]))
 refine sk (bn (qn (rg (pu 1 [(2, Sn)] (nx (rt ?_))))))
 have s := s.nilRow za 156 zb 4
 obtain rfl := ij b
 exact r1 (K (Sn) _ (s.k [0]))
theorem zbQ {w Z e c r R} (l : xM e c = some r) (b : St w Z w [])
  (K : ∀ w', St w Z w' [] -> R (Rt (B r)) w') : Calls Tryz.prog 143 [Ag [U e.Lo, U e.Hi], Ag [U c.Lo, U c.Hi]].toArray w R := by
 refine sr 23 Tryz.func143 rfl (rg ((bx b [U e.Lo, U e.Hi]) fun x M b => (bx b [U c.Lo, U c.Hi]) fun O Q b => pu 1 [] (nx (sq ((be l) fun y s l => ?_)))))
 refine ck (fun a z => Rep 23 [(4, B y)] a /\ St w Z z []) ?_ fun a z ⟨d, b⟩ => go d (rt ?_)
 ·refine rn ((lN [U e.Lo, U e.Hi] (b.blkN 0 rfl 0 2)) ((be s) fun A m s => (fn) (qj m (b.p []) fun F f => ⟨_, rfl, have b := b.j [] [0, 1] f; pu 1 [(7, B A)] (si 7 s (fun s n => ?_) fun s n => ?_)⟩)))
  ·refine (lN [U c.Lo, U c.Hi] (b.blkN 1 rfl 0 2)) ((be s) fun C o s => (fn) (qj o (b.p []) fun G g => ⟨_, rfl, have b := b.j [] [0, 1] g; pu 2 [(11, B C)] (si 11 s (fun s q => ?_) fun s q => ?_)⟩))
   ·refine (lN [U c.Lo, U c.Hi] (b.blkN 1 rfl 0 2)) (pu 1 [(13, Pt x)] ((ld b 0) ((be s) fun D t s => (fn) (zbb t (b.p []) fun H h => ⟨_, rfl, have b := b.j [] [0, 1] h; pu 2 [(17, B D)] (si 17 s (fun s u => ?_) fun s u => ?_)⟩))))
    ·refine (lN [U c.Lo, U c.Hi] (b.blkN 1 rfl 0 2)) (pu 1 [(19, Po x 1)] ((ld b 0) ((be s) fun E v s => (fn) (zbb v (b.p []) fun J i => ⟨_, rfl, have b := b.j [] [0, 1] i; pu 2 [(4, B E)] (nl ?_)⟩))))
     obtain rfl := ij s
     exact me fun a d => ⟨d.ag, b.k []⟩
    refine pu 6 [(4, B false)] (nl ?_)
    obtain rfl := ij s
    exact me fun a d => ⟨d.ag, b.k []⟩
   refine pu 12 [(4, B false)] (nl ?_)
   obtain rfl := ij s
   exact me fun a d => ⟨d.ag, b.k []⟩
  refine pu 16 [(4, B false)] (nl ?_)
  obtain rfl := ij s
  exact me fun a d => ⟨d.ag, b.k []⟩
 obtain rfl := ij l
 exact r1 (K _ (b.k []))
theorem zer {w Z o v1 u r R} (i : zac o u = some r) (s : St w Z w []) (J : Rd w Z v1 zb 4 u)
  (K : ∀ w', St w Z w' [] -> R (Rt (I r)) w') : Calls Tryz.prog 98 [I o, v1].toArray w R := by
 refine sr 57 Tryz.func98 rfl ?_
 obtain ⟨l1, M, O, rfl⟩ := J.len
 refine rg (pu 1 [] (nx (sq (sq ?_))))
 refine ck (fun a q => Rep 57 [(0, I o), (1, Sl M (u).length O), (12, B (decide (o < 0) || decide (o > 6)))] a /\ St w Z q []) ?_ fun a q ⟨g, s⟩ => go g (br i (fun i av => ?_) fun i av => ?_)
 ·refine rn (pu 3 [(9, B (decide (o < 0)))] (sp 9 (fun Q => ?_) fun Q => ?_))
  ·refine pu 3 [(12, B true)] (nl ?_)
   exact QW.say 12 (v := B (decide (o < 0) || decide (o > 6))) rfl (by rw [Q]; try rfl) (me fun a g => ⟨g.ag, s.k []⟩)
  refine pu 3 [(12, B (decide (o > 6)))] (nl ?_)
  exact QW.say 12 (v := B (decide (o < 0) || decide (o > 6))) rfl (by rw [Q]; try rfl) (me fun a g => ⟨g.ag, s.k []⟩)
 ·refine rg (pu 1 [(4, I 34)] (nx (rt (tr ?_))))
  obtain rfl := ij i
  exact r1 (K _ (s.k []))
 refine sn (rg (pu 1 [(13, I o)] ((be i) fun r14 ae i => (fn) (zcb ae (s.p []) fun a6 a7 Y => ⟨_, rfl, have s := s.j [] [] Y; ?_⟩))))
 obtain ⟨aw, l, m, rfl⟩ := s.le 0
 refine pu 1 [(5, Sl l (r14).length m)] (nx (sq (rg (pu 5 [(19, B (((r14).length : Int) != ((u).length : Int)))] (nx (br i (fun i af => ?_) fun i af => ?_))))))
 ·refine rg (pu 1 [(4, I 2)] (nx (rt (tr ?_))))
  obtain rfl := ij i
  exact r1 (K _ (s.k []))
 refine sn (sq (rg (pu 1 [(6, I 0)] (nx ((be i) fun T aa i => ?_)))))
 refine ck (fun a q => ∃ (t262 : Unit), T = .inl t262 /\ Rep 57 [] a /\ St w Z q []) ?_ ?_
 ·refine bl ?_
  refine CW.loop (fun n a q => ∃ (c : Nat) (A : Unit), c + n = (r14).length /\ Rep 57 [(1, Sl M (u).length O), (5, Sl l (r14).length m), (6, I (c : Int))] a /\ St w Z q [qH (Sl l (r14).length m) 156 zb 4 r14] /\ zQ (va u r14) (fun (A : Unit) => (.inl ())) n c A = some T) (r14).length (fun a g => ⟨0, (), Nat.zero_add _, g.ag, s.keep [0] rfl, aa⟩) ?_
  rintro t a q ⟨c, A, x, g, s, b⟩
  refine go g (sq (rg (pu 4 [(23, B (decide ((c : Int) < ((r14).length : Int))))] (nx ?_))))
  rcases zft (decide ((c : Int) < ((r14).length : Int))) with h | h
  ·rcases t with _ | t
   ·exact (zb0 x h).elim
   refine ct h (sn (sq (bl (sq (sq ?_)))))
   refine CW.still (by kernel_rfl) (by kernel_rfl) ?_
   intro ax V
   have s := s.same V
   refine op' 2 [(26, Sl M (u).length O), (27, I (c : Int))] ((be b) fun C e b => ?_)
   obtain ⟨ah, ai, ay, D⟩ := J.formv (fun _ => ⟨_, rfl⟩) e
   refine OS.idx 156 4 rfl rfl rfl rfl rfl D rfl (zh e).1 (zh e).2.1 (by kernel_rfl) (by kernel_rfl) ?_
   refine op' 1 [(29, .pointer (some ⟨ah, ai + Int.toNat (c : Int) * 4, none⟩))] ?_
   refine OS.ld rfl rfl rfl rfl rfl (by kernel_rfl) (J.cellv s e D 0 _ rfl) ?_
   refine op' 2 [(31, Sl l (r14).length m), (32, I (c : Int))] ((be b) fun y d b => ?_)
   obtain ⟨aj, ak, az, E⟩ := s.rowv 0 rfl d
   refine OS.idx 156 4 rfl rfl rfl rfl rfl E rfl (zh d).1 (zh d).2.1 (by kernel_rfl) (by kernel_rfl) ?_
   refine op' 1 [(34, .pointer (some ⟨aj, ak + Int.toNat (c : Int) * 4, none⟩))] ?_
   refine OS.ld rfl rfl rfl rfl rfl (by kernel_rfl) (s.rowc 0 rfl (fun _ => rfl) d E 0 _ rfl) ?_
   refine op' 1 [(36, B (C.Ki != y.Ki))] ?_
   refine OS.fin rfl ?_
   refine qn (br b (fun b ab => ?_) fun b ab => ?_)
   ·refine rg (pu 1 [(4, I 33)] (nx (rt (tr (bt (tr (tr (bt (tr ?_)))))))))
    obtain rfl := ij b
    obtain rfl := ij i
    exact r1 (K _ (s.k []))
   refine sn (sq ((be b) fun al f b => ?_))
   refine ck (fun a q => Rep 57 [(1, Sl M (u).length O), (5, Sl l (r14).length m), (6, I (c : Int)), (56, B al)] a /\ St w Z q [qH (Sl l (r14).length m) 156 zb 4 r14]) ?_ fun a q ⟨g, s⟩ => go g (br b (fun b ac => ?_) fun b ac => ?_)
   ·refine CW.tail 17 (by kernel_rfl) (by kernel_rfl) ?_
    intro a0 W
    have s := s.same W
    refine op' 2 [(37, Sl l (r14).length m), (38, I (c : Int))] ?_
    obtain ⟨am, an, a1, F⟩ := s.rowv 0 rfl d
    refine OS.idx 156 4 rfl rfl rfl rfl rfl F rfl (zh d).1 (zh d).2.1 (by kernel_rfl) (by kernel_rfl) ?_
    refine op' 1 [(40, .pointer (some ⟨am, an + Int.toNat (c : Int) * 4, none⟩))] ?_
    refine OS.ld rfl rfl rfl rfl rfl (by kernel_rfl) (s.rowc 0 rfl (fun _ => rfl) d F 0 _ rfl) ?_
    refine op' 2 [(43, B (y.Ki == 1))] ?_
    refine OS.split 43 rfl (fun z => ?_) (fun z => ?_)
    ·have f := zfr f z
     refine op' 2 [(44, Sl M (u).length O), (45, I (c : Int))] ?_
     obtain ⟨ao, ap, a3, G⟩ := J.formv (fun _ => ⟨_, rfl⟩) e
     refine OS.idx 156 4 rfl rfl rfl rfl rfl G rfl (zh e).1 (zh e).2.1 (by kernel_rfl) (by kernel_rfl) ?_
     refine op' 1 [(47, .pointer (some ⟨ao, ap + Int.toNat (c : Int) * 4 + 1, none⟩))] ?_
     refine OS.ldN (cs := [U C.Sp.Lo, U C.Sp.Hi]) rfl rfl rfl rfl rfl (by kernel_rfl) (by kernel_rfl) (elN (J.cellv s e G) 1 2) ?_
     refine op' 2 [(49, Sl l (r14).length m), (50, I (c : Int))] ?_
     obtain ⟨aq, ar, a4, H⟩ := s.rowv 0 rfl d
     refine OS.idx 156 4 rfl rfl rfl rfl rfl H rfl (zh d).1 (zh d).2.1 (by kernel_rfl) (by kernel_rfl) ?_
     refine op' 1 [(52, .pointer (some ⟨aq, ar + Int.toNat (c : Int) * 4 + 1, none⟩))] ?_
     refine OS.ldN (cs := [U y.Sp.Lo, U y.Sp.Hi]) rfl rfl rfl rfl rfl (by kernel_rfl) (by kernel_rfl) (elN (s.rowc 0 rfl (fun _ => rfl) d H) 1 2) ?_
     refine OS.on ?_
     refine (be f) fun au ad f => (fn) (zbQ ad (s.p []) fun a5 X => ⟨_, rfl, have s := s.j [] [0] X; pu 2 [(56, B (!au))] (nl ?_)⟩)
     obtain rfl := ij f
     exact me fun a g => ⟨g.ag, s.k [0]⟩
    have f := zfs f z
    refine op' 10 [(48, undef), (53, undef)] ?_
    refine OS.on ?_
    refine pu 3 [(56, B false)] (nl ?_)
    obtain rfl := ij f
    exact me fun a g => ⟨g.ag, s.k [0]⟩
   ·refine rg (pu 1 [(4, I 35)] (nx (rt (bt (tr (tr (bt (tr ?_))))))))
    obtain rfl := ij b
    obtain rfl := ij i
    exact r1 (K _ (s.k []))
   refine sk (bn (qn (rn (pu 3 [(6, I (w64 ((c : Int) + 1)))] (nl ?_)))))
   refine QW.say 6 rfl (congrArg (Value.int .i64) (zq h aw)) ?_
   exact me fun a g => ⟨t, zls _, c + 1, (), zm x, g.ag, s.k [0], b⟩
  rcases t with _ | t
  ·refine cf h (ex (te (te (bh ?_))))
   obtain rfl := ij b
   exact me fun a g => ⟨(), rfl, g.ag, s.k []⟩
  exact (zb1 x h).elim
 rintro a q ⟨t262, rfl, g, s⟩
 refine go g (rg (pu 1 [(4, I 0)] (nx (rt ?_))))
 obtain rfl := ij i
 exact r1 (K _ (s.k []))
theorem zeX {w Z c a r R} (b : zaE c a = some r) (s : St w Z w [])
  (K : ∀ w', St w Z w' [] -> R (Rt (B r)) w') : Calls Tryz.prog 99 [Ag [I c.Ki, U c.Sp.Lo, U c.Sp.Hi, I c.Map], Ag [I a.Ki, U a.Sp.Lo, U a.Sp.Hi, I a.Map]].toArray w R := by
 refine sr 26 Tryz.func99 rfl (rg ((bx s [I c.Ki, U c.Sp.Lo, U c.Sp.Hi, I c.Map]) fun f n s => (bx s [I a.Ki, U a.Sp.Lo, U a.Sp.Hi, I a.Map]) fun d o s => pu 1 [] (nx (sq (rg (pu 1 [(5, Pt d)] ((ld s 1) (pu 1 [(7, B (a.Ki == 0))] (nx (br b (fun b l => ?_) fun b l => ?_))))))))))
 ·refine rg (pu 1 [(4, B true)] (nx (rt (tr ?_))))
  obtain rfl := ij b
  exact r1 (K _ (s.k []))
 refine sn (sq (rg (pu 1 [(8, Pt f)] ((ld s 0) (pu 1 [(10, Pt d)] ((ld s 1) (pu 1 [(12, B (c.Ki != a.Ki))] (nx (br b (fun b g => ?_) fun b g => ?_)))))))))
 ·refine rg (pu 1 [(4, B false)] (nx (rt (tr ?_))))
  obtain rfl := ij b
  exact r1 (K _ (s.k []))
 refine sn (sq (rg (pu 1 [(13, Pt d)] ((ld s 1) (pu 1 [(15, B (a.Ki == 1))] (nx (br b (fun b h => ?_) fun b h => ?_)))))))
 ·refine rg (pu 1 [(16, Po f 1)] ((lN [U c.Sp.Lo, U c.Sp.Hi] (s.blkN 0 rfl 1 2)) (pu 1 [(18, Po d 1)] ((lN [U a.Sp.Lo, U a.Sp.Hi] (s.blkN 1 rfl 1 2)) ((be b) fun r16 i b => (fn) (zbQ i (s.p []) fun m e => ⟨_, rfl, have s := s.j [] [0, 1] e; pu 1 [(4, B r16)] (nx (rt (tr ?_)))⟩))))))
  obtain rfl := ij b
  exact r1 (K _ (s.k []))
 refine sn (rg (pu 1 [(21, Po f 3)] ((ld s 0) (pu 1 [(23, Po d 3)] ((ld s 1) (pu 2 [(4, B (c.Map == a.Map))] (nx (rt ?_))))))))
 obtain rfl := ij b
 exact r1 (K _ (s.k []))
theorem zcc {w Z an ao O p1 v2 u v3 J r R} (h : xK O p1 u J = some r) (b : St w Z w []) (bu : Rd w Z an (zx .i64) 1 O.Ms) (ad : Rd w Z ao zj 5 O.Co) (Q : Rd w Z v2 zb 4 u) (h3 : Rd w Z v3 zb 4 J)
  (K : ∀ w', St w Z w' [] -> R (Rt (I r)) w') : Calls Tryz.prog 56 [Ag [an, ao], I p1, v2, v3].toArray w R := by
 refine sr 123 Tryz.func56 rfl ?_
 obtain ⟨l1, a2, c3, rfl⟩ := bu.len
 obtain ⟨l4, a5, c6, rfl⟩ := ad.len
 obtain ⟨l7, z, y, rfl⟩ := Q.len
 obtain ⟨cw, C, E, rfl⟩ := h3.len
 refine rg ((bx b [Sl a2 (O.Ms).length c3, Sl a5 (O.Co).length c6]) fun T cx b => pu 1 [] (nx (rg (pu 1 [(14, Po T 1)] ((ld b 0) (pu 1 [(16, I p1)] ((be h) fun c ae h => ?_)))))))
 obtain ⟨cy, cz, c0, ap⟩ := ad.formv (fun _ => ⟨_, rfl⟩) ae
 refine (ix 43 5 ae ap) ((lN (zj c) (ad.cellv b ae ap)) ((al b [I 0, I 0, I 0, I 0, I 0]) fun q c1 b => (st b 1 [I c.Op, I c.D, I c.A, I c.B, I c.Imm]) fun c2 b => nx (rg (pu 1 [(19, Pt q)] ((ld b 1) (pu 1 [(10, I c.Op)] (nx (rg (pu 1 [(21, Ag [I 0, U 0, U 0, I 0])] ((al b [I 0, U 0, U 0, I 0]) fun i c4 b => (st b 2 [I 0, U 0, U 0, I 0]) fun c5 b => nx (sq (rg ((lN [I c.Op, I c.D, I c.A, I c.B, I c.Imm] (b.blkN 1 rfl 0 5)) ((be h) fun c7 bv h => (fn) (zdU bv (b.p []) fun c8 ay => ⟨_, rfl, have b := b.j [] [0, 1, 2] ay; nx ((be h) fun f x h => ?_)⟩)))))))))))))))
 refine ck (fun a l => Rep 123 [(2, Sl z (u).length y), (3, Sl C (J).length E), (4, Pt T), (9, Pt q), (10, I c.Op), (11, Pt i)] a /\ St w Z l [zs T 25 [Sl a2 (O.Ms).length c3, Sl a5 (O.Co).length c6], zs q 43 [I c.Op, I c.D, I c.A, I c.B, I c.Imm], zs i 156 [I f.Ki, U f.Sp.Lo, U f.Sp.Hi, I f.Map]]) ?_ fun a l ⟨d, b⟩ => go d (sq ((be h) fun bw s h => ?_))
 ·refine br x (fun x bz => ?_) fun x bz => ?_
  ·refine rn ((lN [I c.Op, I c.D, I c.A, I c.B, I c.Imm] (b.blkN 1 rfl 0 5)) (pu 1 [(25, Sl z (u).length y)] ((be x) fun ah b0 x => (fn) (qT b0 (b.p []) (Q.give b []) fun da az => ⟨_, rfl, have b := b.j [] [0, 1, 2] az; (st b 2 [I ah.Ki, U ah.Sp.Lo, U ah.Sp.Hi, I ah.Map]) fun db b => nl ?_⟩))))
   obtain rfl := ij x
   exact me fun a d => ⟨d.ag, b.k [0, 1, 2]⟩
  refine sk ?_
  obtain rfl := ij x
  exact me fun a d => ⟨d.ag, b.k [0, 1, 2]⟩
 refine ck (fun a l => ∃ (t156 : Unit), bw = .inl t156 /\ Rep 123 [(2, Sl z (u).length y), (3, Sl C (J).length E), (10, I c.Op), (11, Pt i)] a /\ St w Z l [zs i 156 [I f.Ki, U f.Sp.Lo, U f.Sp.Hi, I f.Map]]) ?_ ?_
 ·refine bl (rg (pu 3 [(39, B (c.Op == 0))] (nx (br s (fun s a0 => ?_) fun s a0 => ?_))))
  ·refine rg (pu 1 [(42, Pt i)] ((ld b 2) (pu 1 [(44, B (f.Ki == 0))] (nx (br s (fun s a1 => ?_) fun s a1 => ?_)))))
   ·refine rg (pu 1 [(8, I 33)] (nx (rt (bt (tr ?_)))))
    obtain rfl := ij s
    obtain rfl := ij h
    exact r1 (K _ (b.k []))
   refine sk (bn ?_)
   obtain rfl := ij s
   exact me fun a d => ⟨(), rfl, d.ag, b.k [2]⟩
  refine sq ?_
  refine ck (fun a l => Rep 123 [(2, Sl z (u).length y), (3, Sl C (J).length E), (4, Pt T), (9, Pt q), (10, I c.Op), (11, Pt i), (45, B ((c.Op == 13) || (c.Op == 15)))] a /\ St w Z l [zs T 25 [Sl a2 (O.Ms).length c3, Sl a5 (O.Co).length c6], zs q 43 [I c.Op, I c.D, I c.A, I c.B, I c.Imm], zs i 156 [I f.Ki, U f.Sp.Lo, U f.Sp.Hi, I f.Map]]) ?_ fun a l ⟨d, b⟩ => go d (br s (fun s a3 => ?_) fun s a3 => ?_)
  ·refine rn (pu 3 [(48, B (c.Op == 13))] (sp 48 (fun W => ?_) fun W => ?_))
   ·refine pu 4 [(45, B true)] (nl ?_)
    exact QW.say 45 (v := B ((c.Op == 13) || (c.Op == 15))) rfl (by rw [W]; try rfl) (me fun a d => ⟨d.ag, b.k [0, 1, 2]⟩)
   refine pu 4 [(45, B (c.Op == 15))] (nl ?_)
   exact QW.say 45 (v := B ((c.Op == 13) || (c.Op == 15))) rfl (by rw [W]; try rfl) (me fun a d => ⟨d.ag, b.k [0, 1, 2]⟩)
  ·refine sk (bn ?_)
   obtain rfl := ij s
   exact me fun a d => ⟨(), rfl, d.ag, b.k [2]⟩
  refine rg (pu 3 [(52, B (c.Op == 14))] (nx (br s (fun s a4 => ?_) fun s a4 => ?_)))
  ·refine rg (pu 1 [(55, Po q 4)] ((ld b 1) (pu 1 [(57, Pt T)] ((ld b 0) (pu 2 [(60, B (decide (c.Imm >= ((O.Ms).length : Int))))] (nx (br s (fun s a6 => ?_) fun s a6 => ?_)))))))
   ·refine rg (pu 1 [(8, I 35)] (nx (rt (bt (tr ?_)))))
    obtain rfl := ij s
    obtain rfl := ij h
    exact r1 (K _ (b.k []))
   refine sk (bn ?_)
   obtain rfl := ij s
   exact me fun a d => ⟨(), rfl, d.ag, b.k [2]⟩
  refine rg (pu 3 [(61, B (c.Op == 21))] (nx (br s (fun s a7 => ?_) fun s a7 => ?_)))
  ·refine rg (pu 1 [(64, Po q 4)] ((ld b 1) ((be s) fun r172 a9 s => (fn) (zcb a9 (b.p []) fun cb cc aq => ⟨_, rfl, have b := b.j [] [0, 1, 2] aq; ?_⟩))))
   obtain ⟨cd, ce, cg, rfl⟩ := b.le 0
   refine pu 2 [(12, I ((r172).length : Int))] (nx (sq ?_))
   refine CW.tail 6 (by kernel_rfl) (by kernel_rfl) ?_
   intro ch ar
   have b := b.same ar
   refine op' 1 [(68, Po q 4)] ((od b 2) (op' 3 [(70, Sl z (u).length y), (72, I (w64 (1 + ((r172).length : Int))))] ((be s) fun ba V s => ?_)))
   refine OS.op (v := .slice (shd z y (Int.toNat 1) 4) (ba).length (y - Int.toNat 1)) rfl rfl rfl rfl rfl (fun a d => zk5 (e := 156) 4 rfl rfl rfl rfl V Q.cap (by kernel_rfl) (by kernel_rfl) a _ d) ?_
   have bb := Q.part V
   refine OS.on ?_
   refine (be s) fun r194 bc s => (fn) (zer bc (b.p []) (bb.give b []) fun ci au => ⟨_, rfl, have b := b.j [] [0, 1, 2, 3] au; pu 1 [(8, I r194)] (nx (rt (bt (tr ?_))))⟩)
   obtain rfl := ij s
   obtain rfl := ij h
   exact r1 (K _ (b.k []))
  refine rg (pu 3 [(75, B (c.Op == 11))] (nx (br s (fun s bd => ?_) fun s bd => ?_)))
  ·refine rg (pu 1 [(78, Pt i)] ((ld b 2) (pu 1 [(80, B (f.Ki != 1))] (nx (br s (fun s bf => ?_) fun s bf => ?_)))))
   ·refine rg (pu 1 [(8, I 33)] (nx (rt (bt (tr ?_)))))
    obtain rfl := ij s
    obtain rfl := ij h
    exact r1 (K _ (b.k []))
   refine sk (bn ?_)
   obtain rfl := ij s
   exact me fun a d => ⟨(), rfl, d.ag, b.k [2]⟩
  refine sq ?_
  refine ck (fun a l => Rep 123 [(2, Sl z (u).length y), (3, Sl C (J).length E), (9, Pt q), (10, I c.Op), (11, Pt i), (81, B ((c.Op == 20) || (c.Op == 22)))] a /\ St w Z l [zs q 43 [I c.Op, I c.D, I c.A, I c.B, I c.Imm], zs i 156 [I f.Ki, U f.Sp.Lo, U f.Sp.Hi, I f.Map]]) ?_ fun a l ⟨d, b⟩ => go d (br s (fun s bg => ?_) fun s bg => ?_)
  ·refine rn (pu 3 [(84, B (c.Op == 20))] (sp 84 (fun X => ?_) fun X => ?_))
   ·refine pu 4 [(81, B true)] (nl ?_)
    exact QW.say 81 (v := B ((c.Op == 20) || (c.Op == 22))) rfl (by rw [X]; try rfl) (me fun a d => ⟨d.ag, b.k [1, 2]⟩)
   refine pu 4 [(81, B (c.Op == 22))] (nl ?_)
   exact QW.say 81 (v := B ((c.Op == 20) || (c.Op == 22))) rfl (by rw [X]; try rfl) (me fun a d => ⟨d.ag, b.k [1, 2]⟩)
  ·refine rg (pu 2 [(88, Sl z (u).length y), (89, Po q 2)] ((ld b 0) ((be s) fun b1 Y s => ?_)))
   obtain ⟨b2, b3, cj, ai⟩ := Q.formv (fun _ => ⟨_, rfl⟩) Y
   refine (ix 156 4 Y ai) (pu 1 [(92, .pointer (some ⟨b2, b3 + Int.toNat c.A * 4, none⟩))] ?_)
   refine OW.ld rfl rfl rfl rfl (by kernel_rfl) (Q.cellv b Y ai 0 _ rfl) ?_
   refine pu 1 [(94, B (b1.Ki != 1))] (nx (br s (fun s bi => ?_) fun s bi => ?_))
   ·refine rg (pu 1 [(8, I 33)] (nx (rt (bt (tr ?_)))))
    obtain rfl := ij s
    obtain rfl := ij h
    exact r1 (K _ (b.k []))
   refine sk (bn ?_)
   obtain rfl := ij s
   exact me fun a d => ⟨(), rfl, d.ag, b.k [1]⟩
  refine sq ((be s) fun b4 o s => ?_)
  refine ck (fun a l => Rep 123 [(2, Sl z (u).length y), (3, Sl C (J).length E), (10, I c.Op), (11, Pt i), (38, B b4)] a /\ St w Z l [zs i 156 [I f.Ki, U f.Sp.Lo, U f.Sp.Hi, I f.Map]]) ?_ fun a l ⟨d, b⟩ => go d (br s (fun s bj => ?_) fun s bj => ?_)
  ·refine rn (pu 2 [(27, Sl z (u).length y), (28, Po q 2)] ((ld b 0) ((be o) fun b5 aa o => ?_)))
   obtain ⟨b6, b7, cl, aj⟩ := Q.formv (fun _ => ⟨_, rfl⟩) aa
   refine (ix 156 4 aa aj) (pu 1 [(31, .pointer (some ⟨b6, b7 + Int.toNat c.A * 4, none⟩))] ?_)
   refine OW.ld rfl rfl rfl rfl (by kernel_rfl) (Q.cellv b aa aj 0 _ rfl) ?_
   refine pu 2 [(34, B (b5.Ki != 1))] (si 34 o (fun o bk => ?_) fun o bk => ?_)
   ·refine pu 4 [(38, B true)] (nl ?_)
    obtain rfl := ij o
    exact me fun a d => ⟨d.ag, b.k [1]⟩
   refine pu 1 [(35, Pt i)] ((ld b 1) (pu 2 [(38, B (f.Ki != 1))] (nl ?_)))
   obtain rfl := ij o
   exact me fun a d => ⟨d.ag, b.k [1]⟩
  ·refine rg (pu 1 [(8, I 33)] (nx (rt (bt (tr ?_)))))
   obtain rfl := ij s
   obtain rfl := ij h
   exact r1 (K _ (b.k []))
  refine sk (bn ?_)
  obtain rfl := ij s
  exact me fun a d => ⟨(), rfl, d.ag, b.k [0]⟩
 rintro a l ⟨t156, rfl, d, b⟩
 refine go d (sq (sq ?_))
 refine ck (fun a l => Rep 123 [(2, Sl z (u).length y), (3, Sl C (J).length E), (10, I c.Op), (106, B (((c.Op == 11) || (c.Op == 12)) && decide (f.Sp.Hi > 15)))] a /\ St w Z l []) ?_ fun a l ⟨d, b⟩ => go d (br h (fun h bm => ?_) fun h bm => ?_)
 ·refine rn (pu 3 [(97, B (c.Op == 11))] (sp 97 (fun F => ?_) fun F => ?_))
  ·refine pu 6 [(101, B true), (103, Po i 2)] ((ld b 0) (pu 2 [(106, B (decide (f.Sp.Hi > 15)))] (nl ?_)))
   exact QW.say 106 (v := B (((c.Op == 11) || (c.Op == 12)) && decide (f.Sp.Hi > 15))) rfl (by rw [F]; try rfl) (me fun a d => ⟨d.ag, b.k []⟩)
  refine pu 4 [(101, B (c.Op == 12))] (sp 101 (fun ab => ?_) fun ab => ?_)
  ·refine pu 2 [(103, Po i 2)] ((ld b 0) (pu 2 [(106, B (decide (f.Sp.Hi > 15)))] (nl ?_)))
   exact QW.say 106 (v := B (((c.Op == 11) || (c.Op == 12)) && decide (f.Sp.Hi > 15))) rfl (by rw [F, ab]; try rfl) (me fun a d => ⟨d.ag, b.k []⟩)
  refine pu 5 [(106, B false)] (nl ?_)
  exact QW.say 106 (v := B (((c.Op == 11) || (c.Op == 12)) && decide (f.Sp.Hi > 15))) rfl (by rw [F, ab]; try rfl) (me fun a d => ⟨d.ag, b.k []⟩)
 ·refine rg (pu 1 [(8, I 35)] (nx (rt (tr ?_))))
  obtain rfl := ij h
  exact r1 (K _ (b.k []))
 refine sn (sq (rg (pu 2 [(108, B (c.Op == 20))] (nx (br h (fun h bo => ?_) fun h bo => ?_)))))
 ·refine rg (pu 1 [(13, I 0)] (nx ((be h) fun av bp h => ?_)))
  refine ck (fun a l => ∃ (t363 : Unit), av = .inl t363 /\ Rep 123 [] a /\ St w Z l []) ?_ ?_
  ·refine bl ?_
   refine CW.loop (fun n a l => ∃ (m : Nat) (af : Unit), m + n = 8 /\ Rep 123 [(2, Sl z (u).length y), (3, Sl C (J).length E), (13, I (m : Int))] a /\ St w Z l [] /\ zQ (qK u J) (fun (af : Unit) => (.inl ())) n m af = some av) 8 (fun a d => ⟨0, (), Nat.zero_add _, d.ag, b.keep [] rfl, bp⟩) ?_
   rintro M a l ⟨m, af, ac, d, b, g⟩
   refine go d (sq (rg (pu 2 [(110, B (decide ((m : Int) < 8)))] (nx ?_))))
   rcases zft (decide ((m : Int) < 8)) with t | t
   ·rcases M with _ | M
    ·exact (zb0 ac t).elim
    refine ct t (sn (sq (bl (sq ?_))))
    refine CW.tail 8 (by kernel_rfl) (by kernel_rfl) ?_
    intro cm aw
    have b := b.same aw
    refine op' 2 [(113, Sl z (u).length y), (114, I (m : Int))] ((be g) fun b8 G g => ?_)
    obtain ⟨cn, co, cp, ak⟩ := Q.formv (fun _ => ⟨_, rfl⟩) G
    refine OS.idx 156 4 rfl rfl rfl rfl rfl ak rfl (zh G).1 (zh G).2.1 (by kernel_rfl) (by kernel_rfl) ?_
    refine OS.ldN (cs := zb b8) rfl rfl rfl rfl rfl (by kernel_rfl) (by kernel_rfl) (Q.cellv b G ak) ?_
    refine op' 2 [(117, Sl C (J).length E), (118, I (m : Int))] ((be g) fun b9 H g => ?_)
    obtain ⟨cq, cr, cu, am⟩ := h3.formv (fun _ => ⟨_, rfl⟩) H
    refine OS.idx 156 4 rfl rfl rfl rfl rfl am rfl (zh H).1 (zh H).2.1 (by kernel_rfl) (by kernel_rfl) ?_
    refine OS.ldN (cs := zb b9) rfl rfl rfl rfl rfl (by kernel_rfl) (by kernel_rfl) (h3.cellv b H am) ?_
    refine OS.on ?_
    refine (be g) fun ca bq g => (fn) (zeX bq (b.p []) fun cv ax => ⟨_, rfl, have b := b.j [] [] ax; pu 1 [(122, B (!ca))] (nx (br g (fun g bs => ?_) fun g bs => ?_))⟩)
    ·refine rg (pu 1 [(8, I 33)] (nx (rt (bt (tr (tr (bt (tr ?_))))))))
     obtain rfl := ij g
     obtain rfl := ij h
     exact r1 (K _ (b.k []))
    refine sk (bn (qn (rn (pu 3 [(13, I (w64 ((m : Int) + 1)))] (nl ?_)))))
    refine QW.say 13 rfl (congrArg (Value.int .i64) (zq t (by decide))) ?_
    exact me fun a d => ⟨M, zls _, m + 1, (), zm ac, d.ag, b.k [], g⟩
   rcases M with _ | M
   ·refine cf t (ex (te (te (bh ?_))))
    obtain rfl := ij g
    exact me fun a d => ⟨(), rfl, d.ag, b.k []⟩
   exact (zb1 ac t).elim
  rintro a l ⟨t363, rfl, d, b⟩
  refine go d (rg (pu 1 [(8, I 0)] (nx (rt ?_))))
  obtain rfl := ij h
  exact r1 (K _ (b.k []))
 refine sn (rg (pu 1 [(8, I 0)] (nx (rt ?_))))
 obtain rfl := ij h
 exact r1 (K _ (b.k []))
theorem zfx {w Z fu aa ab l r R} (m : vO fu l = some r) (s : St w Z w []) (y : Rd w Z aa (zx .i64) 1 l.Ms) (i : Rd w Z ab zj 5 l.Co)
  (K : ∀ (x0 : Value) (bg : List Nat) w', St w Z w' [nI 126 jZ x0 bg r.1 none] -> R (Rt (.tuple #[x0, I r.2.1, I r.2.2])) w') : Calls Tryz.prog 30 [Ag [aa, ab]].toArray w R := by
 refine sr 73 Tryz.func30 rfl ?_
 obtain ⟨l1, a2, c3, rfl⟩ := y.len
 obtain ⟨l4, a5, c6, rfl⟩ := i.len
 refine rg ((bx s [Sl a2 (l.Ms).length c3, Sl a5 (l.Co).length c6]) fun F cc s => pu 3 [] (nx (sq (rg (pu 1 [(12, Pt F)] ((ld s 0) ((be m) fun r15 a3 m => (fn) (ze1 a3 (s.p []) (y.give s []) fun cd ao => ⟨_, rfl, have s := s.j [] [0] ao; pu 1 [(15, B (!r15))] (nx (br m (fun m a4 => ?_) fun m a4 => ?_))⟩))))))))
 ·refine rg (pu 3 [(2, Sn), (3, I 0), (4, I 2)] (nx (rt (tr ?_))))
  have s := s.nNil 126 jZ none
  obtain rfl := ij m
  exact QW.ret3 rfl rfl rfl rfl (K (Sn) ([]) _ (s.k [1]))
 refine sn (rg (pu 1 [(17, Po F 1)] ((ld s 0) ((be m) fun r24 a6 m => (fn) (zez a6 (s.p []) (i.give s []) fun ce ap => ⟨_, rfl, have s := s.j [] [0] ap; pu 5 [(5, I r24.1), (6, I r24.2)] (nx (sq (rg (pu 2 [(23, B (r24.2 != 0))] (nx (br m (fun m a7 => ?_) fun m a7 => ?_))))))⟩)))))
 ·refine rg (pu 5 [(2, Sn), (3, I r24.1), (4, I r24.2)] (nx (rt (tr ?_))))
  have s := s.nNil 126 jZ none
  obtain rfl := ij m
  exact QW.ret3 rfl rfl rfl rfl (K (Sn) ([]) _ (s.k [1]))
 refine sn (rg (pu 1 [(7, Sn)] (nx (sq (rg (pu 1 [(8, I 0)] (nx ((be m) fun ac aq m => ?_))))))))
 refine ck (fun a w1 => ∃ (t387 : (List (List za))) (G : Value) (H : List Nat), ac = .inl t387 /\ Rep 73 [(7, G)] a /\ St w Z w1 [nI 126 jZ G H t387 none]) ?_ ?_
 ·refine bl ?_
  have s := s.nNil 126 jZ none
  refine CW.loop (fun n a w1 => ∃ (c : Nat) (d : (List (List za))) (J : Value) (M : List Nat), c + n = (l.Co).length /\ Rep 73 [(1, Pt F), (7, J), (8, I (c : Int))] a /\ St w Z w1 [zs F 25 [Sl a2 (l.Ms).length c3, Sl a5 (l.Co).length c6], nI 126 jZ J M d none] /\ zQ (qm fu l) (fun (d : (List (List za))) => (.inl d)) n c d = some ac) (l.Co).length (fun a x => ⟨0, ([] : List (List za)), (Sn), ([]), Nat.zero_add _, x.ag, s.keep [0, 1] rfl, aq⟩) ?_
  rintro q a w1 ⟨c, d, J, M, v, x, s, b⟩
  refine go x ?_
  obtain ⟨bi, O, Q, rfl⟩ := s.nq 1
  refine sq (rg (pu 2 [(26, I (c : Int)), (27, Po F 1)] ((ld s 0) (pu 2 [(30, B (decide ((c : Int) < ((l.Co).length : Int))))] (nx ?_)))))
  rcases zft (decide ((c : Int) < ((l.Co).length : Int))) with g | g
  ·rcases q with _ | q
   ·exact (zb0 v g).elim
   refine ct g (sn (sq (bl (rg ((lN [Sl a2 (l.Ms).length c3, Sl a5 (l.Co).length c6] (s.blkN 0 rfl 0 2)) (pu 2 [(34, I (c : Int)), (35, Sl O (d).length Q)] ((be b) fun f ar b => (fn) (zfT ar (s.p []) (y.give s []) (i.give s []) (s.seeN (R := jZ) 1 rfl [] rfl) fun bj w641 ad => ⟨_, rfl, have s := s.j [] [0, 1] ad; ?_⟩))))))))
   obtain ⟨bk, t, u, rfl⟩ := s.le 0
   refine pu 1 [(9, Sl t (f).length u)] (nx (rg (pu 2 [(37, Sl O (d).length Q), (38, Sl t (f).length u)] (have s := s.ti 0; ?_))))
   refine OW.row (α := List Value) (e := 126) (enc := fit 1) (sz := 1) s rfl rfl rfl [[Sl t (f).length u]] rfl (fun _ => xT _ _) rfl rfl (fun _ => by kernel_rfl) ?_
   intro bm bo s
   refine have s := s.t1 0; ?_
   have s := s.nOneH 3 jZ f rfl rfl rfl
   refine (be b) fun bp au b => ?_
   refine OW.appNH s 2 3 rfl rfl rfl rfl rfl rfl rfl rfl rfl rfl (by kernel_rfl) zlU (jR au) (fun _ _ _ _ h => zge h) ?_
   intro bq bs bu s
   refine have s := s.k [0, 1, 2]; ?_
   obtain ⟨bv, z, A, rfl⟩ := s.nq 2
   refine pu 1 [(7, Sl z ((d ++ [f])).length A)] (nx (sq (rg (pu 3 [(43, B (((f).length : Int) == 0))] (nx (br b (fun b av => ?_) fun b av => ?_))))))
   ·refine ex (te (bh (qn (rn (pu 3 [(8, I (w64 ((c : Int) + 1)))] (nl (have s := s.ti 0; ?_)))))))
    obtain ⟨a8, s⟩ := s.nback0 2 0 rfl rfl rfl (zfc d f)
    refine have s := s.k [1, 2]; ?_
    refine QW.say 8 rfl (congrArg (Value.int .i64) (zq g l4)) ?_
    exact me fun a x => ⟨q, zls _, c + 1, (d ++ [f]), (Sl z ((d ++ [f])).length A), a8, zm v, x.ag, s.k [0, 1], b⟩
   refine sn (rg (pu 2 [(10, Sl t (f).length u)] (nx (sq (rg (pu 1 [(45, Po F 1)] ((ld s 1) (pu 1 [(47, I (c : Int))] ((be b) fun ae o b => ?_)))))))))
   obtain ⟨a9, ba, bw, W⟩ := i.formv (fun _ => ⟨_, rfl⟩) o
   refine (ix 43 5 o W) (pu 1 [(49, .pointer (some ⟨a9, ba + Int.toNat (c : Int) * 5, none⟩))] ?_)
   refine OW.ld rfl rfl rfl rfl (by kernel_rfl) (i.cellv s o W 0 _ rfl) ?_
   refine pu 1 [(51, B (ae.Op == 20))] (nx (br b (fun b aw => ?_) fun b aw => ?_))
   ·refine rn (pu 3 [(52, Sl z ((d ++ [f])).length A), (53, I (c : Int)), (54, Po F 1)] ((ld s 1) (pu 1 [(56, I (c : Int))] ?_)))
    obtain ⟨bb, bc, bz, X⟩ := i.formv (fun _ => ⟨_, rfl⟩) o
    refine (ix 43 5 o X) (pu 1 [(58, .pointer (some ⟨bb, bc + Int.toNat (c : Int) * 5 + 1, none⟩))] ?_)
    refine OW.ld rfl rfl rfl rfl (by kernel_rfl) (i.cellv s o X 1 _ rfl) ?_
    refine pu 1 [(60, I (w64 ((c : Int) - ae.D)))] ((be b) fun af C b => ?_)
    obtain ⟨b0, b1, b2, Y⟩ := s.nrowv 2 rfl C
    refine (ix 126 1 C Y) ((be b) fun b3 ax b => ?_)
    obtain ⟨b4, ah, E⟩ := s.nview 2 rfl C (fun _ _ e => by cases e; exact zlh ax) Y
    obtain ⟨b5, ai, aj, rfl⟩ := (E [] (fun _ _ => znm)).len
    refine OW.ld rfl rfl rfl rfl (by kernel_rfl) ah ?_
    refine pu 1 [(10, Sl ai (af).length aj)] (nx (rg ((lN [Sl a2 (l.Ms).length c3, Sl a5 (l.Co).length c6] (s.blkN 1 rfl 0 2)) (pu 3 [(64, I (c : Int)), (65, Sl t (f).length u), (66, Sl ai (af).length aj)] ((be b) fun T ay b => (fn) (zcc ay (s.p []) (y.give s []) (i.give s []) (s.rd 0 rfl (fun _ => rfl) [] rfl (s.len 0 rfl).1) (E _ (s.noin 2 rfl [] rfl)) fun b6 ak => ⟨_, rfl, have s := s.j [] [0, 1, 2] ak; pu 1 [(11, I T)] (nx (rg (pu 2 [(69, B (T != 0))] (nx (br b (fun b az => ?_) fun b az => ?_)))))⟩))))))
    ·refine rg (pu 5 [(2, Sn), (3, I (c : Int)), (4, I T)] (nx (rt (bt (tr (tr (bt (tr (have s := s.ti 0; ?_)))))))))
     obtain ⟨b7, s⟩ := s.nback0 2 0 rfl rfl rfl (zfc d f)
     refine have s := s.k [1, 2]; ?_
     have s := s.nNil 126 jZ none
     obtain rfl := ij b
     obtain rfl := ij m
     exact QW.ret3 rfl rfl rfl rfl (K (Sn) ([]) _ (s.k [2]))
    refine sk (bn (qn (rn (pu 3 [(8, I (w64 ((c : Int) + 1)))] (nl (have s := s.ti 0; ?_))))))
    obtain ⟨bd, s⟩ := s.nback0 2 0 rfl rfl rfl (zfc d f)
    refine have s := s.k [1, 2]; ?_
    refine QW.say 8 rfl (congrArg (Value.int .i64) (zq g l4)) ?_
    exact me fun a x => ⟨q, zls _, c + 1, (d ++ [f]), (Sl z ((d ++ [f])).length A), bd, zm v, x.ag, s.k [0, 1], b⟩
   refine sn (rg ((lN [Sl a2 (l.Ms).length c3, Sl a5 (l.Co).length c6] (s.blkN 1 rfl 0 2)) (pu 3 [(64, I (c : Int)), (65, Sl t (f).length u), (66, Sl t (f).length u)] ((be b) fun V a0 b => (fn) (zcc a0 (s.p []) (y.give s []) (i.give s []) (s.rd 0 rfl (fun _ => rfl) [] rfl (s.len 0 rfl).1) (s.rd 0 rfl (fun _ => rfl) [] rfl (s.len 0 rfl).1) fun b8 al => ⟨_, rfl, have s := s.j [] [0, 1, 2] al; pu 1 [(11, I V)] (nx (rg (pu 2 [(69, B (V != 0))] (nx (br b (fun b a1 => ?_) fun b a1 => ?_)))))⟩)))))
   ·refine rg (pu 5 [(2, Sn), (3, I (c : Int)), (4, I V)] (nx (rt (bt (tr (tr (bt (tr (have s := s.ti 0; ?_)))))))))
    obtain ⟨ca, s⟩ := s.nback0 2 0 rfl rfl rfl (zfc d f)
    refine have s := s.k [1, 2]; ?_
    have s := s.nNil 126 jZ none
    obtain rfl := ij b
    obtain rfl := ij m
    exact QW.ret3 rfl rfl rfl rfl (K (Sn) ([]) _ (s.k [2]))
   refine sk (bn (qn (rn (pu 3 [(8, I (w64 ((c : Int) + 1)))] (nl (have s := s.ti 0; ?_))))))
   obtain ⟨bf, s⟩ := s.nback0 2 0 rfl rfl rfl (zfc d f)
   refine have s := s.k [1, 2]; ?_
   refine QW.say 8 rfl (congrArg (Value.int .i64) (zq g l4)) ?_
   exact me fun a x => ⟨q, zls _, c + 1, (d ++ [f]), (Sl z ((d ++ [f])).length A), bf, zm v, x.ag, s.k [0, 1], b⟩
  rcases q with _ | q
  ·refine cf g (ex (te (te (bh ?_))))
   obtain rfl := ij b
   exact me fun a x => ⟨d, (Sl O (d).length Q), M, rfl, x.ag, s.k [1]⟩
  exact (zb1 v g).elim
 rintro a w1 ⟨t387, G, H, rfl, x, s⟩
 refine go x ?_
 obtain ⟨cb, am, an, rfl⟩ := s.nq 0
 refine rg (pu 4 [(2, Sl am (t387).length an), (3, I 0), (4, I 0)] (nx (rt ?_)))
 obtain rfl := ij m
 exact QW.ret3 rfl rfl rfl rfl (K (Sl am (t387).length an) H _ (s.k [0]))
theorem zcU {w Z c j a r R} (d : xN a = some r) (s : St w Z w [itI zb2 [c] j a])
  (K : ∀ (l : List Nat) w', St w Z w' [itI zb2 [c] l r] -> R (Rt (.tuple #[])) w') : Calls Tryz.prog 31 [c].toArray w R := by
 refine sr 12 Tryz.func31 rfl ?_
 obtain ⟨b, rfl⟩ := s.fq 0
 obtain ⟨y, z, s⟩ := s.o1 0
 refine have s := s.t1 1; ?_
 obtain ⟨A, m, n, rfl⟩ := s.le 1
 have s : St _ _ _ [zs b 64 [Sl m (a.Ak).length n], _] := s
 refine rn (pu 4 [(2, Pt b), (5, Pt b)] ((ld s 0) (pu 1 [(7, Ag [I 2, I 0, U 0])] ?_)))
 refine OW.row (α := zl) (e := 100) (enc := xo) (sz := 3) s rfl rfl rfl [(zl.mk 2 0 0)] rfl (fun _ => rfl) rfl rfl (fun _ => by kernel_rfl) ?_
 intro o p s
 refine (be d) fun q f d => ?_
 refine OW.app s 1 rfl (fun _ => rfl) (fun _ => rfl) rfl rfl rfl rfl rfl rfl (by kernel_rfl) zm2 (s.rd 2 rfl (fun _ => rfl) [] rfl (s.len 2 rfl).1) (jR f) ?_
 intro t u s
 obtain ⟨v, g, h, rfl⟩ := s.le 1
 refine pu 2 [(11, Pt b)] ((st s 0 [Sl g ((a.Ak ++ [(zl.mk 2 0 0)])).length h]) fun x s => nl (have s := s.ti 1; ?_))
 obtain ⟨i, s⟩ := s.s1 ze5 0 1 [2] (zk.mk (a.Ak ++ [(zl.mk 2 0 0)]))
 obtain rfl := ij d
 exact QW.end0 rfl (K i _ (s.k [1]))
theorem zfy {w Z wb Sb fu y z c d v2 S2 p2 r R} (g : vi fu c d p2 = some r) (s : St w Z w [itI zb2 [v2] S2 p2]) (hb : Bor wb Sb w Z) (h : Rd wb Sb y (zx .i64) 1 c.Ms) (l : Rd wb Sb z zj 5 c.Co)
  (K1 : ∀ (k0 : zf) (y0 : Value) (z0 : List Nat) w', r.1 = some k0 -> St w Z w' [itI (zc1 wb Sb) [y0] z0 k0] -> R (Rt (.tuple #[y0, I r.2])) w') (K2 : ∀ w', r.1 = none -> St w Z w' [] -> R (Rt (.tuple #[.pointer none, I r.2])) w') : Calls Tryz.prog 17 [Ag [y, z], Ag [U d.A, U d.B], v2].toArray w R := by
 refine sr 29 Tryz.func17 rfl ?_
 have h0_0b := h.bor hb
 have h0_1b := l.bor hb
 obtain ⟨l1, m, n, rfl⟩ := h0_0b.len
 obtain ⟨l4, o, q, rfl⟩ := h0_1b.len
 obtain ⟨x, rfl⟩ := s.fq 0
 refine rg ((bx s [Sl m (c.Ms).length n, Sl o (c.Co).length q]) fun af ah s => (bx s [U d.A, U d.B]) fun ai aj s => pu 2 [] (nx (rg ((lN [Sl m (c.Ms).length n, Sl o (c.Co).length q] (s.blkN 1 rfl 0 2)) ((be g) fun r24 W g => (fn) (zfx W (s.p []) (h0_0b.give s []) (h0_1b.give s []) fun ak ae al E => ⟨_, rfl, have s := s.j [] [0, 1, 2] E; ?_⟩))))))
 obtain ⟨am, an, ao, rfl⟩ := s.nq 0
 refine pu 7 [(10, I r24.2.2)] (nx (sq (rg (pu 2 [(18, B (r24.2.2 != 0))] (nx (br g (fun g X => ?_) fun g X => ?_))))))
 ·refine rg (pu 3 [(6, .pointer none), (7, I r24.2.2)] (nx (rt (tr ?_))))
  obtain rfl := ij g
  exact r2 (K2 _ rfl (s.k []))
 refine sn (rg (pu 1 [(20, Pt x)] ((be g) fun H Y g => (fn) (zcU Y (s.p [1]) fun aq ar F => ⟨_, rfl, have s := s.j [1] [0, 2, 3] F; nx (sq ((be g) fun ab b g => ?_))⟩))))
 refine ck (fun a w1 => ∃ (v : Nat) (C : List Nat), Rep 29 [(6, Pt v), (7, I 0)] a /\ St w Z w1 [itI (zc1 wb Sb) [Pt v] C ab]) ?_ fun a w1 ⟨v, C, D, s⟩ => go D (rt ?_)
 ·refine CW.plan (by kernel_rfl) ?_
  intro au G
  have s := s.same G
  refine OA.ldN (i := 0) (cs := [Sl m (c.Ms).length n, Sl o (c.Co).length q]) rfl (by kernel_rfl) rfl rfl rfl (by kernel_rfl) (by kernel_rfl) (s.blkN 2 rfl 0 2) ?_
  refine OA.ldN (i := 1) (cs := [U d.A, U d.B]) rfl (by kernel_rfl) rfl rfl rfl (by kernel_rfl) (by kernel_rfl) (s.blkN 3 rfl 0 2) ?_
  refine ap [2] [(24, Pt x)] ?_
  refine OA.acts [3, 4] 3 (by kernel_rfl) (by kernel_rfl) (by kernel_rfl) (qR ?_ (qR ?_ zbD))
  ·refine Alt.of (i := 3) [1, 0] rfl rfl (by kernel_rfl) (by kernel_rfl) ?_
   refine (be b) fun e t b => ?_
   refine OW.make (enc := zx .u64) (sz := 1) s rfl rfl rfl rfl rfl (by kernel_rfl) zn7 0 (by kernel_rfl) (fun _ => rfl) t ?_
   intro J av s
   refine OA.next ⟨(s.blkN 3 rfl 0 2), (s.blkN 2 rfl 0 2), trivial⟩ ?_
   refine (aa 4 [1, 0]) ((be b) fun f u b => ?_)
   refine OW.make (enc := zx .i64) (sz := 1) s rfl rfl rfl rfl rfl (by kernel_rfl) el2 0 (by kernel_rfl) (fun _ => rfl) u ?_
   intro M aw s
   refine OA.next ⟨(s.blkN 3 rfl 0 2), (s.blkN 2 rfl 0 2), trivial⟩ ?_
   refine ap [5] [(27, Ag [Sl m (c.Ms).length n, Sl o (c.Co).length q, U d.A, U d.B, Pt x, .slice (some ⟨J, 0, none⟩) e e, .slice (some ⟨M, 0, none⟩) f f, I 0, I 0, I 0])] ((aa 6 []) ((bx s [Sl m (c.Ms).length n, Sl o (c.Co).length q, U d.A, U d.B, Pt x, .slice (some ⟨J, 0, none⟩) e e, .slice (some ⟨M, 0, none⟩) f f, I 0, I 0, I 0]) fun O ax s => ?_))
   refine OA.next trivial ?_
   refine (aa 7 []) (pu 1 [(6, Pt O)] ?_)
   refine OA.next trivial ?_
   refine (aa 8 []) (pu 1 [(7, I 0)] ?_)
   refine OA.next trivial ?_
   refine aF ?_
   have s := s.borIn h
   have s := s.borIn l
   refine have s := s.ti 4; have s := s.ti 5; ?_
   obtain ⟨ac, s⟩ := s.s5 (vV wb Sb) 6 7 8 0 4 5 [1, 2, 3] (zf.mk c d H (List.replicate e 0) (List.replicate f 0) 0 0 0)
   obtain rfl := ij b
   exact me fun a D => ⟨O, ac, D.ag, s.k [3]⟩
  refine (be b) fun e t b => (be b) fun f u b => ?_
  refine Alt.of (i := 4) [1, 0] rfl rfl (by kernel_rfl) (by kernel_rfl) ?_
  refine OW.make (enc := zx .i64) (sz := 1) s rfl rfl rfl rfl rfl (by kernel_rfl) el2 0 (by kernel_rfl) (fun _ => rfl) u ?_
  intro Q ay s
  refine OA.next ⟨(s.blkN 3 rfl 0 2), (s.blkN 2 rfl 0 2), trivial⟩ ?_
  refine (aa 3 [1, 0]) ?_
  refine OW.make (enc := zx .u64) (sz := 1) s rfl rfl rfl rfl rfl (by kernel_rfl) zn7 0 (by kernel_rfl) (fun _ => rfl) t ?_
  intro T az s
  refine OA.next ⟨(s.blkN 3 rfl 0 2), (s.blkN 2 rfl 0 2), trivial⟩ ?_
  refine ap [5] [(27, Ag [Sl m (c.Ms).length n, Sl o (c.Co).length q, U d.A, U d.B, Pt x, .slice (some ⟨T, 0, none⟩) e e, .slice (some ⟨Q, 0, none⟩) f f, I 0, I 0, I 0])] ((aa 6 []) ((bx s [Sl m (c.Ms).length n, Sl o (c.Co).length q, U d.A, U d.B, Pt x, .slice (some ⟨T, 0, none⟩) e e, .slice (some ⟨Q, 0, none⟩) f f, I 0, I 0, I 0]) fun V a0 s => ?_))
  refine OA.next trivial ?_
  refine (aa 7 []) (pu 1 [(6, Pt V)] ?_)
  refine OA.next trivial ?_
  refine (aa 8 []) (pu 1 [(7, I 0)] ?_)
  refine OA.next trivial ?_
  refine aF ?_
  have s := s.borIn h
  have s := s.borIn l
  refine have s := s.ti 5; have s := s.ti 4; ?_
  obtain ⟨ad, s⟩ := s.s5 (vV wb Sb) 6 7 8 0 5 4 [1, 2, 3] (zf.mk c d H (List.replicate e 0) (List.replicate f 0) 0 0 0)
  obtain rfl := ij b
  exact me fun a D => ⟨V, ad, D.ag, s.k [3]⟩
 obtain rfl := ij g
 exact r2 (K1 _ (Pt v) C _ rfl (s.k [0]))
theorem zcx {w Z fu M E g h r R} (o : xB fu g h = some r) (s : St w Z w [itI zb2 [M] E g])
  (K : ∀ (s0 : List Nat) w', St w Z w' [itI zb2 [M] s0 g] -> R (Rt (.tuple #[U r.1, I r.2])) w') : Calls Tryz.prog 102 [M, I h].toArray w R := by
 refine sr 55 Tryz.func102 rfl ?_
 obtain ⟨i, rfl⟩ := s.fq 0
 refine rg (pu 2 [] (nx (sq (sq ?_))))
 refine ck (fun a j => Rep 55 [(0, Pt i), (1, I h), (13, B (decide (h < 0) || decide (h > 15)))] a /\ St w Z j [itI zb2 [Pt i] E g]) ?_ fun a j ⟨d, s⟩ => go d (br o (fun o aj => ?_) fun o aj => ?_)
 ·refine rn (pu 3 [(10, B (decide (h < 0)))] (sp 10 (fun z => ?_) fun z => ?_))
  ·refine pu 3 [(13, B true)] (nl ?_)
   exact QW.say 13 (v := B (decide (h < 0) || decide (h > 15))) rfl (by rw [z]; try rfl) (me fun a d => ⟨d.ag, s.k [0]⟩)
  refine pu 3 [(13, B (decide (h > 15)))] (nl ?_)
  exact QW.say 13 (v := B (decide (h < 0) || decide (h > 15))) rfl (by rw [z]; try rfl) (me fun a d => ⟨d.ag, s.k [0]⟩)
 ·refine rg (pu 2 [(4, U 0), (5, I 35)] (nx (rt (tr ?_))))
  obtain rfl := ij o
  exact r2 (K E _ (s.k [0]))
 refine sn (rg (pu 1 [(6, U 0)] (nx (sq (rg (pu 1 [(7, I 0)] (nx ((be o) fun p F o => ?_))))))))
 refine ck (fun a j => ∃ (q : List Nat), Rep 55 [(6, U p)] a /\ St w Z j [itI zb2 [Pt i] q g]) ?_ fun a j ⟨q, d, s⟩ => go d (rg (pu 3 [(4, U p), (5, I 0)] (nx (rt ?_))))
 ·refine bl ?_
  refine CW.loop (fun n a j => ∃ (b : Int × Int) (A : List Nat), Rep 55 [(0, Pt i), (1, I h), (6, U b.1), (7, I b.2)] a /\ St w Z j [itI zb2 [Pt i] A g] /\ loop (zB g h) n b = some p) fu (fun a d => ⟨(0, 0), E, d.ag, s.keep [0] rfl, F⟩) ?_
  rintro l a j ⟨b, A, d, s, c⟩
  rcases l with _ | l
  ·exact (jX c).elim
  refine go d (sq (sq ?_))
  obtain ⟨ak, al, s⟩ := s.o1 0
  refine have s := s.t1 1; ?_
  obtain ⟨am, O, Q, rfl⟩ := s.le 1
  have s : St _ _ _ [zs i 64 [Sl O (g.Ak).length Q], _] := s
  refine rn (pu 4 [(14, I b.2), (17, Pt i)] ((ld s 0) (pu 2 [(20, B (decide (b.2 < ((g.Ak).length : Int))))] (nx (br c (fun c G => ?_) fun c G => ?_)))))
  ·refine sn (sq (bl (sq ((be c) fun T e c => ?_))))
   refine ck (fun a j => ∃ (t : List Nat), Rep 55 [(0, Pt i), (1, I h), (6, U b.1), (7, I b.2), (43, B T)] a /\ St w Z j [itI zb2 [Pt i] t g]) ?_ fun a j ⟨t, d, s⟩ => go d (br c (fun c H => ?_) fun c H => ?_)
   ·refine rn (pu 3 [(25, Pt i)] ((ld s 0) (pu 1 [(27, I b.2)] ((be e) fun C f e => ?_))))
    obtain ⟨V, W, an, u⟩ := s.rowv 1 rfl f
    refine (ix 100 3 f u) (pu 1 [(29, .pointer (some ⟨V, W + Int.toNat b.2 * 3, none⟩))] ?_)
    refine OW.ld rfl rfl rfl rfl (by kernel_rfl) (s.rowc 1 rfl (fun _ => rfl) f u 0 _ rfl) ?_
    refine pu 2 [(32, B (C.Ki == 3))] (si 32 e (fun e J => ?_) fun e J => ?_)
    ·refine pu 3 [(35, Pt i)] ((ld s 0) (pu 1 [(37, I b.2)] ?_))
     obtain ⟨X, Y, ao, x⟩ := s.rowv 1 rfl f
     refine (ix 100 3 f x) (pu 1 [(39, .pointer (some ⟨X, Y + Int.toNat b.2 * 3 + 1, none⟩))] ?_)
     refine OW.ld rfl rfl rfl rfl (by kernel_rfl) (s.rowc 1 rfl (fun _ => rfl) f x 1 _ rfl) ?_
     refine pu 3 [(43, B (C.At == h))] (nl (have s := s.ti 1; ?_))
     obtain ⟨aa, s⟩ := s.s1 ze5 0 1 [] g
     obtain rfl := ij e
     exact me fun a d => ⟨aa, d.ag, s.k [0]⟩
    refine pu 11 [(43, B false)] (nl (have s := s.ti 1; ?_))
    obtain ⟨ab, s⟩ := s.s1 ze5 0 1 [] g
    obtain rfl := ij e
    exact me fun a d => ⟨ab, d.ag, s.k [0]⟩
   ·obtain ⟨ap, aq, s⟩ := s.o1 0
    refine have s := s.t1 1; ?_
    obtain ⟨ar, ac, ad, rfl⟩ := s.le 1
    have s : St _ _ _ [zs i 64 [Sl ac (g.Ak).length ad], _] := s
    refine rn (pu 4 [(44, U b.1), (47, Pt i)] ((ld s 0) (pu 1 [(49, I b.2)] ((be c) fun D m c => ?_))))
    obtain ⟨ae, af, au, y⟩ := s.rowv 1 rfl m
    refine (ix 100 3 m y) (pu 1 [(51, .pointer (some ⟨ae, af + Int.toNat b.2 * 3 + 2, none⟩))] ?_)
    refine OW.ld rfl rfl rfl rfl (by kernel_rfl) (s.rowc 1 rfl (fun _ => rfl) m y 2 _ rfl) ?_
    refine pu 2 [(6, U (zp (b.1 + D.N)))] (nl (bn (qn (rn (pu 3 [(7, I (w64 (b.2 + 1)))] (nl (have s := s.ti 1; ?_)))))))
    obtain ⟨ah, s⟩ := s.s1 ze5 0 1 [] g
    exact me fun a d => ⟨l, zls _, (zp (b.1 + D.N), w64 (b.2 + 1)), ah, d.ag, s.k [0], c⟩
   exact sk (bn (qn (rn (pu 3 [(7, I (w64 (b.2 + 1)))] (nl (me fun a d => ⟨l, zls _, (b.1, w64 (b.2 + 1)), t, d.ag, s.k [0], c⟩))))))
  refine ex (te (te (bh (have s := s.ti 1; ?_))))
  obtain ⟨ai, s⟩ := s.s1 ze5 0 1 [] g
  obtain rfl := ij c
  exact me fun a d => ⟨ai, d.ag, s.k [0]⟩
 obtain rfl := ij o
 exact r2 (K q _ (s.k [0]))
theorem zcV {w Z fu m n f b r R} (c : jW fu f b = some r) (s : St w Z w [itI zb2 [m] n f])
  (K : ∀ (A : List Nat) w', St w Z w' [itI zb2 [m] A r.2.2] -> R (Rt (.tuple #[U r.1, I r.2.1])) w') : Calls Tryz.prog 64 [m, I b].toArray w R := by
 refine sr 28 Tryz.func64 rfl ?_
 obtain ⟨d, rfl⟩ := s.fq 0
 refine rg (pu 2 [] (nx (sq (sq ?_))))
 refine ck (fun a t => Rep 28 [(0, Pt d), (1, I b), (11, B (decide (b < 0) || decide (b > 15)))] a /\ St w Z t [itI zb2 [Pt d] n f]) ?_ fun a t ⟨g, s⟩ => go g (br c (fun c u => ?_) fun c u => ?_)
 ·refine rn (pu 3 [(8, B (decide (b < 0)))] (sp 8 (fun h => ?_) fun h => ?_))
  ·refine pu 3 [(11, B true)] (nl ?_)
   exact QW.say 11 (v := B (decide (b < 0) || decide (b > 15))) rfl (by rw [h]; try rfl) (me fun a g => ⟨g.ag, s.k [0]⟩)
  refine pu 3 [(11, B (decide (b > 15)))] (nl ?_)
  exact QW.say 11 (v := B (decide (b < 0) || decide (b > 15))) rfl (by rw [h]; try rfl) (me fun a g => ⟨g.ag, s.k [0]⟩)
 ·refine rg (pu 2 [(4, U 0), (5, I 35)] (nx (rt (tr ?_))))
  obtain rfl := ij c
  exact r2 (K n _ (s.k [0]))
 refine sn (sq ?_)
 obtain ⟨V, W, s⟩ := s.o1 0
 refine have s := s.t1 1; ?_
 obtain ⟨X, C, D, rfl⟩ := s.le 1
 have s : St _ _ _ [zs d 64 [Sl C (f.Ak).length D], _] := s
 refine rn (pu 4 [(12, Pt d), (15, Pt d)] ((ld s 0) (pu 2 [(18, Ag [I 3, I b, U 1])] ?_)))
 refine OW.row (α := zl) (e := 100) (enc := xo) (sz := 3) s rfl rfl rfl [(zl.mk 3 b 1)] rfl (fun _ => rfl) rfl rfl (fun _ => by kernel_rfl) ?_
 intro E F s
 refine (be c) fun G o c => ?_
 refine OW.app s 1 rfl (fun _ => rfl) (fun _ => rfl) rfl rfl rfl rfl rfl rfl (by kernel_rfl) zm2 (s.rd 2 rfl (fun _ => rfl) [] rfl (s.len 2 rfl).1) (jR o) ?_
 intro H J s
 obtain ⟨M, x, y, rfl⟩ := s.le 1
 refine pu 2 [(22, Pt d)] ((st s 0 [Sl x ((f.Ak ++ [(zl.mk 3 b 1)])).length y]) fun O s => nx (rg (pu 2 [(23, Pt d), (24, I b)] (have s := s.ti 1; ?_))))
 obtain ⟨Q, s⟩ := s.s1 ze5 0 1 [2] (zk.mk (f.Ak ++ [(zl.mk 3 b 1)]))
 refine (be c) fun l q c => (fn) (zcx q (s.p [1]) fun z T i => ⟨_, rfl, have s := s.j [1] [0] i; pu 4 [(4, U l.1), (5, I l.2)] (nx (rt ?_))⟩)
 obtain rfl := ij c
 exact r2 (K z _ (s.k [0]))
theorem qY {w Z wb Sb q v a r R} (x : zP a = some r) (s : St w Z w [itI (zc1 wb Sb) [q] v a]) (t : Bor wb Sb w Z)
  (K : ∀ (y : List Nat) w', St w Z w' [itI (zc1 wb Sb) [q] y r] -> R (Rt (.tuple #[])) w') : Calls Tryz.prog 39 [q].toArray w R := by
 refine sr 10 Tryz.func39 rfl ?_
 obtain ⟨d, rfl⟩ := s.fq 0
 obtain ⟨O, Q, T, V, W, X, Y, S9, z, C, s⟩ := s.o5 0
 have b := s.borOut 1 rfl
 have e := b.bor t
 have c := s.borOut 2 rfl
 have f := c.bor t
 refine have s := s.t1 4; have s := s.t1 5; have s := s.k [0, 3, 4, 5]; ?_
 obtain ⟨D, g, h, rfl⟩ := e.len
 obtain ⟨F, i, j, rfl⟩ := f.len
 obtain ⟨l, rfl⟩ := s.fq 1
 obtain ⟨G, m, n, rfl⟩ := s.le 2
 obtain ⟨H, o, p, rfl⟩ := s.le 3
 have s : St _ _ _ [zs d 73 [Sl g (a.M.Ms).length h, Sl i (a.M.Co).length j, U a.E.A, U a.E.B, Pt l, Sl m (a.Rg).length n, Sl o (a.Tu).length p, I a.At, I a.Steps, I a.Mode], _, _, _] := s
 refine rn (pu 4 [(2, Pt d), (5, Po d 7)] ((ld s 0) (pu 3 [(7, I (w64 (a.At + 1))), (9, Po d 7)] ((st s 0 [Sl g (a.M.Ms).length h, Sl i (a.M.Co).length j, U a.E.A, U a.E.B, Pt l, Sl m (a.Rg).length n, Sl o (a.Tu).length p, I (w64 (a.At + 1)), I a.Steps, I a.Mode]) fun J s => nl ?_))))
 have s := s.borIn b
 have s := s.borIn c
 refine have s := s.ti 2; have s := s.ti 3; ?_
 obtain ⟨u, s⟩ := s.s5 (vV wb Sb) 0 4 5 1 2 3 [] (zf.mk a.M a.E a.S a.Rg a.Tu (w64 (a.At + 1)) a.Steps a.Mode)
 obtain rfl := ij x
 exact QW.end0 rfl (K u _ (s.k [0]))
theorem zcy {w Z wb Sb fu v0 S0 b e c r R} (d : vx fu b e c = some r) (s : St w Z w [itI (zc1 wb Sb) [v0] S0 b]) (Q : Bor wb Sb w Z)
  (K : ∀ (s0 : List Nat) w', St w Z w' [itI (zc1 wb Sb) [v0] s0 r.2] -> R (Rt (Ag [I r.1.Ki, I r.1.Pc, I r.1.It.Map, I r.1.It.Op, U r.1.It.Key, U r.1.It.Val, U r.1.Val])) w') : Calls Tryz.prog 35 [v0, Ag [I e.Op, I e.D, I e.A, I e.B, I e.Imm], Ag [I c.Ki, I c.Pc, I c.It.Map, I c.It.Op, U c.It.Key, U c.It.Val, U c.Val]].toArray w R := by
 refine sr 100 Tryz.func35 rfl ?_
 obtain ⟨g, rfl⟩ := s.fq 0
 refine rg ((bx s [I e.Op, I e.D, I e.A, I e.B, I e.Imm]) fun b8 w9 s => (bx s [I c.Ki, I c.Pc, I c.It.Map, I c.It.Op, U c.It.Key, U c.It.Val, U c.Val]) fun h d6 s => (al s [I 0, I 0, I 0, I 0, U 0, U 0, U 0]) fun ac d7 s => nx (sq (bl (rg (pu 1 [(23, Po b8 4)] ((ld s 1) (pu 2 [(22, B (decide (e.Imm <= 4)))] (nx (br d (fun d bg => ?_) fun d bg => ?_)))))))))
 ·refine sq ?_
  obtain ⟨d8, d9, ea, eb, ec, cd, ed, ee, ef, eg, s⟩ := s.o5 0
  have q := s.borOut 4 rfl
  have t := q.bor Q
  have u := s.borOut 5 rfl
  have a8 := u.bor Q
  refine have s := s.t1 7; have s := s.t1 8; have s := s.k [0, 1, 2, 3, 6, 7, 8]; ?_
  obtain ⟨eh, ar, au, rfl⟩ := t.len
  obtain ⟨ei, av, aw, rfl⟩ := a8.len
  obtain ⟨ae, rfl⟩ := s.fq 4
  obtain ⟨ej, af, ah, rfl⟩ := s.le 5
  obtain ⟨ek, ai, aj, rfl⟩ := s.le 6
  have s : St _ _ _ [zs g 73 [Sl ar (b.M.Ms).length au, Sl av (b.M.Co).length aw, U b.E.A, U b.E.B, Pt ae, Sl af (b.Rg).length ah, Sl ai (b.Tu).length aj, I b.At, I b.Steps, I b.Mode], _, _, _, _, _, _] := s
  refine rn (pu 3 [(28, Po g 9)] ((st s 0 [Sl ar (b.M.Ms).length au, Sl av (b.M.Co).length aw, U b.E.A, U b.E.B, Pt ae, Sl af (b.Rg).length ah, Sl ai (b.Tu).length aj, I b.At, I b.Steps, I 1]) fun el s => nx (rg (pu 1 [(29, Pt h)] ((st s 2 [I 2, I c.Pc, I c.It.Map, I c.It.Op, U c.It.Key, U c.It.Val, U c.Val]) fun em s => nx (sq ?_))))))
  refine CW.tail 23 (by kernel_rfl) (by kernel_rfl) ?_
  intro en a9
  have s := s.same a9
  refine op' 4 [(33, Pt g)] ((od s 0) (op' 3 [(37, Po g 5)] ((od s 0) ((be d) fun eo x d => ?_))))
  obtain ⟨ep, eq, er, ax⟩ := s.rowv 5 rfl x
  refine OS.idx 26 1 rfl rfl rfl rfl rfl ax rfl (zh x).1 (zh x).2.1 (by kernel_rfl) (by kernel_rfl) ?_
  refine OS.ld rfl rfl rfl rfl rfl (by kernel_rfl) (s.rowc 5 rfl (fun _ => rfl) x ax 0 _ rfl) ?_
  refine (be d) fun l y d => ?_
  obtain ⟨es, et, eu, ay⟩ := t.formv (fun _ => ⟨_, rfl⟩) y
  refine OS.idx 3 1 rfl rfl rfl rfl rfl ay rfl (zh y).1 (zh y).2.1 (by kernel_rfl) (by kernel_rfl) ?_
  refine OS.ld rfl rfl rfl rfl rfl (by kernel_rfl) (t.cellv s y ay 0 _ rfl) ?_
  refine op' 1 [(43, Po b8 4)] ((od s 1) (op' 3 [(47, Po g 5)] ((od s 0) ((be d) fun m z d => ?_))))
  obtain ⟨ev, ew, ex, az⟩ := s.rowv 5 rfl z
  refine OS.idx 26 1 rfl rfl rfl rfl rfl az rfl (zh z).1 (zh z).2.1 (by kernel_rfl) (by kernel_rfl) ?_
  refine OS.ld rfl rfl rfl rfl rfl (by kernel_rfl) (s.rowc 5 rfl (fun _ => rfl) z az 0 _ rfl) ?_
  refine op' 2 [(51, Ag [I l, I e.Imm, U m, U 0]), (52, Po h 2)] ?_
  refine OS.on ?_
  refine (st s 2 [I 2, I c.Pc, I l, I e.Imm, U m, U 0, U c.Val]) fun ey s => nx (sq (sq ?_))
  refine ck (fun a w1 => Rep 100 [(0, Pt g), (5, Pt h), (6, Pt ac), (60, B ((e.Imm == 2) || (e.Imm == 4)))] a /\ St w Z w1 [zs g 73 [Sl ar (b.M.Ms).length au, Sl av (b.M.Co).length aw, U b.E.A, U b.E.B, Pt ae, Sl af (b.Rg).length ah, Sl ai (b.Tu).length aj, I b.At, I b.Steps, I 1], zs h 80 [I 2, I c.Pc, I l, I e.Imm, U m, U 0, U c.Val], zs ac 80 [I 0, I 0, I 0, I 0, U 0, U 0, U 0], itI zb2 [Pt ae] cd b.S, qH (Sl af (b.Rg).length ah) 26 (zx .u64) 1 b.Rg, qH (Sl ai (b.Tu).length aj) 2 (zx .i64) 1 b.Tu]) ?_ fun a w1 ⟨o, s⟩ => go o ((be d) fun C f d => ?_)
  ·refine rn (pu 1 [(53, Po b8 4)] ((ld s 1) (pu 2 [(56, B (e.Imm == 2))] (sp 56 (fun Y => ?_) fun Y => ?_))))
   ·refine pu 4 [(60, B true)] (nl ?_)
    exact QW.say 60 (v := B ((e.Imm == 2) || (e.Imm == 4))) rfl (by rw [Y]; try rfl) (me fun a o => ⟨o.ag, s.k [0, 2, 3, 4, 5, 6]⟩)
   refine pu 1 [(57, Po b8 4)] ((ld s 1) (pu 2 [(60, B (e.Imm == 4))] (nl ?_)))
   exact QW.say 60 (v := B ((e.Imm == 2) || (e.Imm == 4))) rfl (by rw [Y]; try rfl) (me fun a o => ⟨o.ag, s.k [0, 2, 3, 4, 5, 6]⟩)
  refine ck (fun a w1 => ∃ (ab : List Nat), Rep 100 [(5, Pt h), (6, Pt ac)] a /\ St w Z w1 [zs h 80 [I 2, I c.Pc, I l, I e.Imm, U m, U C, U c.Val], zs ac 80 [I 0, I 0, I 0, I 0, U 0, U 0, U 0], itI (zc1 wb Sb) [Pt g] ab (zf.mk b.M b.E b.S b.Rg b.Tu b.At b.Steps 1)]) ?_ fun a w1 ⟨ab, o, s⟩ => go o (rg ((lN [I 2, I c.Pc, I l, I e.Imm, U m, U C, U c.Val] (s.blkN 0 rfl 0 7)) ((st s 1 [I 2, I c.Pc, I l, I e.Imm, U m, U C, U c.Val]) fun ce s => nx (rt (bt (tr ?_))))))
  ·refine br f (fun f ba => ?_) fun f ba => ?_
   ·refine rn (pu 3 [(63, Po g 5)] ((ld s 0) ((be f) fun bh F f => ?_)))
    obtain ⟨cf, cg, ch, ak⟩ := s.rowv 4 rfl F
    refine (ix 26 1 F ak) ?_
    refine OW.ld rfl rfl rfl rfl (by kernel_rfl) (s.rowc 4 rfl (fun _ => rfl) F ak 0 _ rfl) ?_
    refine pu 2 [(68, Po h 5)] ((st s 1 [I 2, I c.Pc, I l, I e.Imm, U m, U bh, U c.Val]) fun ci s => nl ?_)
    have s := s.borIn q
    have s := s.borIn u
    refine have s := s.ti 4; have s := s.ti 5; ?_
    obtain ⟨bi, s⟩ := s.s5 (vV wb Sb) 0 6 7 3 4 5 [1, 2] (zf.mk b.M b.E b.S b.Rg b.Tu b.At b.Steps 1)
    obtain rfl := ij f
    exact me fun a o => ⟨bi, o.ag, s.k [0, 1, 2]⟩
   refine sk ?_
   have s := s.borIn q
   have s := s.borIn u
   refine have s := s.ti 4; have s := s.ti 5; ?_
   obtain ⟨bj, s⟩ := s.s5 (vV wb Sb) 0 6 7 3 4 5 [1, 2] (zf.mk b.M b.E b.S b.Rg b.Tu b.At b.Steps 1)
   obtain rfl := ij f
   exact me fun a o => ⟨bj, o.ag, s.k [0, 1, 2]⟩
  obtain rfl := ij d
  exact QW.ret_c rfl rfl (rl (cs := [I 2, I c.Pc, I l, I e.Imm, U m, U C, U c.Val]) (s.blkN 1 rfl 0 7)) (K ab _ (s.k [2]))
 refine rg (pu 1 [(71, Po b8 4)] ((ld s 1) (pu 2 [(70, B (e.Imm == 5))] (nx (br d (fun d bb => ?_) fun d bb => ?_)))))
 ·refine sq ?_
  obtain ⟨cj, cl, cm, cn, co, cp, cq, cr, ct, cu, s⟩ := s.o5 0
  have T := s.borOut 4 rfl
  have a0 := T.bor Q
  have V := s.borOut 5 rfl
  have a1 := V.bor Q
  refine have s := s.t1 7; have s := s.t1 8; have s := s.k [0, 1, 2, 3, 6, 7, 8]; ?_
  obtain ⟨cv, bk, bm, rfl⟩ := a0.len
  obtain ⟨cw, bo, bp, rfl⟩ := a1.len
  obtain ⟨bq, rfl⟩ := s.fq 4
  obtain ⟨cx, bs, bu, rfl⟩ := s.le 5
  obtain ⟨cy, bv, bw, rfl⟩ := s.le 6
  have s : St _ _ _ [zs g 73 [Sl bk (b.M.Ms).length bm, Sl bo (b.M.Co).length bp, U b.E.A, U b.E.B, Pt bq, Sl bs (b.Rg).length bu, Sl bv (b.Tu).length bw, I b.At, I b.Steps, I b.Mode], _, _, _, _, _, _] := s
  refine CW.plan (by kernel_rfl) ?_
  intro cz a2
  have s := s.same a2
  refine ap [0, 1, 2] [(77, Po g 4)] ((ad 3 s 0) (ap [4, 5, 6] [(81, Po g 5)] ((ad 7 s 0) ((be d) fun bz n d => ?_))))
  obtain ⟨c0, c1, c2, am⟩ := s.rowv 5 rfl n
  refine OA.idx (i := 8) 26 1 rfl (by kernel_rfl) rfl rfl rfl am rfl (zh n).1 (zh n).2.1 (by kernel_rfl) (by kernel_rfl) ?_
  refine OA.ld (i := 9) rfl (by kernel_rfl) rfl rfl rfl (by kernel_rfl) (s.rowc 5 rfl (fun _ => rfl) n am 0 _ rfl) ?_
  refine ap [10] [(85, I (w64 bz))] ((aa 11 []) ((be d) fun r177 bc d => (fn) (zcV bc (s.p [4]) fun c3 c4 a3 => ⟨_, rfl, have s := s.j [4] [0, 1, 2, 3, 5, 6] a3; ?_⟩)))
  refine OA.next trivial ?_
  refine ap [12, 13, 14] [(87, U r177.1), (88, I r177.2.1)] ((aa 15 []) (pu 1 [(7, U r177.1)] ?_))
  refine OA.next trivial ?_
  refine (aa 16 []) (pu 1 [(8, I r177.2.1)] ?_)
  refine OA.next trivial ?_
  refine aF (qn (rg (pu 2 [(89, U r177.1), (90, Po h 6)] ((st s 3 [I c.Ki, I c.Pc, I c.It.Map, I c.It.Op, U c.It.Key, U c.It.Val, U r177.1]) fun c5 s => nx (rn (pu 3 [(93, Po g 5)] ((ld s 1) (pu 1 [(95, U r177.1)] ((be d) fun c6 G d => ?_)))))))))
  obtain ⟨c7, c8, c9, an⟩ := s.rowv 5 rfl G
  refine (ix 26 1 G an) ?_
  refine OW.stR s 5 rfl an (fun _ => rfl) rfl rfl G 0 rfl rfl rfl (by kernel_rfl) rfl rfl r177.1 rfl ?_
  intro da s
  refine nl (bn (qn (rg (pu 1 [(97, Pt g)] ?_))))
  have s := s.borIn T
  have s := s.borIn V
  refine have s := s.ti 5; have s := s.ti 6; ?_
  obtain ⟨db, s⟩ := s.s5 (vV wb Sb) 1 7 8 0 5 6 [2, 3, 4] (zf.mk b.M b.E r177.2.2 (b.Rg.set (Int.toNat 0) r177.1) b.Tu b.At b.Steps b.Mode)
  refine (be d) fun r205 bd d => (fn) (qY bd (s.p [3]) (Q.on s [3]) fun b0 dc a4 => ⟨_, rfl, have s := s.j [3] [0, 1, 2] a4; nx (rg ((lN [I c.Ki, I c.Pc, I c.It.Map, I c.It.Op, U c.It.Key, U c.It.Val, U r177.1] (s.blkN 2 rfl 0 7)) ((st s 3 [I c.Ki, I c.Pc, I c.It.Map, I c.It.Op, U c.It.Key, U c.It.Val, U r177.1]) fun dd s => nx (rt ?_))))⟩)
  obtain rfl := ij d
  exact QW.ret_c rfl rfl (rl (cs := [I c.Ki, I c.Pc, I c.It.Map, I c.It.Op, U c.It.Key, U c.It.Val, U r177.1]) (s.blkN 3 rfl 0 7)) (K b0 _ (s.k [0]))
 refine rg (pu 1 [(9, Pt h)] ((st s 2 [I 3, I c.Pc, I c.It.Map, I c.It.Op, U c.It.Key, U c.It.Val, U c.Val]) fun de s => nx (sq ?_)))
 obtain ⟨df, dg, dh, di, dj, dk, dl, dm, dn, dp, s⟩ := s.o5 0
 have W := s.borOut 4 rfl
 have a5 := W.bor Q
 have X := s.borOut 5 rfl
 have a6 := X.bor Q
 refine have s := s.t1 7; have s := s.t1 8; have s := s.k [0, 1, 2, 3, 6, 7, 8]; ?_
 obtain ⟨dq, b2, b3, rfl⟩ := a5.len
 obtain ⟨dr, b4, b5, rfl⟩ := a6.len
 obtain ⟨b6, rfl⟩ := s.fq 4
 obtain ⟨ds, b7, b9, rfl⟩ := s.le 5
 obtain ⟨dt, ca, cb, rfl⟩ := s.le 6
 have s : St _ _ _ [zs g 73 [Sl b2 (b.M.Ms).length b3, Sl b4 (b.M.Co).length b5, U b.E.A, U b.E.B, Pt b6, Sl b7 (b.Rg).length b9, Sl ca (b.Tu).length cb, I b.At, I b.Steps, I b.Mode], _, _, _, _, _, _] := s
 refine rn (pu 3 [(12, Po g 5)] ((ld s 0) ((be d) fun H J d => ?_)))
 obtain ⟨du, dv, dw, ao⟩ := s.rowv 5 rfl J
 refine (ix 26 1 J ao) ?_
 refine OW.ld rfl rfl rfl rfl (by kernel_rfl) (s.rowc 5 rfl (fun _ => rfl) J ao 0 _ rfl) ?_
 refine pu 1 [(16, Po h 6)] ((st s 2 [I 3, I c.Pc, I c.It.Map, I c.It.Op, U c.It.Key, U c.It.Val, U H]) fun dx s => nx (rn (pu 3 [(19, Po g 5)] ((ld s 0) ((be d) fun dy O d => ?_)))))
 obtain ⟨dz, d0, d1, aq⟩ := s.rowv 5 rfl O
 refine (ix 26 1 O aq) ?_
 refine OW.stR s 5 rfl aq (fun _ => rfl) rfl rfl O 0 rfl rfl rfl (by kernel_rfl) rfl rfl 0 rfl ?_
 intro d2 s
 refine nl (bn (qn (rg (pu 1 [(97, Pt g)] ?_))))
 have s := s.borIn W
 have s := s.borIn X
 refine have s := s.ti 5; have s := s.ti 6; ?_
 obtain ⟨d3, s⟩ := s.s5 (vV wb Sb) 0 7 8 4 5 6 [1, 2, 3] (zf.mk b.M b.E b.S (b.Rg.set (Int.toNat 0) 0) b.Tu b.At b.Steps b.Mode)
 refine (be d) fun r276 bf d => (fn) (qY bf (s.p [3]) (Q.on s [3]) fun cc d4 a7 => ⟨_, rfl, have s := s.j [3] [0, 1, 2] a7; nx (rg ((lN [I 3, I c.Pc, I c.It.Map, I c.It.Op, U c.It.Key, U c.It.Val, U H] (s.blkN 2 rfl 0 7)) ((st s 3 [I 3, I c.Pc, I c.It.Map, I c.It.Op, U c.It.Key, U c.It.Val, U H]) fun d5 s => nx (rt ?_))))⟩)
 obtain rfl := ij d
 exact QW.ret_c rfl rfl (rl (cs := [I 3, I c.Pc, I c.It.Map, I c.It.Op, U c.It.Key, U c.It.Val, U H]) (s.blkN 3 rfl 0 7)) (K cc _ (s.k [0]))
theorem qr {w Z i j l m f n c a r R} (d : zN c a = some r) (s : St w Z w []) (e : Rd w Z f (zx .u64) 1 c.Rg) (t : RdB w Z i [j, l, U c.E.A, U c.E.B, m, f, n, I c.At, I c.Steps, I c.Mode])
  (K : ∀ w', St w Z w' [] -> R (Rt (U r)) w') : Calls Tryz.prog 68 [Pt i, Ag [I a.Op, I a.D, I a.A, I a.B, I a.Imm]].toArray w R := by
 refine sr 19 Tryz.func68 rfl ?_
 obtain ⟨z, C, F, rfl⟩ := e.len
 refine rg ((bx s [I a.Op, I a.D, I a.A, I a.B, I a.Imm]) fun o G s => pu 1 [] (nx (sq (rg (pu 1 [(5, Po o 3)] ((ld s 0) (pu 1 [(7, B (a.B == 8))] (nx (br d (fun d p => ?_) fun d p => ?_)))))))))
 ·refine rg (pu 1 [(8, Po o 4)] ((ld s 0) (pu 2 [(4, U (zp a.Imm))] (nx (rt (tr ?_))))))
  obtain rfl := ij d
  exact r1 (K _ (s.k []))
 refine sn (sq ?_)
 refine CW.still (by kernel_rfl) (by kernel_rfl) ?_
 intro u h
 have s := s.same h
 refine op' 3 [(13, Po i 5)] ?_
 refine OS.ld rfl rfl rfl rfl rfl (by kernel_rfl) (t.cell s 5 rfl) ?_
 refine op' 1 [(15, Po o 3)] ((od s 0) ((be d) fun q b d => ?_))
 obtain ⟨v, x, y, g⟩ := e.formv (fun _ => ⟨_, rfl⟩) b
 refine OS.idx 26 1 rfl rfl rfl rfl rfl g rfl (zh b).1 (zh b).2.1 (by kernel_rfl) (by kernel_rfl) ?_
 refine OS.ld rfl rfl rfl rfl rfl (by kernel_rfl) (e.cellv s b g 0 _ rfl) ?_
 refine op' 1 [(4, U q)] ?_
 refine OS.fin rfl ?_
 refine qn (rt ?_)
 obtain rfl := ij d
 exact r1 (K _ (s.k []))
theorem zet {w Z b c d r R} (s : zad b c d = some r) (a : St w Z w [])
  (K : ∀ w', St w Z w' [] -> R (Rt (.tuple #[B r.1, B r.2])) w') : Calls Tryz.prog 67 [I b, U c, U d].toArray w R := by
 refine sr 31 Tryz.func67 rfl (rg (pu 2 [] (nx (sq (rg (pu 1 [(8, I b)] (nx (bl (rg (pu 2 [(9, B (b == 16))] (nx (br s (fun s e => ?_) fun s e => ?_))))))))))))
 ·refine rg (pu 5 [(6, B (c == d)), (7, B true)] (nx (rt (bt (tr ?_)))))
  obtain rfl := ij s
  exact r2 (K _ (a.k []))
 refine rg (pu 2 [(14, B (b == 17))] (nx (br s (fun s f => ?_) fun s f => ?_)))
 ·refine rg (pu 6 [(6, B (!(c == d))), (7, B true)] (nx (rt (bt (tr ?_)))))
  obtain rfl := ij s
  exact r2 (K _ (a.k []))
 refine rg (pu 2 [(20, B (b == 18))] (nx (br s (fun s g => ?_) fun s g => ?_)))
 ·refine rg (pu 5 [(6, B (decide (c < d))), (7, B true)] (nx (rt (bt (tr ?_)))))
  obtain rfl := ij s
  exact r2 (K _ (a.k []))
 refine rg (pu 2 [(25, B (b == 19))] (nx (br s (fun s h => ?_) fun s h => ?_)))
 ·refine rg (pu 6 [(6, B (!decide (c < d))), (7, B true)] (nx (rt (bt (tr ?_)))))
  obtain rfl := ij s
  exact r2 (K _ (a.k []))
 refine sk (bn (qn (rg (pu 2 [(6, B false), (7, B false)] (nx (rt ?_))))))
 obtain rfl := ij s
 exact r2 (K _ (a.k []))
theorem zcz {w Z wb Sb v0 S0 b e r R} (c : xC b e = some r) (s : St w Z w [itI (zc1 wb Sb) [v0] S0 b]) (u : Bor wb Sb w Z)
  (K : ∀ (s0 : List Nat) w', St w Z w' [itI (zc1 wb Sb) [v0] s0 r.2] -> R (Rt (B r.1)) w') : Calls Tryz.prog 37 [v0, Ag [I e.Op, I e.D, I e.A, I e.B, I e.Imm]].toArray w R := by
 refine sr 76 Tryz.func37 rfl ?_
 obtain ⟨g, rfl⟩ := s.fq 0
 refine rg ((bx s [I e.Op, I e.D, I e.A, I e.B, I e.Imm]) fun b4 w5 s => pu 1 [] (nx (rg (pu 1 [(8, Pt b4)] ((ld s 1) (pu 1 [(5, I e.Op)] (nx (sq (rg (pu 2 [(11, B (e.Op == 15))] (nx (br c (fun c bo => ?_) fun c bo => ?_))))))))))))
 ·refine rg (pu 1 [(4, B true)] (nx (rt (tr ?_))))
  obtain rfl := ij c
  exact r1 (K S0 _ (s.k [0]))
 refine sn (sq (rg (pu 2 [(13, B (e.Op == 20))] (nx (br c (fun c bp => ?_) fun c bp => ?_)))))
 ·refine sq (sq ?_)
  obtain ⟨v8, S9, du, dv, dw, dx, dy, dz, d0, d1, s⟩ := s.o5 0
  have m := s.borOut 2 rfl
  have ak := m.bor u
  have n := s.borOut 3 rfl
  have al := n.bor u
  refine have s := s.t1 5; have s := s.t1 6; have s := s.k [0, 1, 4, 5, 6]; ?_
  obtain ⟨d2, bq, bs, rfl⟩ := ak.len
  obtain ⟨d3, bt, bu, rfl⟩ := al.len
  obtain ⟨bv, rfl⟩ := s.fq 2
  obtain ⟨d4, bw, bz, rfl⟩ := s.le 3
  obtain ⟨d5, b0, b2, rfl⟩ := s.le 4
  have s : St _ _ _ [zs g 73 [Sl bq (b.M.Ms).length bs, Sl bt (b.M.Co).length bu, U b.E.A, U b.E.B, Pt bv, Sl bw (b.Rg).length bz, Sl b0 (b.Tu).length b2, I b.At, I b.Steps, I b.Mode], _, _, _, _] := s
  refine (be c) fun b3 f c => ?_
  refine ck (fun a w1 => ∃ (au : List Nat), Rep 76 [(0, Pt g), (37, B b3)] a /\ St w Z w1 [itI (zc1 wb Sb) [Pt g] au b]) ?_ fun a w1 ⟨au, T, s⟩ => go T (br c (fun c av => ?_) fun c av => ?_)
  ·refine CW.still (by kernel_rfl) (by kernel_rfl) ?_
   intro d6 am
   have s := s.same am
   refine op' 3 [(16, Po g 5)] ((od s 0) (op' 1 [(18, Po b4 2)] ((od s 1) ((be f) fun b5 o f => ?_))))
   obtain ⟨d7, d8, d9, V⟩ := s.rowv 3 rfl o
   refine OS.idx 26 1 rfl rfl rfl rfl rfl V rfl (zh o).1 (zh o).2.1 (by kernel_rfl) (by kernel_rfl) ?_
   refine OS.ld rfl rfl rfl rfl rfl (by kernel_rfl) (s.rowc 3 rfl (fun _ => rfl) o V 0 _ rfl) ?_
   refine op' 2 [(23, B (decide (b5 > 0)))] ?_
   refine OS.split 23 rfl (fun C => ?_) (fun C => ?_)
   ·have f := zfr f C
    refine op' 3 [(26, Po g 6)] ((od s 0) (op' 3 [(30, Po g 7)] ((od s 0) ((be f) fun b6 q f => ?_))))
    obtain ⟨ea, eb, ec, W⟩ := s.rowv 4 rfl q
    refine OS.idx 2 1 rfl rfl rfl rfl rfl W rfl (zh q).1 (zh q).2.1 (by kernel_rfl) (by kernel_rfl) ?_
    refine OS.ld rfl rfl rfl rfl rfl (by kernel_rfl) (s.rowc 4 rfl (fun _ => rfl) q W 0 _ rfl) ?_
    refine op' 1 [(34, Po b4 4)] ((od s 1) (op' 2 [(37, B (decide (b6 < e.Imm)))] ?_))
    refine OS.fin rfl ?_
    have s := s.borIn m
    have s := s.borIn n
    refine have s := s.ti 3; have s := s.ti 4; ?_
    obtain ⟨b7, s⟩ := s.s5 (vV wb Sb) 0 5 6 2 3 4 [1] b
    obtain rfl := ij f
    exact me fun a T => ⟨b7, T.ag, s.k [1]⟩
   have f := zfs f C
   refine op' 14 [(37, B false)] ?_
   refine OS.fin rfl ?_
   have s := s.borIn m
   have s := s.borIn n
   refine have s := s.ti 3; have s := s.ti 4; ?_
   obtain ⟨b8, s⟩ := s.s5 (vV wb Sb) 0 5 6 2 3 4 [1] b
   obtain rfl := ij f
   exact me fun a T => ⟨b8, T.ag, s.k [1]⟩
  ·refine sq ?_
   obtain ⟨ed, ee, ef, eg, eh, ei, ej, ek, el, em, s⟩ := s.o5 0
   have G := s.borOut 1 rfl
   have an := G.bor u
   have H := s.borOut 2 rfl
   have ao := H.bor u
   refine have s := s.t1 4; have s := s.t1 5; have s := s.k [0, 3, 4, 5]; ?_
   obtain ⟨en, b9, ca, rfl⟩ := an.len
   obtain ⟨eo, cb, aw, rfl⟩ := ao.len
   obtain ⟨ax, rfl⟩ := s.fq 1
   obtain ⟨cc, ay, az, rfl⟩ := s.le 2
   obtain ⟨cd, a0, a1, rfl⟩ := s.le 3
   have s : St _ _ _ [zs g 73 [Sl b9 (b.M.Ms).length ca, Sl cb (b.M.Co).length aw, U b.E.A, U b.E.B, Pt ax, Sl ay (b.Rg).length az, Sl a0 (b.Tu).length a1, I b.At, I b.Steps, I b.Mode], _, _, _] := s
   refine CW.tail 12 (by kernel_rfl) (by kernel_rfl) ?_
   intro ce X
   have s := s.same X
   refine op' 3 [(40, Po g 6)] ((od s 0) (op' 3 [(44, Po g 7)] ((od s 0) ((be c) fun F d c => ?_))))
   obtain ⟨cf, cg, ch, J⟩ := s.rowv 3 rfl d
   refine OS.idx 2 1 rfl rfl rfl rfl rfl J rfl (zh d).1 (zh d).2.1 (by kernel_rfl) (by kernel_rfl) ?_
   refine OS.ld rfl rfl rfl rfl rfl (by kernel_rfl) (s.rowc 3 rfl (fun _ => rfl) d J 0 _ rfl) ?_
   refine op' 1 [(48, I (w64 (F + 1)))] ?_
   obtain ⟨ci, cj, cl, O⟩ := s.rowv 3 rfl d
   refine OS.idx 2 1 rfl rfl rfl rfl rfl O rfl (zh d).1 (zh d).2.1 (by kernel_rfl) (by kernel_rfl) ?_
   refine OS.on ?_
   refine OW.stR s 3 rfl O (fun _ => rfl) rfl rfl d 0 rfl rfl rfl (by kernel_rfl) rfl rfl (w64 (F + 1)) rfl ?_
   intro cm s
   refine nx (rg (pu 1 [(4, B true)] (nx (rt (tr (tr ?_))))))
   have s := s.borIn G
   have s := s.borIn H
   refine have s := s.ti 2; have s := s.ti 3; ?_
   obtain ⟨a2, s⟩ := s.s5 (vV wb Sb) 0 4 5 1 2 3 [] (zf.mk b.M b.E b.S b.Rg (b.Tu.set (Int.toNat b.At) (w64 (F + 1))) b.At b.Steps b.Mode)
   obtain rfl := ij c
   exact r1 (K a2 _ (s.k [0]))
  refine sn (sq ?_)
  obtain ⟨cn, co, cp, cq, cr, ct, cu, cv, cw, cx, s⟩ := s.o5 0
  have v := s.borOut 1 rfl
  have Y := v.bor u
  have x := s.borOut 2 rfl
  have ab := x.bor u
  refine have s := s.t1 4; have s := s.t1 5; have s := s.k [0, 3, 4, 5]; ?_
  obtain ⟨cy, a3, a4, rfl⟩ := Y.len
  obtain ⟨cz, a5, a6, rfl⟩ := ab.len
  obtain ⟨a7, rfl⟩ := s.fq 1
  obtain ⟨c0, a8, a9, rfl⟩ := s.le 2
  obtain ⟨c1, ba, bb, rfl⟩ := s.le 3
  have s : St _ _ _ [zs g 73 [Sl a3 (b.M.Ms).length a4, Sl a5 (b.M.Co).length a6, U b.E.A, U b.E.B, Pt a7, Sl a8 (b.Rg).length a9, Sl ba (b.Tu).length bb, I b.At, I b.Steps, I b.Mode], _, _, _] := s
  refine CW.tail 9 (by kernel_rfl) (by kernel_rfl) ?_
  intro c2 ac
  have s := s.same ac
  refine op' 3 [(52, Po g 6)] ((od s 0) (op' 3 [(56, Po g 7)] ((od s 0) ((be c) fun c3 l c => ?_))))
  obtain ⟨c4, c5, c6, Q⟩ := s.rowv 3 rfl l
  refine OS.idx 2 1 rfl rfl rfl rfl rfl Q rfl (zh l).1 (zh l).2.1 (by kernel_rfl) (by kernel_rfl) ?_
  refine OS.on ?_
  refine OW.stR s 3 rfl Q (fun _ => rfl) rfl rfl l 0 rfl rfl rfl (by kernel_rfl) rfl rfl 0 rfl ?_
  intro c7 s
  refine nx (rg (pu 1 [(4, B false)] (nx (rt (tr ?_)))))
  have s := s.borIn v
  have s := s.borIn x
  refine have s := s.ti 2; have s := s.ti 3; ?_
  obtain ⟨bc, s⟩ := s.s5 (vV wb Sb) 0 4 5 1 2 3 [] (zf.mk b.M b.E b.S b.Rg (b.Tu.set (Int.toNat b.At) 0) b.At b.Steps b.Mode)
  obtain rfl := ij c
  exact r1 (K bc _ (s.k [0]))
 refine sn (sq ?_)
 obtain ⟨c8, c9, da, db, dc, dd, de, df, dg, dh, s⟩ := s.o5 0
 have y := s.borOut 2 rfl
 have ae := y.bor u
 have z := s.borOut 3 rfl
 have af := z.bor u
 refine have s := s.t1 5; have s := s.t1 6; have s := s.k [0, 1, 4, 5, 6]; ?_
 obtain ⟨di, bd, bf, rfl⟩ := ae.len
 obtain ⟨dj, bg, bh, rfl⟩ := af.len
 obtain ⟨bi, rfl⟩ := s.fq 2
 obtain ⟨dk, bj, bk, rfl⟩ := s.le 3
 obtain ⟨dl, bl, bm, rfl⟩ := s.le 4
 have s : St _ _ _ [zs g 73 [Sl bd (b.M.Ms).length bf, Sl bg (b.M.Co).length bh, U b.E.A, U b.E.B, Pt bi, Sl bj (b.Rg).length bk, Sl bl (b.Tu).length bm, I b.At, I b.Steps, I b.Mode], _, _, _, _] := s
 refine CW.plan (by kernel_rfl) ?_
 intro dm ah
 have s := s.same ah
 refine ap [0, 1, 2, 3] [(60, I e.Op), (63, Po g 5)] ((ad 4 s 0) (ap [5] [(65, Po b4 2)] ((ad 6 s 1) ((be c) fun dn h c => ?_))))
 obtain ⟨dp, dq, dr, t⟩ := s.rowv 3 rfl h
 refine OA.idx (i := 7) 26 1 rfl (by kernel_rfl) rfl rfl rfl t rfl (zh h).1 (zh h).2.1 (by kernel_rfl) (by kernel_rfl) ?_
 refine OA.ld (i := 8) rfl (by kernel_rfl) rfl rfl rfl (by kernel_rfl) (s.rowc 3 rfl (fun _ => rfl) h t 0 _ rfl) ?_
 refine ap [9] [(69, Pt g)] ?_
 refine OA.ldN (i := 10) (cs := [I e.Op, I e.D, I e.A, I e.B, I e.Imm]) rfl (by kernel_rfl) rfl rfl rfl (by kernel_rfl) (by kernel_rfl) (s.blkN 1 rfl 0 5) ?_
 refine (aa 11 [8, 6, 4]) ((be c) fun r232 aq c => (fn) (qr aq (s.p []) (s.rd 3 rfl (fun _ => rfl) [] rfl (s.len 3 rfl).1) (s.rdB 0 rfl [] rfl) fun ds ai => ⟨_, rfl, have s := s.j [] [0, 1, 2, 3, 4] ai; ?_⟩))
 refine OA.next ⟨(s.rowc 3 rfl (fun _ => rfl) h t 0 _ rfl), (s.blk 1 rfl rfl), (s.blk 0 rfl rfl), trivial⟩ ?_
 refine (aa 12 []) ((be c) fun r236 ar c => (fn) (zet ar (s.p []) fun dt aj => ⟨_, rfl, have s := s.j [] [0, 1, 2, 3, 4] aj; ?_⟩))
 refine OA.next trivial ?_
 refine ap [13, 14, 15] [(73, B r236.1), (74, B r236.2)] ((aa 16 []) (pu 1 [(6, B r236.1)] ?_))
 refine OA.next trivial ?_
 refine (aa 17 []) (pu 1 [(7, B r236.2)] ?_)
 refine OA.next trivial ?_
 refine aF (qn (rg (pu 2 [(4, B r236.1)] (nx (rt ?_)))))
 have s := s.borIn y
 have s := s.borIn z
 refine have s := s.ti 3; have s := s.ti 4; ?_
 obtain ⟨bn, s⟩ := s.s5 (vV wb Sb) 0 5 6 2 3 4 [1] b
 obtain rfl := ij c
 exact r1 (K bn _ (s.k [1]))
theorem zcW {w Z fu J M f g r R} (l : qO fu f g = some r) (s : St w Z w [itI zb2 [J] M f])
  (K : ∀ (s0 : List Nat) w', St w Z w' [itI zb2 [J] s0 f] -> R (Rt (.tuple #[U r.1, I r.2])) w') : Calls Tryz.prog 71 [J, I g].toArray w R := by
 refine sr 61 Tryz.func71 rfl ?_
 obtain ⟨h, rfl⟩ := s.fq 0
 refine rg (pu 2 [] (nx (sq (sq ?_))))
 refine ck (fun a j => Rep 61 [(0, Pt h), (1, I g), (12, B (decide (g < 0) || decide (g > 15)))] a /\ St w Z j [itI zb2 [Pt h] M f]) ?_ fun a j ⟨e, s⟩ => go e (br l (fun l am => ?_) fun l am => ?_)
 ·refine rn (pu 3 [(9, B (decide (g < 0)))] (sp 9 (fun A => ?_) fun A => ?_))
  ·refine pu 3 [(12, B true)] (nl ?_)
   exact QW.say 12 (v := B (decide (g < 0) || decide (g > 15))) rfl (by rw [A]; try rfl) (me fun a e => ⟨e.ag, s.k [0]⟩)
  refine pu 3 [(12, B (decide (g > 15)))] (nl ?_)
  exact QW.say 12 (v := B (decide (g < 0) || decide (g > 15))) rfl (by rw [A]; try rfl) (me fun a e => ⟨e.ag, s.k [0]⟩)
 ·refine rg (pu 2 [(4, U 0), (5, I 35)] (nx (rt (tr ?_))))
  obtain rfl := ij l
  exact r2 (K M _ (s.k [0]))
 refine sn (sq (sq ?_))
 obtain ⟨v4, S5, s⟩ := s.o1 0
 refine have s := s.t1 1; ?_
 obtain ⟨l6, a7, c8, rfl⟩ := s.le 1
 have s : St _ _ _ [zs h 64 [Sl a7 (f.Ak).length c8], _] := s
 refine rn (pu 3 [(15, Pt h)] ((ld s 0) (pu 3 [(6, I (w64 (((f.Ak).length : Int) - 1)))] (nx ((be l) fun C D l => ?_)))))
 refine ck (fun a j => ∃ (t212 : Unit) (o : List Nat), C = .inl t212 /\ Rep 61 [] a /\ St w Z j [itI zb2 [Pt h] o f]) ?_ ?_
 ·refine bl (have s := s.ti 1; ?_)
  obtain ⟨O, s⟩ := s.s1 ze5 0 1 [] f
  refine CW.loop (fun n a j => ∃ (d : Int) (p : List Nat), Rep 61 [(0, Pt h), (1, I g), (6, I d)] a /\ St w Z j [itI zb2 [Pt h] p f] /\ loop (zG f g) n d = some C) fu (fun a e => ⟨(w64 (((f.Ak).length : Int) - 1)), O, e.ag, s.keep [0] rfl, D⟩) ?_
  rintro q a j ⟨d, p, e, s, b⟩
  rcases q with _ | q
  ·exact (jX b).elim
  refine go e (sq (rg (pu 2 [(20, B (decide (d >= 0)))] (nx (br b (fun b E => ?_) fun b E => ?_)))))
  ·refine sn (sq (bl (sq (sq ?_))))
   obtain ⟨an, ao, s⟩ := s.o1 0
   refine have s := s.t1 1; ?_
   obtain ⟨ap, Q, T, rfl⟩ := s.le 1
   have s : St _ _ _ [zs h 64 [Sl Q (f.Ak).length T], _] := s
   refine rn (pu 3 [(25, Pt h)] ((ld s 0) (pu 1 [(27, I d)] ((be b) fun m c b => ?_))))
   obtain ⟨V, W, aq, u⟩ := s.rowv 1 rfl c
   refine (ix 100 3 c u) (pu 1 [(29, .pointer (some ⟨V, W + Int.toNat d * 3, none⟩))] ?_)
   refine OW.ld rfl rfl rfl rfl (by kernel_rfl) (s.rowc 1 rfl (fun _ => rfl) c u 0 _ rfl) ?_
   refine pu 1 [(31, B (m.Ki == 2))] (nx (br b (fun b F => ?_) fun b F => ?_))
   ·refine rg (pu 2 [(4, U 0), (5, I 0)] (nx (rt (tr (bt (tr (tr (bt (tr (have s := s.ti 1; ?_))))))))))
    obtain ⟨X, s⟩ := s.s1 ze5 0 1 [] f
    obtain rfl := ij b
    obtain rfl := ij l
    exact r2 (K X _ (s.k [0]))
   refine sn (sq ((be b) fun Y i b => ?_))
   refine ck (fun a j => ∃ (t : List Nat), Rep 61 [(0, Pt h), (1, I g), (6, I d), (52, B Y)] a /\ St w Z j [itI zb2 [Pt h] t f]) ?_ fun a j ⟨t, e, s⟩ => go e (br b (fun b G => ?_) fun b G => ?_)
   ·refine rn (pu 3 [(34, Pt h)] ((ld s 0) (pu 1 [(36, I d)] ?_)))
    obtain ⟨aa, ab, ar, x⟩ := s.rowv 1 rfl c
    refine (ix 100 3 c x) (pu 1 [(38, .pointer (some ⟨aa, ab + Int.toNat d * 3, none⟩))] ?_)
    refine OW.ld rfl rfl rfl rfl (by kernel_rfl) (s.rowc 1 rfl (fun _ => rfl) c x 0 _ rfl) ?_
    refine pu 2 [(41, B (m.Ki == 1))] (si 41 i (fun i H => ?_) fun i H => ?_)
    ·refine pu 3 [(44, Pt h)] ((ld s 0) (pu 1 [(46, I d)] ?_))
     obtain ⟨ac, ad, au, y⟩ := s.rowv 1 rfl c
     refine (ix 100 3 c y) (pu 1 [(48, .pointer (some ⟨ac, ad + Int.toNat d * 3 + 1, none⟩))] ?_)
     refine OW.ld rfl rfl rfl rfl (by kernel_rfl) (s.rowc 1 rfl (fun _ => rfl) c y 1 _ rfl) ?_
     refine pu 3 [(52, B (m.At == g))] (nl (have s := s.ti 1; ?_))
     obtain ⟨ae, s⟩ := s.s1 ze5 0 1 [] f
     obtain rfl := ij i
     exact me fun a e => ⟨ae, e.ag, s.k [0]⟩
    refine pu 11 [(52, B false)] (nl (have s := s.ti 1; ?_))
    obtain ⟨af, s⟩ := s.s1 ze5 0 1 [] f
    obtain rfl := ij i
    exact me fun a e => ⟨af, e.ag, s.k [0]⟩
   ·refine sq ?_
    obtain ⟨av, aw, s⟩ := s.o1 0
    refine have s := s.t1 1; ?_
    obtain ⟨ax, ah, ai, rfl⟩ := s.le 1
    have s : St _ _ _ [zs h 64 [Sl ah (f.Ak).length ai], _] := s
    refine rn (pu 3 [(55, Pt h)] ((ld s 0) (pu 1 [(57, I d)] ?_)))
    obtain ⟨aj, ak, ay, z⟩ := s.rowv 1 rfl c
    refine (ix 100 3 c z) (pu 1 [(59, .pointer (some ⟨aj, ak + Int.toNat d * 3 + 2, none⟩))] ?_)
    refine OW.ld rfl rfl rfl rfl (by kernel_rfl) (s.rowc 1 rfl (fun _ => rfl) c z 2 _ rfl) ?_
    refine pu 2 [(4, U m.N), (5, I 0)] (nx (rt (bt (tr (tr (bt (tr (have s := s.ti 1; ?_))))))))
    obtain ⟨al, s⟩ := s.s1 ze5 0 1 [] f
    obtain rfl := ij b
    obtain rfl := ij l
    exact r2 (K al _ (s.k [0]))
   exact sk (bn (qn (rn (pu 3 [(6, I (w64 (d - 1)))] (nl (me fun a e => ⟨q, zls _, (w64 (d - 1)), t, e.ag, s.k [0], b⟩))))))
  refine ex (te (te (bh ?_)))
  obtain rfl := ij b
  exact me fun a e => ⟨(), p, rfl, e.ag, s.k [0]⟩
 rintro a j ⟨t212, o, rfl, e, s⟩
 refine go e (rg (pu 2 [(4, U 0), (5, I 0)] (nx (rt ?_))))
 obtain rfl := ij l
 exact r2 (K o _ (s.k [0]))
theorem zcA {w Z j l f b c r R} (d : jG f b c = some r) (s : St w Z w [itI zb2 [j] l f])
  (K : ∀ (u : List Nat) w', St w Z w' [itI zb2 [j] u r.2] -> R (Rt (I r.1)) w') : Calls Tryz.prog 15 [j, I b, U c].toArray w R := by
 refine sr 25 Tryz.func15 rfl ?_
 obtain ⟨g, rfl⟩ := s.fq 0
 refine rg (pu 1 [] (nx (sq (sq ?_))))
 refine ck (fun a n => Rep 25 [(0, Pt g), (1, I b), (2, U c), (12, B (decide (b < 0) || decide (b > 15)))] a /\ St w Z n [itI zb2 [Pt g] l f]) ?_ fun a n ⟨h, s⟩ => go h (br d (fun d o => ?_) fun d o => ?_)
 ·refine rn (pu 3 [(9, B (decide (b < 0)))] (sp 9 (fun i => ?_) fun i => ?_))
  ·refine pu 3 [(12, B true)] (nl ?_)
   exact QW.say 12 (v := B (decide (b < 0) || decide (b > 15))) rfl (by rw [i]; try rfl) (me fun a h => ⟨h.ag, s.k [0]⟩)
  refine pu 3 [(12, B (decide (b > 15)))] (nl ?_)
  exact QW.say 12 (v := B (decide (b < 0) || decide (b > 15))) rfl (by rw [i]; try rfl) (me fun a h => ⟨h.ag, s.k [0]⟩)
 ·refine rg (pu 1 [(6, I 35)] (nx (rt (tr ?_))))
  obtain rfl := ij d
  exact r1 (K l _ (s.k [0]))
 refine sn (sq ?_)
 obtain ⟨H, J, s⟩ := s.o1 0
 refine have s := s.t1 1; ?_
 obtain ⟨M, x, y, rfl⟩ := s.le 1
 have s : St _ _ _ [zs g 64 [Sl x (f.Ak).length y], _] := s
 refine rn (pu 4 [(13, Pt g), (16, Pt g)] ((ld s 0) (pu 3 [(20, Ag [I 1, I b, U c])] ?_)))
 refine OW.row (α := zl) (e := 100) (enc := xo) (sz := 3) s rfl rfl rfl [(zl.mk 1 b c)] rfl (fun _ => rfl) rfl rfl (fun _ => by kernel_rfl) ?_
 intro z A s
 refine (be d) fun C m d => ?_
 refine OW.app s 1 rfl (fun _ => rfl) (fun _ => rfl) rfl rfl rfl rfl rfl rfl (by kernel_rfl) zm2 (s.rd 2 rfl (fun _ => rfl) [] rfl (s.len 2 rfl).1) (jR m) ?_
 intro D E s
 obtain ⟨F, p, q, rfl⟩ := s.le 1
 refine pu 2 [(24, Pt g)] ((st s 0 [Sl p ((f.Ak ++ [(zl.mk 1 b c)])).length q]) fun G s => nx (rg (pu 1 [(6, I 0)] (nx (rt (have s := s.ti 1; ?_))))))
 obtain ⟨t, s⟩ := s.s1 ze5 0 1 [2] (zk.mk (f.Ak ++ [(zl.mk 1 b c)]))
 obtain rfl := ij d
 exact r1 (K t _ (s.k [1]))
theorem zcB {w Z wb Sb fu v0 S0 b c r R} (d : xD fu b c = some r) (s : St w Z w [itI (zc1 wb Sb) [v0] S0 b]) (f : Bor wb Sb w Z)
  (K : ∀ (s0 : List Nat) w', St w Z w' [itI (zc1 wb Sb) [v0] s0 r] -> R (Rt (.tuple #[])) w') : Calls Tryz.prog 38 [v0, Ag [I c.Op, I c.D, I c.A, I c.B, I c.Imm]].toArray w R := by
 refine sr 142 Tryz.func38 rfl ?_
 obtain ⟨e, rfl⟩ := s.fq 0
 refine rg ((bx s [I c.Op, I c.D, I c.A, I c.B, I c.Imm]) fun l w5 s => nx (rg (pu 1 [(9, Pt l)] ((ld s 1) (pu 1 [(4, I c.Op)] (nx (bl (rg (pu 3 [(11, B (c.Op == 0))] (nx (br d (fun d dn => ?_) fun d dn => ?_)))))))))))
 ·obtain ⟨v7, S8, v9, hq, hr, hs, ht, hu, hv, hw, s⟩ := s.o5 0
  have X := s.borOut 2 rfl
  have bc := X.bor f
  have Y := s.borOut 3 rfl
  have bd := Y.bor f
  refine have s := s.t1 5; have s := s.t1 6; have s := s.k [0, 1, 4, 5, 6]; ?_
  obtain ⟨hx, dp, dq, rfl⟩ := bc.len
  obtain ⟨hy, dr, ds, rfl⟩ := bd.len
  obtain ⟨dt, rfl⟩ := s.fq 2
  obtain ⟨hz, du, dv, rfl⟩ := s.le 3
  obtain ⟨h0, dw, dx, rfl⟩ := s.le 4
  have s : St _ _ _ [zs e 73 [Sl dp (b.M.Ms).length dq, Sl dr (b.M.Co).length ds, U b.E.A, U b.E.B, Pt dt, Sl du (b.Rg).length dv, Sl dw (b.Tu).length dx, I b.At, I b.Steps, I b.Mode], _, _, _, _] := s
  refine CW.plan (by kernel_rfl) ?_
  intro h1 bf
  have s := s.same bf
  refine ap [0, 1, 2] [(16, Po e 5)] ((ad 3 s 0) (ap [4] [(18, Po l 1)] ((ad 5 s 1) (ap [6] [(20, Pt e)] ?_))))
  refine OA.ldN (i := 7) (cs := [I c.Op, I c.D, I c.A, I c.B, I c.Imm]) rfl (by kernel_rfl) rfl rfl rfl (by kernel_rfl) (by kernel_rfl) (s.blkN 1 rfl 0 5) ?_
  refine (aa 8 [5, 3]) ((be d) fun b0 b2 d => (fn) (qr b2 (s.p []) (s.rd 3 rfl (fun _ => rfl) [] rfl (s.len 3 rfl).1) (s.rdB 0 rfl [] rfl) fun h2 bg => ⟨_, rfl, have s := s.j [] [0, 1, 2, 3, 4] bg; ?_⟩))
  refine OA.next ⟨(s.blk 1 rfl rfl), (s.blk 0 rfl rfl), trivial⟩ ?_
  refine (be d) fun h3 u d => ?_
  obtain ⟨h4, h5, h6, ak⟩ := s.rowv 3 rfl u
  refine OA.idx (i := 9) 26 1 rfl (by kernel_rfl) rfl rfl rfl ak rfl (zh u).1 (zh u).2.1 (by kernel_rfl) (by kernel_rfl) ?_
  refine (aa 10 []) ?_
  refine OW.stR s 3 rfl ak (fun _ => rfl) rfl rfl u 0 rfl rfl rfl (by kernel_rfl) rfl rfl b0 rfl ?_
  intro h7 s
  refine OA.next trivial ?_
  refine aF (bn ?_)
  have s := s.borIn X
  have s := s.borIn Y
  refine have s := s.ti 3; have s := s.ti 4; ?_
  obtain ⟨dy, s⟩ := s.s5 (vV wb Sb) 0 5 6 2 3 4 [1] (zf.mk b.M b.E b.S (b.Rg.set (Int.toNat c.D) b0) b.Tu b.At b.Steps b.Mode)
  obtain rfl := ij d
  exact QW.end0 rfl (K dy _ (s.k [1]))
 refine rg (pu 1 [(25, I c.Op)] ((be d) fun dz b3 d => (fn) (zat b3 (s.p []) fun h8 bh => ⟨_, rfl, have s := s.j [] [0, 1] bh; pu 1 [(24, B dz)] (nx (br d (fun d b5 => ?_) fun d b5 => ?_))⟩)))
 ·refine sq ?_
  obtain ⟨h9, ja, jb, jc, jd, je, jf, jg, jh, ji, s⟩ := s.o5 0
  have ab := s.borOut 2 rfl
  have bi := ab.bor f
  have ac := s.borOut 3 rfl
  have bj := ac.bor f
  refine have s := s.t1 5; have s := s.t1 6; have s := s.k [0, 1, 4, 5, 6]; ?_
  obtain ⟨jj, d0, d1, rfl⟩ := bi.len
  obtain ⟨jk, d2, d3, rfl⟩ := bj.len
  obtain ⟨d4, rfl⟩ := s.fq 2
  obtain ⟨jl, d5, d6, rfl⟩ := s.le 3
  obtain ⟨jm, d7, d8, rfl⟩ := s.le 4
  have s : St _ _ _ [zs e 73 [Sl d0 (b.M.Ms).length d1, Sl d2 (b.M.Co).length d3, U b.E.A, U b.E.B, Pt d4, Sl d5 (b.Rg).length d6, Sl d7 (b.Tu).length d8, I b.At, I b.Steps, I b.Mode], _, _, _, _] := s
  refine CW.plan (by kernel_rfl) ?_
  intro d9 al
  have s := s.same al
  refine ap [0, 1, 2, 3] [(28, I c.Op), (31, Po e 5)] ((ad 4 s 0) (ap [5] [(33, Po l 2)] ((ad 6 s 1) ((be d) fun ea g d => ?_))))
  obtain ⟨eb, ec, ed, x⟩ := s.rowv 3 rfl g
  refine OA.idx (i := 7) 26 1 rfl (by kernel_rfl) rfl rfl rfl x rfl (zh g).1 (zh g).2.1 (by kernel_rfl) (by kernel_rfl) ?_
  refine OA.ld (i := 8) rfl (by kernel_rfl) rfl rfl rfl (by kernel_rfl) (s.rowc 3 rfl (fun _ => rfl) g x 0 _ rfl) ?_
  refine ap [9] [(37, Pt e)] ?_
  refine OA.ldN (i := 10) (cs := [I c.Op, I c.D, I c.A, I c.B, I c.Imm]) rfl (by kernel_rfl) rfl rfl rfl (by kernel_rfl) (by kernel_rfl) (s.blkN 1 rfl 0 5) ?_
  refine (aa 11 [8, 6, 4]) ((be d) fun r121 bk d => (fn) (qr bk (s.p []) (s.rd 3 rfl (fun _ => rfl) [] rfl (s.len 3 rfl).1) (s.rdB 0 rfl [] rfl) fun ee am => ⟨_, rfl, have s := s.j [] [0, 1, 2, 3, 4] am; ?_⟩))
  refine OA.next ⟨(s.rowc 3 rfl (fun _ => rfl) g x 0 _ rfl), (s.blk 1 rfl rfl), (s.blk 0 rfl rfl), trivial⟩ ?_
  refine (aa 12 []) ((be d) fun r125 bm d => (fn) (zcZ bm (s.p []) fun ef an => ⟨_, rfl, have s := s.j [] [0, 1, 2, 3, 4] an; ?_⟩))
  refine OA.next trivial ?_
  refine ap [13, 14, 15] [(41, U r125.1), (42, B r125.2)] ((aa 16 []) (pu 1 [(5, U r125.1)] ?_))
  refine OA.next trivial ?_
  refine (aa 17 []) (pu 1 [(6, B r125.2)] ?_)
  refine OA.next trivial ?_
  refine aF (qn ?_)
  refine CW.tail 8 (by kernel_rfl) (by kernel_rfl) ?_
  intro eg ao
  have s := s.same ao
  refine op' 3 [(45, Po e 5)] ((od s 0) (op' 1 [(47, Po l 1)] ((od s 1) (op' 1 [(49, U r125.1)] ((be d) fun eh m d => ?_)))))
  obtain ⟨ei, ej, ek, ae⟩ := s.rowv 3 rfl m
  refine OS.idx 26 1 rfl rfl rfl rfl rfl ae rfl (zh m).1 (zh m).2.1 (by kernel_rfl) (by kernel_rfl) ?_
  refine OS.on ?_
  refine OW.stR s 3 rfl ae (fun _ => rfl) rfl rfl m 0 rfl rfl rfl (by kernel_rfl) rfl rfl r125.1 rfl ?_
  intro el s
  refine nl (bn ?_)
  have s := s.borIn ab
  have s := s.borIn ac
  refine have s := s.ti 3; have s := s.ti 4; ?_
  obtain ⟨b6, s⟩ := s.s5 (vV wb Sb) 0 5 6 2 3 4 [1] (zf.mk b.M b.E b.S (b.Rg.set (Int.toNat c.D) r125.1) b.Tu b.At b.Steps b.Mode)
  obtain rfl := ij d
  exact QW.end0 rfl (K b6 _ (s.k [1]))
 refine rg (pu 3 [(51, B (c.Op == 11))] (nx (br d (fun d bo => ?_) fun d bo => ?_)))
 ·refine sq ?_
  obtain ⟨em, en, eo, ep, eq, er, es, et, eu, ev, s⟩ := s.o5 0
  have C := s.borOut 2 rfl
  have aq := C.bor f
  have F := s.borOut 3 rfl
  have ar := F.bor f
  refine have s := s.t1 5; have s := s.t1 6; have s := s.k [0, 1, 4, 5, 6]; ?_
  obtain ⟨ew, b7, b8, rfl⟩ := aq.len
  obtain ⟨ex, b9, ca, rfl⟩ := ar.len
  obtain ⟨cb, rfl⟩ := s.fq 2
  obtain ⟨ey, cc, cd, rfl⟩ := s.le 3
  obtain ⟨ez, ce, cf, rfl⟩ := s.le 4
  have s : St _ _ _ [zs e 73 [Sl b7 (b.M.Ms).length b8, Sl b9 (b.M.Co).length ca, U b.E.A, U b.E.B, Pt cb, Sl cc (b.Rg).length cd, Sl ce (b.Tu).length cf, I b.At, I b.Steps, I b.Mode], _, _, _, _] := s
  refine CW.plan (by kernel_rfl) ?_
  intro e0 au
  have s := s.same au
  refine ap [0, 1, 2] [(57, Po e 4)] ((ad 3 s 0) (ap [4] [(59, Pt e)] ?_))
  refine OA.ldN (i := 5) (cs := [I c.Op, I c.D, I c.A, I c.B, I c.Imm]) rfl (by kernel_rfl) rfl rfl rfl (by kernel_rfl) (by kernel_rfl) (s.blkN 1 rfl 0 5) ?_
  refine (aa 6 [3]) ((be d) fun r189 bp d => (fn) (qr bp (s.p []) (s.rd 3 rfl (fun _ => rfl) [] rfl (s.len 3 rfl).1) (s.rdB 0 rfl [] rfl) fun e1 av => ⟨_, rfl, have s := s.j [] [0, 1, 2, 3, 4] av; ?_⟩))
  refine OA.next ⟨(s.blk 0 rfl rfl), trivial⟩ ?_
  refine ap [7] [(62, I (w64 r189))] ((aa 8 []) ((be d) fun r193 bq d => (fn) (zcW bq (s.p [2]) fun e2 e3 aw => ⟨_, rfl, have s := s.j [2] [0, 1, 3, 4] aw; ?_⟩)))
  refine OA.next trivial ?_
  refine ap [9, 10, 11] [(64, U r193.1), (65, I r193.2)] ((aa 12 []) (pu 1 [(7, U r193.1)] ?_))
  refine OA.next trivial ?_
  refine (aa 13 []) (pu 1 [(8, I r193.2)] ?_)
  refine OA.next trivial ?_
  refine aF (qn ?_)
  refine CW.tail 8 (by kernel_rfl) (by kernel_rfl) ?_
  intro e4 ax
  have s := s.same ax
  refine op' 3 [(68, Po e 5)] ((od s 1) (op' 1 [(70, Po l 1)] ((od s 2) (op' 1 [(72, U r193.1)] ((be d) fun e5 n d => ?_)))))
  obtain ⟨e6, e7, e8, af⟩ := s.rowv 3 rfl n
  refine OS.idx 26 1 rfl rfl rfl rfl rfl af rfl (zh n).1 (zh n).2.1 (by kernel_rfl) (by kernel_rfl) ?_
  refine OS.on ?_
  refine OW.stR s 3 rfl af (fun _ => rfl) rfl rfl n 0 rfl rfl rfl (by kernel_rfl) rfl rfl r193.1 rfl ?_
  intro e9 s
  refine nl (bn ?_)
  have s := s.borIn C
  have s := s.borIn F
  refine have s := s.ti 3; have s := s.ti 4; ?_
  obtain ⟨cg, s⟩ := s.s5 (vV wb Sb) 1 5 6 0 3 4 [2] (zf.mk b.M b.E b.S (b.Rg.set (Int.toNat c.D) r193.1) b.Tu b.At b.Steps b.Mode)
  obtain rfl := ij d
  exact QW.end0 rfl (K cg _ (s.k [1]))
 refine rg (pu 3 [(74, B (c.Op == 12))] (nx (br d (fun d bs => ?_) fun d bs => ?_)))
 ·obtain ⟨fa, fb, fc, fd, fe, ff, fg, fh, fi, fj, s⟩ := s.o5 0
  have G := s.borOut 2 rfl
  have ay := G.bor f
  have H := s.borOut 3 rfl
  have az := H.bor f
  refine have s := s.t1 5; have s := s.t1 6; have s := s.k [0, 1, 4, 5, 6]; ?_
  obtain ⟨fk, ch, ci, rfl⟩ := ay.len
  obtain ⟨fl, cj, cl, rfl⟩ := az.len
  obtain ⟨cm, rfl⟩ := s.fq 2
  obtain ⟨fm, cn, co, rfl⟩ := s.le 3
  obtain ⟨fo, cp, cq, rfl⟩ := s.le 4
  have s : St _ _ _ [zs e 73 [Sl ch (b.M.Ms).length ci, Sl cj (b.M.Co).length cl, U b.E.A, U b.E.B, Pt cm, Sl cn (b.Rg).length co, Sl cp (b.Tu).length cq, I b.At, I b.Steps, I b.Mode], _, _, _, _] := s
  refine CW.plan (by kernel_rfl) ?_
  intro fp a0
  have s := s.same a0
  refine ap [0, 1, 2] [(79, Po e 4)] ((ad 3 s 0) (ap [4] [(81, Pt e)] ?_))
  refine OA.ldN (i := 5) (cs := [I c.Op, I c.D, I c.A, I c.B, I c.Imm]) rfl (by kernel_rfl) rfl rfl rfl (by kernel_rfl) (by kernel_rfl) (s.blkN 1 rfl 0 5) ?_
  refine ap [8, 9, 10] [(87, Po e 5)] ((ad 11 s 0) (ap [12] [(89, Po l 2)] ((ad 13 s 1) ((be d) fun fr h d => ?_))))
  obtain ⟨fs, ft, fv, y⟩ := s.rowv 3 rfl h
  refine OA.idx (i := 14) 26 1 rfl (by kernel_rfl) rfl rfl rfl y rfl (zh h).1 (zh h).2.1 (by kernel_rfl) (by kernel_rfl) ?_
  refine OA.ld (i := 15) rfl (by kernel_rfl) rfl rfl rfl (by kernel_rfl) (s.rowc 3 rfl (fun _ => rfl) h y 0 _ rfl) ?_
  refine (aa 6 [15, 13, 11, 3]) ((be d) fun r270 bt d => (fn) (qr bt (s.p []) (s.rd 3 rfl (fun _ => rfl) [] rfl (s.len 3 rfl).1) (s.rdB 0 rfl [] rfl) fun fw a1 => ⟨_, rfl, have s := s.j [] [0, 1, 2, 3, 4] a1; ?_⟩))
  refine OA.next ⟨(s.rowc 3 rfl (fun _ => rfl) h y 0 _ rfl), (s.blk 1 rfl rfl), (s.blk 0 rfl rfl), (s.blk 0 rfl rfl), trivial⟩ ?_
  refine ap [7] [(84, I (w64 r270))] ((aa 16 []) ((be d) fun r274 bu d => (fn) (zcA bu (s.p [2]) fun fx fy a2 => ⟨_, rfl, have s := s.j [2] [0, 1, 3, 4] a2; ?_⟩)))
  refine OA.next trivial ?_
  refine aF (bn ?_)
  have s := s.borIn G
  have s := s.borIn H
  refine have s := s.ti 3; have s := s.ti 4; ?_
  obtain ⟨cr, s⟩ := s.s5 (vV wb Sb) 1 5 6 0 3 4 [2] (zf.mk b.M b.E r274.2 b.Rg b.Tu b.At b.Steps b.Mode)
  obtain rfl := ij d
  exact QW.end0 rfl (K cr _ (s.k [1]))
 refine sq ?_
 refine ck (fun a w1 => Rep 142 [(0, Pt e), (3, Pt l), (4, I c.Op), (94, B ((c.Op == 13) && (c.Imm == 0)))] a /\ St w Z w1 [itI (zc1 wb Sb) [Pt e] S0 b, zs l 43 [I c.Op, I c.D, I c.A, I c.B, I c.Imm]]) ?_ fun a w1 ⟨ha, s⟩ => go ha (br d (fun d bv => ?_) fun d bv => ?_)
 ·refine rn (pu 3 [(97, B (c.Op == 13))] (sp 97 (fun z => ?_) fun z => ?_))
  ·refine pu 1 [(98, Po l 4)] ((ld s 1) (pu 3 [(94, B (c.Imm == 0))] (nl ?_)))
   exact QW.say 94 (v := B ((c.Op == 13) && (c.Imm == 0))) rfl (by rw [z]; try rfl) (me fun a ha => ⟨ha.ag, s.k [0, 1]⟩)
  refine pu 5 [(94, B false)] (nl ?_)
  exact QW.say 94 (v := B ((c.Op == 13) && (c.Imm == 0))) rfl (by rw [z]; try rfl) (me fun a ha => ⟨ha.ag, s.k [0, 1]⟩)
 ·obtain ⟨fz, f0, f1, f2, f3, f4, f5, f6, f7, f8, s⟩ := s.o5 0
  have J := s.borOut 2 rfl
  have a3 := J.bor f
  have O := s.borOut 3 rfl
  have a4 := O.bor f
  refine have s := s.t1 5; have s := s.t1 6; have s := s.k [0, 1, 4, 5, 6]; ?_
  obtain ⟨f9, ct, cu, rfl⟩ := a3.len
  obtain ⟨ga, cv, cw, rfl⟩ := a4.len
  obtain ⟨cx, rfl⟩ := s.fq 2
  obtain ⟨gb, cy, cz, rfl⟩ := s.le 3
  obtain ⟨gc, c0, c1, rfl⟩ := s.le 4
  have s : St _ _ _ [zs e 73 [Sl ct (b.M.Ms).length cu, Sl cv (b.M.Co).length cw, U b.E.A, U b.E.B, Pt cx, Sl cy (b.Rg).length cz, Sl c0 (b.Tu).length c1, I b.At, I b.Steps, I b.Mode], _, _, _, _] := s
  refine CW.tail 12 (by kernel_rfl) (by kernel_rfl) ?_
  intro gd a5
  have s := s.same a5
  refine op' 3 [(104, Po e 5)] ((od s 0) (op' 1 [(106, Po l 1)] ((od s 1) (op' 4 [(111, Po e 2)] ((od s 0) ((be d) fun ge o d => ?_))))))
  obtain ⟨gf, gg, gh, ah⟩ := s.rowv 3 rfl o
  refine OS.idx 26 1 rfl rfl rfl rfl rfl ah rfl (zh o).1 (zh o).2.1 (by kernel_rfl) (by kernel_rfl) ?_
  refine OS.on ?_
  refine OW.stR s 3 rfl ah (fun _ => rfl) rfl rfl o 0 rfl rfl rfl (by kernel_rfl) rfl rfl b.E.A rfl ?_
  intro gi s
  refine nl (bn ?_)
  have s := s.borIn J
  have s := s.borIn O
  refine have s := s.ti 3; have s := s.ti 4; ?_
  obtain ⟨c2, s⟩ := s.s5 (vV wb Sb) 0 5 6 2 3 4 [1] (zf.mk b.M b.E b.S (b.Rg.set (Int.toNat c.D) b.E.A) b.Tu b.At b.Steps b.Mode)
  obtain rfl := ij d
  exact QW.end0 rfl (K c2 _ (s.k [1]))
 refine rg (pu 3 [(114, B (c.Op == 13))] (nx (br d (fun d bw => ?_) fun d bw => ?_)))
 ·obtain ⟨gj, gk, gl, gm, gn, gp, gq, gr, gs, gt, s⟩ := s.o5 0
  have Q := s.borOut 2 rfl
  have a6 := Q.bor f
  have T := s.borOut 3 rfl
  have a7 := T.bor f
  refine have s := s.t1 5; have s := s.t1 6; have s := s.k [0, 1, 4, 5, 6]; ?_
  obtain ⟨gu, c3, c4, rfl⟩ := a6.len
  obtain ⟨gv, c5, c6, rfl⟩ := a7.len
  obtain ⟨c7, rfl⟩ := s.fq 2
  obtain ⟨gw, c8, c9, rfl⟩ := s.le 3
  obtain ⟨gx, da, db, rfl⟩ := s.le 4
  have s : St _ _ _ [zs e 73 [Sl c3 (b.M.Ms).length c4, Sl c5 (b.M.Co).length c6, U b.E.A, U b.E.B, Pt c7, Sl c8 (b.Rg).length c9, Sl da (b.Tu).length db, I b.At, I b.Steps, I b.Mode], _, _, _, _] := s
  refine CW.tail 12 (by kernel_rfl) (by kernel_rfl) ?_
  intro gy a8
  have s := s.same a8
  refine op' 3 [(119, Po e 5)] ((od s 0) (op' 1 [(121, Po l 1)] ((od s 1) (op' 4 [(126, Po e 3)] ((od s 0) ((be d) fun gz q d => ?_))))))
  obtain ⟨g0, g1, g2, ai⟩ := s.rowv 3 rfl q
  refine OS.idx 26 1 rfl rfl rfl rfl rfl ai rfl (zh q).1 (zh q).2.1 (by kernel_rfl) (by kernel_rfl) ?_
  refine OS.on ?_
  refine OW.stR s 3 rfl ai (fun _ => rfl) rfl rfl q 0 rfl rfl rfl (by kernel_rfl) rfl rfl b.E.B rfl ?_
  intro g3 s
  refine nl (bn ?_)
  have s := s.borIn Q
  have s := s.borIn T
  refine have s := s.ti 3; have s := s.ti 4; ?_
  obtain ⟨dc, s⟩ := s.s5 (vV wb Sb) 0 5 6 2 3 4 [1] (zf.mk b.M b.E b.S (b.Rg.set (Int.toNat c.D) b.E.B) b.Tu b.At b.Steps b.Mode)
  obtain rfl := ij d
  exact QW.end0 rfl (K dc _ (s.k [1]))
 refine rg (pu 3 [(129, B (c.Op == 14))] (nx (br d (fun d bz => ?_) fun d bz => ?_)))
 ·obtain ⟨g4, g5, g6, g7, g8, g9, hc, hd, he, hf, s⟩ := s.o5 0
  have V := s.borOut 2 rfl
  have a9 := V.bor f
  have W := s.borOut 3 rfl
  have ba := W.bor f
  refine have s := s.t1 5; have s := s.t1 6; have s := s.k [0, 1, 4, 5, 6]; ?_
  obtain ⟨hg, dd, de, rfl⟩ := a9.len
  obtain ⟨hh, df, dg, rfl⟩ := ba.len
  obtain ⟨dh, rfl⟩ := s.fq 2
  obtain ⟨hi, di, dj, rfl⟩ := s.le 3
  obtain ⟨hj, dk, dl, rfl⟩ := s.le 4
  have s : St _ _ _ [zs e 73 [Sl dd (b.M.Ms).length de, Sl df (b.M.Co).length dg, U b.E.A, U b.E.B, Pt dh, Sl di (b.Rg).length dj, Sl dk (b.Tu).length dl, I b.At, I b.Steps, I b.Mode], _, _, _, _] := s
  refine CW.tail 10 (by kernel_rfl) (by kernel_rfl) ?_
  intro hk bb
  have s := s.same bb
  refine op' 3 [(134, Po e 5)] ((od s 0) (op' 1 [(136, Po l 1)] ((od s 1) (op' 1 [(138, Po l 4)] ((od s 1) (op' 1 [(140, U (zp c.Imm))] ((be d) fun hl t d => ?_)))))))
  obtain ⟨hm, hn, ho, aj⟩ := s.rowv 3 rfl t
  refine OS.idx 26 1 rfl rfl rfl rfl rfl aj rfl (zh t).1 (zh t).2.1 (by kernel_rfl) (by kernel_rfl) ?_
  refine OS.on ?_
  refine OW.stR s 3 rfl aj (fun _ => rfl) rfl rfl t 0 rfl rfl rfl (by kernel_rfl) rfl rfl (zp c.Imm) rfl ?_
  intro hp s
  refine nl (bn ?_)
  have s := s.borIn V
  have s := s.borIn W
  refine have s := s.ti 3; have s := s.ti 4; ?_
  obtain ⟨dm, s⟩ := s.s5 (vV wb Sb) 0 5 6 2 3 4 [1] (zf.mk b.M b.E b.S (b.Rg.set (Int.toNat c.D) (zp c.Imm)) b.Tu b.At b.Steps b.Mode)
  obtain rfl := ij d
  exact QW.end0 rfl (K dm _ (s.k [1]))
 refine sk (bn ?_)
 obtain rfl := ij d
 exact QW.end0 rfl (K S0 _ (s.k [0]))
theorem zcC {w Z wb Sb fu v0 S0 b r R} (e : xE fu b = some r) (s : St w Z w [itI (zc1 wb Sb) [v0] S0 b]) (t : Bor wb Sb w Z)
  (K : ∀ (s0 : List Nat) w', St w Z w' [itI (zc1 wb Sb) [v0] s0 r.2] -> R (Rt (Ag [I r.1.Ki, I r.1.Pc, I r.1.It.Map, I r.1.It.Op, U r.1.It.Key, U r.1.It.Val, U r.1.Val])) w') : Calls Tryz.prog 20 [v0].toArray w R := by
 refine sr 109 Tryz.func20 rfl ?_
 obtain ⟨f, rfl⟩ := s.fq 0
 refine rg ((al s [I 0, I 0, I 0, I 0, U 0, U 0, U 0]) fun b4 w5 s => nx (sq ?_))
 obtain ⟨v6, S7, v8, S9, cx, cy, cz, c0, c1, c2, s⟩ := s.o5 0
 have g := s.borOut 2 rfl
 have a1 := g.bor t
 have h := s.borOut 3 rfl
 have m := h.bor t
 refine have s := s.t1 5; have s := s.t1 6; have s := s.k [0, 1, 4, 5, 6]; ?_
 obtain ⟨c3, H, J, rfl⟩ := a1.len
 obtain ⟨c4, O, Q, rfl⟩ := m.len
 obtain ⟨T, rfl⟩ := s.fq 2
 obtain ⟨c5, V, W, rfl⟩ := s.le 3
 obtain ⟨c6, X, Y, rfl⟩ := s.le 4
 have s : St _ _ _ [zs f 73 [Sl H (b.M.Ms).length J, Sl O (b.M.Co).length Q, U b.E.A, U b.E.B, Pt T, Sl V (b.Rg).length W, Sl X (b.Tu).length Y, I b.At, I b.Steps, I b.Mode], _, _, _, _] := s
 refine CW.plan (by kernel_rfl) ?_
 intro c7 a2
 have s := s.same a2
 refine ap [0, 1, 2, 3] [(12, Po f 1)] ((ad 4 s 0) (ap [5, 6, 7] [(16, Po f 7)] ((ad 8 s 0) ((be e) fun d o e => ?_))))
 obtain ⟨c8, c9, da, C⟩ := m.formv (fun _ => ⟨_, rfl⟩) o
 refine OA.idx (i := 9) 43 5 rfl (by kernel_rfl) rfl rfl rfl C rfl (zh o).1 (zh o).2.1 (by kernel_rfl) (by kernel_rfl) ?_
 refine OA.ldN (i := 10) (cs := zj d) rfl (by kernel_rfl) rfl rfl rfl (by kernel_rfl) (by kernel_rfl) (m.cellv s o C) ?_
 refine (aa 11 [10, 8, 4]) ((al s [I 0, I 0, I 0, I 0, I 0]) fun x db s => ?_)
 refine OA.next ⟨(m.cellv s o C), (s.blk 0 rfl rfl), (s.blk 0 rfl rfl), trivial⟩ ?_
 refine (aa 12 []) ((st s 5 [I d.Op, I d.D, I d.A, I d.B, I d.Imm]) fun dc s => ?_)
 refine OA.next trivial ?_
 refine aF (qn (rg (pu 1 [(20, Pt x)] ((ld s 5) (pu 1 [(4, I d.Op)] (nx (rg (pu 3 [(24, Po f 7)] ((ld s 0) (pu 1 [(26, Ag [I 1, I b.At, I 0, I 0, U 0, U 0, U 0])] ((al s [I 0, I 0, I 0, I 0, U 0, U 0, U 0]) fun q dd s => (st s 6 [I 1, I b.At, I 0, I 0, U 0, U 0, U 0]) fun de s => nx (sq (rg (pu 3 [(29, Po f 9)] ((ld s 0) (pu 1 [(31, B (b.Mode == 1))] (nx (br e (fun e bf => ?_) fun e bf => ?_))))))))))))))))))
 ·refine rg (pu 1 [(32, Pt q)] ((st s 6 [I 5, I b.At, I 0, I 0, U 0, U 0, U 0]) fun df s => nx (rg ((lN [I 5, I b.At, I 0, I 0, U 0, U 0, U 0] (s.blkN 6 rfl 0 7)) ((st s 1 [I 5, I b.At, I 0, I 0, U 0, U 0, U 0]) fun dg s => nx (rt (tr ?_)))))))
  have s := s.borIn g
  have s := s.borIn h
  refine have s := s.ti 3; have s := s.ti 4; ?_
  obtain ⟨bp, s⟩ := s.s5 (vV wb Sb) 0 7 8 2 3 4 [1, 5, 6] b
  obtain rfl := ij e
  exact QW.ret_c rfl rfl (rl (cs := [I 5, I b.At, I 0, I 0, U 0, U 0, U 0]) (s.blkN 0 rfl 0 7)) (K bp _ (s.k [3]))
 refine sn (sq (rg (pu 3 [(36, Po f 9)] ((ld s 0) (pu 1 [(38, B (b.Mode == 2))] (nx (br e (fun e bg => ?_) fun e bg => ?_)))))))
 ·refine rg (pu 1 [(39, Pt q)] ((st s 6 [I 6, I b.At, I 0, I 0, U 0, U 0, U 0]) fun dh s => nx (sq ?_)))
  refine CW.tail 9 (by kernel_rfl) (by kernel_rfl) ?_
  intro di a3
  have s := s.same a3
  refine op' 3 [(42, Po f 5)] ((od s 0) (op' 1 [(44, Po x 2)] ((od s 5) ((be e) fun F u e => ?_))))
  obtain ⟨dj, dk, dl, ab⟩ := s.rowv 3 rfl u
  refine OS.idx 26 1 rfl rfl rfl rfl rfl ab rfl (zh u).1 (zh u).2.1 (by kernel_rfl) (by kernel_rfl) ?_
  refine OS.ld rfl rfl rfl rfl rfl (by kernel_rfl) (s.rowc 3 rfl (fun _ => rfl) u ab 0 _ rfl) ?_
  refine op' 1 [(48, Po q 6)] ?_
  refine OS.on ?_
  refine (st s 6 [I 6, I b.At, I 0, I 0, U 0, U 0, U F]) fun dm s => nx (rg ((lN [I 6, I b.At, I 0, I 0, U 0, U 0, U F] (s.blkN 6 rfl 0 7)) ((st s 1 [I 6, I b.At, I 0, I 0, U 0, U 0, U F]) fun dn s => nx (rt (tr ?_)))))
  have s := s.borIn g
  have s := s.borIn h
  refine have s := s.ti 3; have s := s.ti 4; ?_
  obtain ⟨bq, s⟩ := s.s5 (vV wb Sb) 0 7 8 2 3 4 [1, 5, 6] b
  obtain rfl := ij e
  exact QW.ret_c rfl rfl (rl (cs := [I 6, I b.At, I 0, I 0, U 0, U 0, U F]) (s.blkN 0 rfl 0 7)) (K bq _ (s.k [3]))
 refine sn (rg (pu 3 [(50, Pt f), (52, Po f 8)] ((ld s 0) (pu 3 [(54, I (w64 (b.Steps + 1))), (56, Po f 8)] ((st s 0 [Sl H (b.M.Ms).length J, Sl O (b.M.Co).length Q, U b.E.A, U b.E.B, Pt T, Sl V (b.Rg).length W, Sl X (b.Tu).length Y, I b.At, I (w64 (b.Steps + 1)), I b.Mode]) fun dp s => nx (sq (rg (pu 2 [(58, B (d.Op == 21))] (nx (br e (fun e bh => ?_) fun e bh => ?_))))))))))
 ·refine rg (pu 1 [(59, Pt f)] ((lN [I d.Op, I d.D, I d.A, I d.B, I d.Imm] (s.blkN 5 rfl 0 5)) ((lN [I 1, I b.At, I 0, I 0, U 0, U 0, U 0] (s.blkN 6 rfl 0 7)) ?_)))
  have s := s.borIn g
  have s := s.borIn h
  refine have s := s.ti 3; have s := s.ti 4; ?_
  obtain ⟨bs, s⟩ := s.s5 (vV wb Sb) 0 7 8 2 3 4 [1, 5, 6] (zf.mk b.M b.E b.S b.Rg b.Tu b.At (w64 (b.Steps + 1)) b.Mode)
  refine (be e) fun r103 a4 e => (fn) (zcy a4 (s.p [3]) (t.on s [3]) fun bi bt ac => ⟨_, rfl, have s := s.j [3] [0, 1, 2] ac; (st s 1 [I r103.1.Ki, I r103.1.Pc, I r103.1.It.Map, I r103.1.It.Op, U r103.1.It.Key, U r103.1.It.Val, U r103.1.Val]) fun bu s => nx (rt (tr ?_))⟩)
  obtain rfl := ij e
  exact QW.ret_c rfl rfl (rl (cs := [I r103.1.Ki, I r103.1.Pc, I r103.1.It.Map, I r103.1.It.Op, U r103.1.It.Key, U r103.1.It.Val, U r103.1.Val]) (s.blkN 1 rfl 0 7)) (K bi _ (s.k [0]))
 refine sn (sq (rg (pu 2 [(64, B (d.Op == 22))] (nx (br e (fun e a5 => ?_) fun e a5 => ?_)))))
 ·refine rg (pu 3 [(67, Po f 9)] ((st s 0 [Sl H (b.M.Ms).length J, Sl O (b.M.Co).length Q, U b.E.A, U b.E.B, Pt T, Sl V (b.Rg).length W, Sl X (b.Tu).length Y, I b.At, I (w64 (b.Steps + 1)), I 2]) fun bv s => nx (rg (pu 1 [(68, Pt q)] ((st s 6 [I 4, I b.At, I 0, I 0, U 0, U 0, U 0]) fun bw s => nx (sq ?_))))))
  refine CW.tail 9 (by kernel_rfl) (by kernel_rfl) ?_
  intro bx ae
  have s := s.same ae
  refine op' 3 [(71, Po f 5)] ((od s 0) (op' 1 [(73, Po x 2)] ((od s 5) ((be e) fun v n e => ?_))))
  obtain ⟨bz, b0, b2, G⟩ := s.rowv 3 rfl n
  refine OS.idx 26 1 rfl rfl rfl rfl rfl G rfl (zh n).1 (zh n).2.1 (by kernel_rfl) (by kernel_rfl) ?_
  refine OS.ld rfl rfl rfl rfl rfl (by kernel_rfl) (s.rowc 3 rfl (fun _ => rfl) n G 0 _ rfl) ?_
  refine op' 1 [(77, Po q 6)] ?_
  refine OS.on ?_
  refine (st s 6 [I 4, I b.At, I 0, I 0, U 0, U 0, U v]) fun b3 s => nx (rg ((lN [I 4, I b.At, I 0, I 0, U 0, U 0, U v] (s.blkN 6 rfl 0 7)) ((st s 1 [I 4, I b.At, I 0, I 0, U 0, U 0, U v]) fun b5 s => nx (rt (tr ?_)))))
  have s := s.borIn g
  have s := s.borIn h
  refine have s := s.ti 3; have s := s.ti 4; ?_
  obtain ⟨bj, s⟩ := s.s5 (vV wb Sb) 0 7 8 2 3 4 [1, 5, 6] (zf.mk b.M b.E b.S b.Rg b.Tu b.At (w64 (b.Steps + 1)) 2)
  obtain rfl := ij e
  exact QW.ret_c rfl rfl (rl (cs := [I 4, I b.At, I 0, I 0, U 0, U 0, U v]) (s.blkN 0 rfl 0 7)) (K bj _ (s.k [3]))
 refine sn (rg ((lN [I d.Op, I d.D, I d.A, I d.B, I d.Imm] (s.blkN 5 rfl 0 5)) ((be e) fun r139 a6 e => (fn) (vq a6 (s.p []) fun b6 af => ⟨_, rfl, have s := s.j [] [0, 1, 2, 3, 4, 5, 6] af; pu 7 [(6, I r139.1), (7, B r139.2.1)] (nx (sq (sq ((be e) fun c l e => ?_))))⟩))))
 refine ck (fun a w1 => ∃ (ah : List Nat), Rep 109 [(0, Pt f), (2, Pt b4), (3, Pt x), (5, Pt q), (6, I r139.1), (7, B r139.2.1), (90, B c.2)] a /\ St w Z w1 [itI (zc1 wb Sb) [Pt f] ah c.1, zs b4 80 [I 0, I 0, I 0, I 0, U 0, U 0, U 0], zs x 43 [I d.Op, I d.D, I d.A, I d.B, I d.Imm], zs q 80 [I 1, I b.At, I 0, I 0, U 0, U 0, U 0]]) ?_ fun a w1 ⟨ah, ha, s⟩ => go ha (br e (fun e a7 => ?_) fun e a7 => ?_)
 ·refine rn (pu 2 [(86, B r139.2.1)] (si 86 l (fun l a8 => ?_) fun l a8 => ?_))
  ·refine pu 1 [(87, Pt f)] ((lN [I d.Op, I d.D, I d.A, I d.B, I d.Imm] (s.blkN 5 rfl 0 5)) ?_)
   have s := s.borIn g
   have s := s.borIn h
   refine have s := s.ti 3; have s := s.ti 4; ?_
   obtain ⟨b7, s⟩ := s.s5 (vV wb Sb) 0 7 8 2 3 4 [1, 5, 6] (zf.mk b.M b.E b.S b.Rg b.Tu b.At (w64 (b.Steps + 1)) b.Mode)
   refine (be l) fun r156 a9 l => (fn) (zcz a9 (s.p [3]) (t.on s [3]) fun bk b8 ai => ⟨_, rfl, have s := s.j [3] [0, 1, 2] ai; pu 1 [(90, B r156.1)] (nl ?_)⟩)
   obtain rfl := ij l
   exact me fun a ha => ⟨bk, ha.ag, s.k [0, 1, 2, 3]⟩
  refine pu 4 [(90, B false)] (nl ?_)
  have s := s.borIn g
  have s := s.borIn h
  refine have s := s.ti 3; have s := s.ti 4; ?_
  obtain ⟨bl, s⟩ := s.s5 (vV wb Sb) 0 7 8 2 3 4 [1, 5, 6] (zf.mk b.M b.E b.S b.Rg b.Tu b.At (w64 (b.Steps + 1)) b.Mode)
  obtain rfl := ij l
  exact me fun a ha => ⟨bl, ha.ag, s.k [3, 0, 1, 2]⟩
 ·refine sq ?_
  obtain ⟨b9, ca, cb, cc, cd, ce, cf, cg, ch, ci, s⟩ := s.o5 0
  have y := s.borOut 4 rfl
  have aj := y.bor t
  have z := s.borOut 5 rfl
  have ak := z.bor t
  refine have s := s.t1 7; have s := s.t1 8; have s := s.k [0, 1, 2, 3, 6, 7, 8]; ?_
  obtain ⟨cj, am, an, rfl⟩ := aj.len
  obtain ⟨cl, ao, aq, rfl⟩ := ak.len
  obtain ⟨ar, rfl⟩ := s.fq 4
  obtain ⟨cm, au, av, rfl⟩ := s.le 5
  obtain ⟨cn, aw, ax, rfl⟩ := s.le 6
  have s : St _ _ _ [zs f 73 [Sl am (c.1.M.Ms).length an, Sl ao (c.1.M.Co).length aq, U c.1.E.A, U c.1.E.B, Pt ar, Sl au (c.1.Rg).length av, Sl aw (c.1.Tu).length ax, I c.1.At, I c.1.Steps, I c.1.Mode], _, _, _, _, _, _] := s
  refine rn (pu 4 [(91, Pt f), (94, Po f 7)] ((ld s 0) (pu 4 [(97, I (w64 (c.1.At + r139.1))), (99, Po f 7)] ((st s 0 [Sl am (c.1.M.Ms).length an, Sl ao (c.1.M.Co).length aq, U c.1.E.A, U c.1.E.B, Pt ar, Sl au (c.1.Rg).length av, Sl aw (c.1.Tu).length ax, I (w64 (c.1.At + r139.1)), I c.1.Steps, I c.1.Mode]) fun co s => nx (rg ((lN [I 1, I b.At, I 0, I 0, U 0, U 0, U 0] (s.blkN 3 rfl 0 7)) ((st s 1 [I 1, I b.At, I 0, I 0, U 0, U 0, U 0]) fun cp s => nx (rt (tr ?_)))))))))
  have s := s.borIn y
  have s := s.borIn z
  refine have s := s.ti 5; have s := s.ti 6; ?_
  obtain ⟨bm, s⟩ := s.s5 (vV wb Sb) 0 7 8 4 5 6 [1, 2, 3] (zf.mk c.1.M c.1.E c.1.S c.1.Rg c.1.Tu (w64 (c.1.At + r139.1)) c.1.Steps c.1.Mode)
  obtain rfl := ij e
  exact QW.ret_c rfl rfl (rl (cs := [I 1, I b.At, I 0, I 0, U 0, U 0, U 0]) (s.blkN 0 rfl 0 7)) (K bm _ (s.k [3]))
 refine sn (sq (rg (pu 2 [(102, B (!r139.2.1))] (nx (br e (fun e ba => ?_) fun e ba => ?_)))))
 ·refine rn (pu 1 [(103, Pt f)] ((lN [I d.Op, I d.D, I d.A, I d.B, I d.Imm] (s.blkN 2 rfl 0 5)) ((be e) fun r201 bb e => (fn) (zcB bb (s.p [0]) (t.on s [0]) fun cq cr ay => ⟨_, rfl, have s := s.j [0] [1, 2, 3] ay; nx (rg (pu 1 [(106, Pt f)] ((be e) fun r211 bc e => (fn) (qY bc (s.p [0]) (t.on s [0]) fun bn ct az => ⟨_, rfl, have s := s.j [0] [1, 2, 3] az; nx (rg ((lN [I 1, I b.At, I 0, I 0, U 0, U 0, U 0] (s.blkN 3 rfl 0 7)) ((st s 1 [I 1, I b.At, I 0, I 0, U 0, U 0, U 0]) fun cu s => nx (rt ?_))))⟩))))⟩))))
  obtain rfl := ij e
  exact QW.ret_c rfl rfl (rl (cs := [I 1, I b.At, I 0, I 0, U 0, U 0, U 0]) (s.blkN 1 rfl 0 7)) (K bn _ (s.k [0]))
 refine sn (rg (pu 1 [(106, Pt f)] ((be e) fun r223 bd e => (fn) (qY bd (s.p [0]) (t.on s [0]) fun bo cv a0 => ⟨_, rfl, have s := s.j [0] [1, 2, 3] a0; nx (rg ((lN [I 1, I b.At, I 0, I 0, U 0, U 0, U 0] (s.blkN 3 rfl 0 7)) ((st s 1 [I 1, I b.At, I 0, I 0, U 0, U 0, U 0]) fun cw s => nx (rt ?_))))⟩))))
 obtain rfl := ij e
 exact QW.ret_c rfl rfl (rl (cs := [I 1, I b.At, I 0, I 0, U 0, U 0, U 0]) (s.blkN 1 rfl 0 7)) (K bo _ (s.k [0]))
theorem zeu {w Z s b r R} (g : zaf s b = some r) (c : St w Z w [])
  (K : ∀ w', St w Z w' [] -> R (Rt (U r)) w') : Calls Tryz.prog 45 [I s, Ag [I b.E, B b.Found, U b.Val, B b.Out, U b.OutKey, U b.OutVal]].toArray w R := by
 refine sr 32 Tryz.func45 rfl (rg ((bx c [I b.E, B b.Found, U b.Val, B b.Out, U b.OutKey, U b.OutVal]) fun i u c => pu 1 [] (nx (sq (sq ?_)))))
 refine ck (fun a n => Rep 32 [(0, I s), (3, Pt i), (10, B ((s == 0) || (s == 4)))] a /\ St w Z n [zs i 45 [I b.E, B b.Found, U b.Val, B b.Out, U b.OutKey, U b.OutVal]]) ?_ fun a n ⟨d, c⟩ => go d (br g (fun g t => ?_) fun g t => ?_)
 ·refine rn (pu 3 [(7, B (s == 0))] (sp 7 (fun o => ?_) fun o => ?_))
  ·refine pu 3 [(10, B true)] (nl ?_)
   exact QW.say 10 (v := B ((s == 0) || (s == 4))) rfl (by rw [o]; try rfl) (me fun a d => ⟨d.ag, c.k [0]⟩)
  refine pu 3 [(10, B (s == 4))] (nl ?_)
  exact QW.say 10 (v := B ((s == 0) || (s == 4))) rfl (by rw [o]; try rfl) (me fun a d => ⟨d.ag, c.k [0]⟩)
 ·refine rg (pu 1 [(11, Po i 2)] ((ld c 0) (pu 1 [(4, U b.Val)] (nx (rt (tr ?_))))))
  obtain rfl := ij g
  exact r1 (K _ (c.k []))
 refine sn (sq (sq ?_))
 refine ck (fun a n => Rep 32 [(31, B ((((s == 1) || (s == 3)) && b.Found) || ((s == 2) && (b.E == 0))))] a /\ St w Z n []) ?_ fun a n ⟨d, c⟩ => go d (br g (fun g q => ?_) fun g q => ?_)
 ·refine rn (pu 3 [(15, B (s == 1))] (sp 15 (fun e => ?_) fun e => ?_))
  ·refine pu 5 [(19, B true), (20, Po i 1)] ((ld c 0) (pu 2 [(23, B b.Found)] (sp 23 (fun m => ?_) fun m => ?_)))
   ·refine pu 8 [(31, B true)] (nl ?_)
    exact QW.say 31 (v := B ((((s == 1) || (s == 3)) && b.Found) || ((s == 2) && (b.E == 0)))) rfl (by rw [e, m]; try rfl) (me fun a d => ⟨d.ag, c.k []⟩)
   refine pu 3 [(26, B (s == 2))] (sp 26 (fun p => ?_) fun p => ?_)
   ·refine pu 1 [(27, Pt i)] ((ld c 0) (pu 3 [(31, B (b.E == 0))] (nl ?_)))
    exact QW.say 31 (v := B ((((s == 1) || (s == 3)) && b.Found) || ((s == 2) && (b.E == 0)))) rfl (by rw [e, m, p]; try rfl) (me fun a d => ⟨d.ag, c.k []⟩)
   refine pu 5 [(31, B false)] (nl ?_)
   exact QW.say 31 (v := B ((((s == 1) || (s == 3)) && b.Found) || ((s == 2) && (b.E == 0)))) rfl (by rw [e, m, p]; try rfl) (me fun a d => ⟨d.ag, c.k []⟩)
  refine pu 4 [(19, B (s == 3))] (sp 19 (fun f => ?_) fun f => ?_)
  ·refine pu 1 [(20, Po i 1)] ((ld c 0) (pu 2 [(23, B b.Found)] (sp 23 (fun h => ?_) fun h => ?_)))
   ·refine pu 8 [(31, B true)] (nl ?_)
    exact QW.say 31 (v := B ((((s == 1) || (s == 3)) && b.Found) || ((s == 2) && (b.E == 0)))) rfl (by rw [e, f, h]; try rfl) (me fun a d => ⟨d.ag, c.k []⟩)
   refine pu 3 [(26, B (s == 2))] (sp 26 (fun j => ?_) fun j => ?_)
   ·refine pu 1 [(27, Pt i)] ((ld c 0) (pu 3 [(31, B (b.E == 0))] (nl ?_)))
    exact QW.say 31 (v := B ((((s == 1) || (s == 3)) && b.Found) || ((s == 2) && (b.E == 0)))) rfl (by rw [e, f, h, j]; try rfl) (me fun a d => ⟨d.ag, c.k []⟩)
   refine pu 5 [(31, B false)] (nl ?_)
   exact QW.say 31 (v := B ((((s == 1) || (s == 3)) && b.Found) || ((s == 2) && (b.E == 0)))) rfl (by rw [e, f, h, j]; try rfl) (me fun a d => ⟨d.ag, c.k []⟩)
  refine pu 7 [(23, B false), (26, B (s == 2))] (sp 26 (fun l => ?_) fun l => ?_)
  ·refine pu 1 [(27, Pt i)] ((ld c 0) (pu 3 [(31, B (b.E == 0))] (nl ?_)))
   exact QW.say 31 (v := B ((((s == 1) || (s == 3)) && b.Found) || ((s == 2) && (b.E == 0)))) rfl (by rw [e, f, l]; try rfl) (me fun a d => ⟨d.ag, c.k []⟩)
  refine pu 5 [(31, B false)] (nl ?_)
  exact QW.say 31 (v := B ((((s == 1) || (s == 3)) && b.Found) || ((s == 2) && (b.E == 0)))) rfl (by rw [e, f, l]; try rfl) (me fun a d => ⟨d.ag, c.k []⟩)
 ·refine rg (pu 1 [(4, U 1)] (nx (rt (tr ?_))))
  obtain rfl := ij g
  exact r1 (K _ (c.k []))
 refine sn (rg (pu 1 [(4, U 0)] (nx (rt ?_))))
 obtain rfl := ij g
 exact r1 (K _ (c.k []))
theorem zcd {w Z wb Sb O S0 a b r R} (c : xb a b = some r) (s : St w Z w [itI (zc1 wb Sb) [O] S0 a]) (Q : Bor wb Sb w Z)
  (K : ∀ (s0 : List Nat) w', St w Z w' [itI (zc1 wb Sb) [O] s0 r.2] -> R (Rt (I r.1)) w') : Calls Tryz.prog 22 [O, Ag [I b.E, B b.Found, U b.Val, B b.Out, U b.OutKey, U b.OutVal]].toArray w R := by
 refine sr 34 Tryz.func22 rfl ?_
 obtain ⟨l, rfl⟩ := s.fq 0
 refine rg ((bx s [I b.E, B b.Found, U b.Val, B b.Out, U b.OutKey, U b.OutVal]) fun b4 w5 s => pu 1 [] (nx (sq (sq ?_))))
 obtain ⟨v6, S7, v8, S9, ae, af, ag, ah, ai, aj, s⟩ := s.o5 0
 have d := s.borOut 2 rfl
 have o := d.bor Q
 have e := s.borOut 3 rfl
 have f := e.bor Q
 refine have s := s.t1 5; have s := s.t1 6; have s := s.k [0, 1, 4, 5, 6]; ?_
 obtain ⟨ak, v, x, rfl⟩ := o.len
 obtain ⟨al, y, z, rfl⟩ := f.len
 obtain ⟨C, rfl⟩ := s.fq 2
 obtain ⟨am, D, F, rfl⟩ := s.le 3
 obtain ⟨an, G, H, rfl⟩ := s.le 4
 have s : St _ _ _ [zs l 73 [Sl v (a.M.Ms).length x, Sl y (a.M.Co).length z, U a.E.A, U a.E.B, Pt C, Sl D (a.Rg).length F, Sl G (a.Tu).length H, I a.At, I a.Steps, I a.Mode], _, _, _, _] := s
 refine rn (pu 3 [(7, Po l 9)] ((ld s 0) (pu 1 [(9, B (a.Mode != 1))] (nx (br c (fun c T => ?_) fun c T => ?_)))))
 ·refine rg (pu 1 [(4, I 2)] (nx (rt (tr ?_))))
  have s := s.borIn d
  have s := s.borIn e
  refine have s := s.ti 3; have s := s.ti 4; ?_
  obtain ⟨X, s⟩ := s.s5 (vV wb Sb) 0 5 6 2 3 4 [1] a
  obtain rfl := ij c
  exact r1 (K X _ (s.k [1]))
 refine sn (sq ?_)
 refine CW.plan (by kernel_rfl) ?_
 intro ao q
 have s := s.same q
 refine ap [0, 1, 2] [(12, Po l 5)] ((ad 3 s 0) (ap [4, 5, 6, 7] [(17, Po l 1)] ((ad 8 s 0) (ap [9, 10, 11] [(21, Po l 7)] ((ad 12 s 0) ((be c) fun aq g c => ?_))))))
 obtain ⟨Y, ab, ar, m⟩ := f.formv (fun _ => ⟨_, rfl⟩) g
 refine OA.idx (i := 13) 43 5 rfl (by kernel_rfl) rfl rfl rfl m rfl (zh g).1 (zh g).2.1 (by kernel_rfl) (by kernel_rfl) ?_
 refine ap [14] [(24, .pointer (some ⟨Y, ab + Int.toNat a.At * 5 + 4, none⟩))] ?_
 refine OA.ld (i := 15) rfl (by kernel_rfl) rfl rfl rfl (by kernel_rfl) (f.cellv s g m 4 _ rfl) ?_
 refine OA.ldN (i := 16) (cs := [I b.E, B b.Found, U b.Val, B b.Out, U b.OutKey, U b.OutVal]) rfl (by kernel_rfl) rfl rfl rfl (by kernel_rfl) (by kernel_rfl) (s.blkN 1 rfl 0 6) ?_
 refine (aa 17 [3]) ((be c) fun J V c => (fn) (zeu V (s.p []) fun au t => ⟨_, rfl, have s := s.j [] [0, 1, 2, 3, 4] t; ?_⟩))
 refine OA.next ⟨(s.blk 0 rfl rfl), trivial⟩ ?_
 refine (be c) fun av h c => ?_
 obtain ⟨aw, ax, ay, n⟩ := s.rowv 3 rfl h
 refine OA.idx (i := 18) 26 1 rfl (by kernel_rfl) rfl rfl rfl n rfl (zh h).1 (zh h).2.1 (by kernel_rfl) (by kernel_rfl) ?_
 refine (aa 19 []) ?_
 refine OW.stR s 3 rfl n (fun _ => rfl) rfl rfl h 0 rfl rfl rfl (by kernel_rfl) rfl rfl J rfl ?_
 intro az s
 refine OA.next trivial ?_
 refine aF (qn (rg (pu 3 [(31, Po l 9)] ((st s 0 [Sl v (a.M.Ms).length x, Sl y (a.M.Co).length z, U a.E.A, U a.E.B, Pt C, Sl D (a.Rg).length F, Sl G (a.Tu).length H, I a.At, I a.Steps, I 0]) fun a0 s => nx (rg (pu 1 [(32, Pt l)] ?_))))))
 have s := s.borIn d
 have s := s.borIn e
 refine have s := s.ti 3; have s := s.ti 4; ?_
 obtain ⟨a1, s⟩ := s.s5 (vV wb Sb) 0 5 6 2 3 4 [1] (zf.mk a.M a.E a.S (a.Rg.set (Int.toNat 0) J) a.Tu a.At a.Steps 0)
 refine (be c) fun a2 W c => (fn) (qY W (s.p [1]) (Q.on s [1]) fun ac a3 u => ⟨_, rfl, have s := s.j [1] [0] u; nx (rg (pu 1 [(4, I 0)] (nx (rt ?_))))⟩)
 obtain rfl := ij c
 exact r1 (K ac _ (s.k [0]))
theorem zev {w Z wb Sb fu V W F G v2 H r R} (f : zag fu F G H = some r) (s : St w Z w []) (q : Bor wb Sb w Z) (X : Rd wb Sb V (zx .i64) 1 F.Ms) (Y : Rd wb Sb W zj 5 F.Co) (h2 : Rd wb Sb v2 qk 6 H)
  (K : ∀ (x0 : Value) w', St w Z w' [qH x0 80 qe 7 r.1] -> R (Rt (.tuple #[x0, I r.2])) w') : Calls Tryz.prog 9 [Ag [V, W], Ag [U G.A, U G.B], v2].toArray w R := by
 refine sr 53 Tryz.func9 rfl ?_
 have h0_0b := X.bor q
 have h0_1b := Y.bor q
 have h2b := h2.bor q
 obtain ⟨l1, a2, c3, rfl⟩ := h0_0b.len
 obtain ⟨l4, a5, c6, rfl⟩ := h0_1b.len
 obtain ⟨l7, a8, c9, rfl⟩ := h2b.len
 refine rg ((bx s [Sl a2 (F.Ms).length c3, Sl a5 (F.Co).length c6]) fun dk dl s => (bx s [U G.A, U G.B]) fun dm dn s => pu 2 [] (nx (rg ((lN [Sl a2 (F.Ms).length c3, Sl a5 (F.Co).length c6] (s.blkN 0 rfl 0 2)) ((lN [U G.A, U G.B] (s.blkN 1 rfl 0 2)) (pu 1 [(16, Ag [Sn])] ((bx s [Sn]) fun dp dq s => ?_)))))))
 have s := s.nilRow zl 100 xo 3
 refine have s := s.ti 3; ?_
 obtain ⟨dr, s⟩ := s.s1 ze5 2 3 [0, 1] (zk.mk ([] : List zl))
 refine (be f) fun t az f => (fn) (zfy az (s.p [2]) (q.on s [2]) X Y (fun b0 ds b1 b2 a0 u => ⟨_, rfl, ?_⟩) fun b2 a1 u => ⟨_, rfl, ?_⟩)
 ·have f := zg9 f a0
  refine have s := s.j [2] [0, 1] u; ?_
  obtain ⟨h, rfl⟩ := s.fq 0
  refine pu 5 [(8, Pt h), (9, I t.2)] (nx (sq (rg (pu 2 [(22, B (t.2 != 0))] (nx (br f (fun f a3 => ?_) fun f a3 => ?_))))))
  ·refine rg (pu 3 [(6, Sn), (7, I t.2)] (nx (rt (tr ?_))))
   have s := s.nilRow zA 80 qe 7
   obtain rfl := ij f
   exact r2 (K (Sn) _ (s.k [3]))
  refine sn (rg (pu 1 [(10, Sn)] (nx (rg (pu 1 [(11, I 0)] (nx (sq ((be f) fun v ap f => ?_))))))))
  refine ck (fun a D => ∃ (J : Value), Rep 53 [(10, J)] a /\ St w Z D [qH J 80 qe 7 v]) ?_ fun a D ⟨J, g, s⟩ => go g ?_
  ·refine bl ?_
   have s := s.nilRow zA 80 qe 7
   refine CW.loop (fun n a D => ∃ (c : zf × (List zA) × Int) (aa : List Nat) (O : Value), Rep 53 [(2, Sl a8 (H).length c9), (8, Pt h), (10, O), (11, I c.2.2)] a /\ St w Z D [itI (zc1 wb Sb) [Pt h] aa c.1, qH O 80 qe 7 c.2.1] /\ loop (zo fu H) n c = some v) fu (fun a g => ⟨(b0, ([] : List zA), 0), b1, (Sn), g.ag, s.keep [0, 3] rfl, ap⟩) ?_
   rintro x a D ⟨c, aa, O, g, s, d⟩
   rcases x with _ | x
   ·exact (jX d).elim
   refine go g ?_
   obtain ⟨b3, ab, ac, rfl⟩ := s.le 1
   refine sq (sq ?_)
   obtain ⟨b4, b5, b6, b7, b8, b9, ca, cb, cc, cd, s⟩ := s.o5 0
   have m := s.borOut 2 rfl
   have ad := m.bor q
   have o := s.borOut 3 rfl
   have ae := o.bor q
   refine have s := s.t1 5; have s := s.t1 6; have s := s.k [0, 1, 4, 5, 6]; ?_
   obtain ⟨ce, a4, a6, rfl⟩ := ad.len
   obtain ⟨cf, a7, a9, rfl⟩ := ae.len
   obtain ⟨ba, rfl⟩ := s.fq 2
   obtain ⟨cg, bb, bc, rfl⟩ := s.le 3
   obtain ⟨ch, bd, bf, rfl⟩ := s.le 4
   have s : St _ _ _ [zs h 73 [Sl a4 (c.1.M.Ms).length a6, Sl a7 (c.1.M.Co).length a9, U c.1.E.A, U c.1.E.B, Pt ba, Sl bb (c.1.Rg).length bc, Sl bd (c.1.Tu).length bf, I c.1.At, I c.1.Steps, I c.1.Mode], _, _, _, _] := s
   refine rn (pu 3 [(26, Po h 9)] ((ld s 0) (pu 1 [(28, B (c.1.Mode != 2))] (nx (br d (fun d aq => ?_) fun d aq => ?_)))))
   ·refine sn (bl (rg (pu 1 [(29, Pt h)] ?_)))
    have s := s.borIn m
    have s := s.borIn o
    refine have s := s.ti 3; have s := s.ti 4; ?_
    obtain ⟨ci, s⟩ := s.s5 (vV wb Sb) 0 5 6 2 3 4 [1] c.1
    refine (be d) fun b ar d => (fn) (zcC ar (s.p [1]) (q.on s [1]) fun cj cl af => ⟨_, rfl, have s := s.j [1] [0] af; (al s [I 0, I 0, I 0, I 0, U 0, U 0, U 0]) fun cm cn s => (st s 2 [I b.1.Ki, I b.1.Pc, I b.1.It.Map, I b.1.It.Op, U b.1.It.Key, U b.1.It.Val, U b.1.Val]) fun co s => nx (rg (pu 1 [(31, Sl ab (c.2.1).length ac)] ((lN [I b.1.Ki, I b.1.Pc, I b.1.It.Map, I b.1.It.Op, U b.1.It.Key, U b.1.It.Val, U b.1.Val] (s.blkN 2 rfl 0 7)) ?_)))⟩)
    refine OW.row (α := zA) (e := 80) (enc := qe) (sz := 7) s rfl rfl rfl [b.1] rfl (fun _ => rfl) rfl rfl (fun _ => by kernel_rfl) ?_
    intro cp cq s
    refine (be d) fun cr au d => ?_
    refine OW.app s 1 rfl (fun _ => rfl) (fun _ => rfl) rfl rfl rfl rfl rfl rfl (by kernel_rfl) zn6 (s.rd 3 rfl (fun _ => rfl) [] rfl (s.len 3 rfl).1) (jR au) ?_
    intro cs ct s
    obtain ⟨cu, y, z, rfl⟩ := s.le 1
    refine pu 1 [(10, Sl y ((c.2.1 ++ [b.1])).length z)] (nx (sq ?_))
    obtain ⟨cv, cw, cx, cy, cz, c0, c1, c2, c4, c5, s⟩ := s.o5 0
    have i := s.borOut 4 rfl
    have ah := i.bor q
    have l := s.borOut 5 rfl
    have ai := l.bor q
    refine have s := s.t1 7; have s := s.t1 8; have s := s.k [0, 1, 2, 3, 6, 7, 8]; ?_
    obtain ⟨c7, bg, bi, rfl⟩ := ah.len
    obtain ⟨c8, bj, bk, rfl⟩ := ai.len
    obtain ⟨bm, rfl⟩ := s.fq 4
    obtain ⟨da, bp, bq, rfl⟩ := s.le 5
    obtain ⟨db, bs, bt, rfl⟩ := s.le 6
    have s : St _ _ _ [zs h 73 [Sl bg (b.2.M.Ms).length bi, Sl bj (b.2.M.Co).length bk, U b.2.E.A, U b.2.E.B, Pt bm, Sl bp (b.2.Rg).length bq, Sl bs (b.2.Tu).length bt, I b.2.At, I b.2.Steps, I b.2.Mode], _, _, _, _, _, _] := s
    refine rn (pu 3 [(37, Po h 9)] ((ld s 0) (pu 1 [(39, B (b.2.Mode == 1))] (nx (br d (fun d av => ?_) fun d av => ?_)))))
    ·refine sq (rg (pu 4 [(43, B (decide (c.2.2 >= ((H).length : Int))))] (nx (br d (fun d aw => ?_) fun d aw => ?_))))
     ·refine ex (te (bo (te (bh ?_))))
      have s := s.borIn i
      have s := s.borIn l
      refine have s := s.ti 5; have s := s.ti 6; ?_
      obtain ⟨dc, s⟩ := s.s5 (vV wb Sb) 0 7 8 4 5 6 [1, 2, 3] b.2
      obtain rfl := ij d
      exact me fun a g => ⟨(Sl y ((c.2.1 ++ [b.1])).length z), g.ag, s.k [0]⟩
     refine sn (rg (pu 3 [(44, Pt h), (45, Sl a8 (H).length c9), (46, I c.2.2)] ((be d) fun bu C d => ?_)))
     obtain ⟨dd, de, df, Q⟩ := h2b.formv (fun _ => ⟨_, rfl⟩) C
     refine (ix 45 6 C Q) ((lN (qk bu) (h2b.cellv s C Q)) ?_)
     have s := s.borIn i
     have s := s.borIn l
     refine have s := s.ti 5; have s := s.ti 6; ?_
     obtain ⟨dg, s⟩ := s.s5 (vV wb Sb) 0 7 8 4 5 6 [1, 2, 3] b.2
     exact (be d) fun bv ax d => (fn) (zcd ax (s.p [3]) (q.on s [3]) fun bw dh aj => ⟨_, rfl, have s := s.j [3] [0, 1, 2] aj; nx (rn (pu 3 [(11, I (w64 (c.2.2 + 1)))] (nl (bn (me fun a g => ⟨x, zls _, (bv.2, (c.2.1 ++ [b.1]), w64 (c.2.2 + 1)), bw, (Sl y ((c.2.1 ++ [b.1])).length z), g.ag, s.k [0, 1], d⟩)))))⟩)
    refine sk (bn ?_)
    have s := s.borIn i
    have s := s.borIn l
    refine have s := s.ti 5; have s := s.ti 6; ?_
    obtain ⟨bz, s⟩ := s.s5 (vV wb Sb) 0 7 8 4 5 6 [1, 2, 3] b.2
    exact me fun a g => ⟨x, zls _, (b.2, (c.2.1 ++ [b.1]), c.2.2), bz, (Sl y ((c.2.1 ++ [b.1])).length z), g.ag, s.k [3, 0], d⟩
   refine ex (te (te (bh ?_)))
   have s := s.borIn m
   have s := s.borIn o
   refine have s := s.ti 3; have s := s.ti 4; ?_
   obtain ⟨di, s⟩ := s.s5 (vV wb Sb) 0 5 6 2 3 4 [1] c.1
   obtain rfl := ij d
   exact me fun a g => ⟨(Sl ab (c.2.1).length ac), g.ag, s.k [0]⟩
  obtain ⟨dj, ak, am, rfl⟩ := s.le 0
  refine rg (pu 3 [(6, Sl ak (v).length am), (7, I 0)] (nx (rt ?_)))
  obtain rfl := ij f
  exact r2 (K (Sl ak (v).length am) _ (s.k [0]))
 have f := zg8 f a1
 refine have s := s.j [2] [0, 1] u; pu 5 [(8, .pointer none), (9, I t.2)] (nx (sq (rg (pu 2 [(22, B (t.2 != 0))] (nx (br f (fun f ay => ?_) fun f ay => ?_))))))
 ·refine rg (pu 3 [(6, Sn), (7, I t.2)] (nx (rt (tr ?_))))
  have s := s.nilRow zA 80 qe 7
  obtain rfl := ij f
  exact r2 (K (Sn) _ (s.k [2]))
 refine sn (rg (pu 1 [(10, Sn)] (nx (rg (pu 1 [(11, I 0)] (nx (sq (bl ?_))))))))
 refine CW.loop (fun n a D => ∃ (an : Unit), Rep 53 [(2, Sl a8 (H).length c9), (8, .pointer none), (10, Sn), (11, I 0)] a /\ St w Z D [] /\ loop zbR n an = some r) fu (fun a g => ⟨(), g.ag, s.keep [] rfl, f⟩) ?_
 rintro ao a D ⟨an, g, s, T⟩
 rcases ao with _ | ao
 ·exact (jX T).elim
 refine go g (sq (rg ?_))
 cases T
theorem zew {w Z F l G u r R} (o : zah l u = some r) (c : St w Z w []) (D : Rd w Z F qe 7 l) (E : Rd w Z G qe 7 u)
  (K : ∀ w', St w Z w' [] -> R (Rt (B r)) w') : Calls Tryz.prog 10 [F, G].toArray w R := by
 refine sr 26 Tryz.func10 rfl ?_
 obtain ⟨T, H, J, rfl⟩ := D.len
 obtain ⟨l4, M, O, rfl⟩ := E.len
 refine rg (pu 1 [] (nx (sq (rg (pu 5 [(10, B (((l).length : Int) != ((u).length : Int)))] (nx (br o (fun o Q => ?_) fun o Q => ?_)))))))
 ·refine rg (pu 1 [(4, B false)] (nx (rt (tr ?_))))
  obtain rfl := ij o
  exact r1 (K _ (c.k []))
 refine sn (sq (rg (pu 1 [(5, I 0)] (nx ((be o) fun x A o => ?_)))))
 refine ck (fun a y => ∃ (t106 : Unit), x = .inl t106 /\ Rep 26 [] a /\ St w Z y []) ?_ ?_
 ·refine bl ?_
  refine CW.loop (fun n a y => ∃ (b : Nat) (p : Unit), b + n = (l).length /\ Rep 26 [(0, Sl H (l).length J), (1, Sl M (u).length O), (5, I (b : Int))] a /\ St w Z y [] /\ zQ (zaq l u) (fun (p : Unit) => (.inl ())) n b p = some x) (l).length (fun a i => ⟨0, (), Nat.zero_add _, i.ag, c.keep [] rfl, A⟩) ?_
  rintro j a y ⟨b, p, m, i, c, s⟩
  refine go i (sq (rg (pu 4 [(14, B (decide ((b : Int) < ((l).length : Int))))] (nx ?_))))
  rcases zft (decide ((b : Int) < ((l).length : Int))) with f | f
  ·rcases j with _ | j
   ·exact (zb0 m f).elim
   refine ct f (sn (sq (bl (sq ?_))))
   refine CW.still (by kernel_rfl) (by kernel_rfl) ?_
   intro V z
   have c := c.same z
   refine op' 2 [(17, Sl H (l).length J), (18, I (b : Int))] ((be s) fun d g s => ?_)
   obtain ⟨W, X, Y, q⟩ := D.formv (fun _ => ⟨_, rfl⟩) g
   refine OS.idx 80 7 rfl rfl rfl rfl rfl q rfl (zh g).1 (zh g).2.1 (by kernel_rfl) (by kernel_rfl) ?_
   refine OS.ldN (cs := qe d) rfl rfl rfl rfl rfl (by kernel_rfl) (by kernel_rfl) (D.cellv c g q) ?_
   refine op' 2 [(21, Sl M (u).length O), (22, I (b : Int))] ((be s) fun e h s => ?_)
   obtain ⟨aa, ab, ac, t⟩ := E.formv (fun _ => ⟨_, rfl⟩) h
   refine OS.idx 80 7 rfl rfl rfl rfl rfl t rfl (zh h).1 (zh h).2.1 (by kernel_rfl) (by kernel_rfl) ?_
   refine OS.ldN (cs := qe e) rfl rfl rfl rfl rfl (by kernel_rfl) (by kernel_rfl) (E.cellv c h t) ?_
   refine OS.op (v := B (!((d.Ki == e.Ki) && ((d.Pc == e.Pc) && (((d.It.Map == e.It.Map) && ((d.It.Op == e.It.Op) && ((d.It.Key == e.It.Key) && ((d.It.Val == e.It.Val) && true)))) && ((d.Val == e.Val) && true)))))) rfl rfl rfl rfl rfl (fun a i => zhC rfl rfl rfl (by kernel_rfl) (by kernel_rfl) a _ i) ?_
   refine OS.fin rfl ?_
   refine qn (br s (fun s C => ?_) fun s C => ?_)
   ·refine rg (pu 1 [(4, B false)] (nx (rt (bt (tr (tr (bt (tr ?_))))))))
    obtain rfl := ij s
    obtain rfl := ij o
    exact r1 (K _ (c.k []))
   refine sk (bn (qn (rn (pu 3 [(5, I (w64 ((b : Int) + 1)))] (nl ?_)))))
   refine QW.say 5 rfl (congrArg (Value.int .i64) (zq f T)) ?_
   exact me fun a i => ⟨j, zls _, b + 1, (), zm m, i.ag, c.k [], s⟩
  rcases j with _ | j
  ·refine cf f (ex (te (te (bh ?_))))
   obtain rfl := ij s
   exact me fun a i => ⟨(), rfl, i.ag, c.k []⟩
  exact (zb1 m f).elim
 rintro a y ⟨t106, rfl, i, c⟩
 refine go i (rg (pu 1 [(4, B true)] (nx (rt ?_))))
 obtain rfl := ij o
 exact r1 (K _ (c.k []))
theorem zce (w : World) (fu : Nat) (a0 : Value) (a1 : Value) (a3 : Value) (b : qG) (r : Bool) (l : xc fu b = some r)
    (s : St w (fp []) w []) (ae : Rd w (fp []) a0 (zx .i64) 1 b.M.Ms) (af : Rd w (fp []) a1 zj 5 b.M.Co) (ah : Rd w (fp []) a3 qk 6 b.Res) (b7 : Rd w (fp []) (.slice (some ⟨0, 0, none⟩) 23 23) zJ 2 vJ) (b8 : Rd w (fp []) (.slice (some ⟨1, 0, none⟩) 7 7) qi 5 zbe) :
    Calls Tryz.prog 3 [Ag [a0, a1, U b.E.A, U b.E.B, a3, I b.Odd]].toArray w (fun e w' => e = .returned (B r) /\ St w (fp []) w' []) := by
 refine sr 122 Tryz.func3 rfl ?_
 obtain ⟨l1, a2, c3, rfl⟩ := ae.len
 obtain ⟨l4, a5, c6, rfl⟩ := af.len
 obtain ⟨l7, a8, c9, rfl⟩ := ah.len
 refine rg ((bx s [Sl a2 (b.M.Ms).length c3, Sl a5 (b.M.Co).length c6, U b.E.A, U b.E.B, Sl a8 (b.Res).length c9, I b.Odd]) fun g dk s => pu 1 [] (nx (sq (rg ((be l) fun r18 b9 l => (fn) (zey b9 (s.p []) (b7.give s []) (b8.give s []) fun dl bm => ⟨_, rfl, have s := s.j [] [0] bm; pu 1 [(13, B (!r18))] (nx (br l (fun l ca => ?_) fun l ca => ?_))⟩))))))
 ·refine rg (pu 1 [(2, B false)] (nx (rt (tr ?_))))
  obtain rfl := ij l
  refine QW.ret1 rfl rfl ?_
  exact ⟨rfl, s.keep [] rfl⟩
 refine sn (rg (pu 1 [(14, Pt g)] ((lN [Sl a2 (b.M.Ms).length c3, Sl a5 (b.M.Co).length c6] (s.blkN 0 rfl 0 2)) ((be l) fun c cb l => (fn) (zd2 cb (s.p []) (ae.give s []) (af.give s []) fun dm dn dp bo => ⟨_, rfl, have s := s.j [] [0] bo; ?_⟩)))))
 obtain ⟨ch, G, H, rfl⟩ := s.le 0
 obtain ⟨ci, J, O, rfl⟩ := s.le 1
 refine (al s [Sn, Sn]) fun u dq s => (st s 3 [Sl G (c.Ms).length H, Sl J (c.Co).length O]) fun dr s => nx (rg ?_)
 refine OW.row (α := zE) (e := 45) (enc := qk) (sz := 6) s rfl rfl rfl [] rfl (fun _ => rfl) rfl rfl (fun _ => by kernel_rfl) ?_
 intro ds dt s
 refine pu 1 [(18, Po g 4)] ((ld s 2) ((be l) fun cj bp l => ?_))
 refine OW.app s 4 rfl (fun _ => rfl) (fun _ => rfl) rfl rfl rfl rfl rfl rfl (by kernel_rfl) zop (ah.on s) (jR bp) ?_
 intro cl cm s
 obtain ⟨cc, h, i, rfl⟩ := s.le 4
 refine pu 1 [(4, Sl h ((([] : List zE) ++ b.Res)).length i)] (nx (rg ((lN [Sl G (c.Ms).length H, Sl J (c.Co).length O] (s.blkN 3 rfl 0 2)) (pu 1 [(23, Po g 2)] ((lN [U b.E.A, U b.E.B] (s.blkN 2 rfl 2 2)) (pu 1 [(25, Sl h ((([] : List zE) ++ b.Res)).length i)] ((be l) fun r115 bq l => (fn) (zd1 bq (s.p []) (s.rd 0 rfl (fun _ => rfl) [] rfl (s.len 0 rfl).1) (s.rd 1 rfl (fun _ => rfl) [] rfl (s.len 1 rfl).1) (s.rd 4 rfl (fun _ => rfl) [] rfl (s.len 4 rfl).1) (b7.give s []) (b8.give s []) fun cn co a4 => ⟨_, rfl, have s := s.j [] [0, 1, 2, 3, 4] a4; ?_⟩))))))))
 obtain ⟨cp, a6, a7, rfl⟩ := s.le 0
 refine pu 5 [(5, Sl a6 (r115.1).length a7), (6, I r115.2)] (nx (rg (pu 1 [(30, Pt g)] ((lN [Sl a2 (b.M.Ms).length c3, Sl a5 (b.M.Co).length c6] (s.blkN 3 rfl 0 2)) (pu 1 [(32, Po g 2)] ((lN [U b.E.A, U b.E.B] (s.blkN 3 rfl 2 2)) (pu 1 [(34, Po g 4)] ((ld s 3) ((be l) fun r131 bs l => (fn) (zev bs (s.p []) (Bor.refl _ _) (ae.give s []) (af.give s []) (ah.give s []) fun cq cr a9 => ⟨_, rfl, have s := s.j [] [0, 1, 2, 3, 4, 5] a9; ?_⟩))))))))))
 obtain ⟨cu, ba, bb, rfl⟩ := s.le 0
 refine pu 5 [(7, Sl ba (r131.1).length bb), (8, I r131.2)] (nx (sq (sq ((be l) fun cd f l => ?_))))
 refine ck (fun a y => Rep 122 [(1, Pt g), (3, Pt u), (4, Sl h ((([] : List zE) ++ b.Res)).length i), (67, B cd)] a /\ St w (fp []) y [zs g 31 [Sl a2 (b.M.Ms).length c3, Sl a5 (b.M.Co).length c6, U b.E.A, U b.E.B, Sl a8 (b.Res).length c9, I b.Odd], zs u 25 [Sl G (c.Ms).length H, Sl J (c.Co).length O], qH (Sl G (c.Ms).length H) 3 (zx .i64) 1 c.Ms, qH (Sl J (c.Co).length O) 43 zj 5 c.Co, qH (Sl h ((([] : List zE) ++ b.Res)).length i) 45 qk 6 (([] : List zE) ++ b.Res)]) ?_ fun a y ⟨d, s⟩ => go d (br l (fun l bu => ?_) fun l bu => ?_)
 ·refine rn (pu 2 [(39, Sl a6 (r115.1).length a7), (40, Sl ba (r131.1).length bb)] ((be f) fun r152 bv f => (fn) (zew bv (s.p []) (s.rd 1 rfl (fun _ => rfl) [] rfl (s.len 1 rfl).1) (s.rd 0 rfl (fun _ => rfl) [] rfl (s.len 0 rfl).1) fun cv bc => ⟨_, rfl, have s := s.j [] [0, 1, 2, 3, 4, 5, 6] bc; pu 2 [(43, B (!r152))] (si 43 f (fun f bw => ?_) fun f bw => ?_)⟩)))
  ·refine pu 24 [(67, B true)] (nl ?_)
   obtain rfl := ij f
   exact me fun a d => ⟨d.ag, s.k [4, 5, 2, 3, 6]⟩
  refine pu 5 [(48, B (r115.2 != r131.2))] (si 48 f (fun f bz => ?_) fun f bz => ?_)
  ·refine pu 19 [(67, B true)] (nl ?_)
   obtain rfl := ij f
   exact me fun a d => ⟨d.ag, s.k [4, 5, 2, 3, 6]⟩
  refine pu 1 [(49, Pt u)] ((ld s 5) (pu 3 [(51, I ((c.Ms).length : Int)), (53, Pt g)] ((ld s 4) (pu 4 [(58, B (((c.Ms).length : Int) != ((b.M.Ms).length : Int)))] (si 58 f (fun f b0 => ?_) fun f b0 => ?_)))))
  ·refine pu 9 [(67, B true)] (nl ?_)
   obtain rfl := ij f
   exact me fun a d => ⟨d.ag, s.k [4, 5, 2, 3, 6]⟩
  refine pu 1 [(59, Po u 1)] ((ld s 5) (pu 3 [(61, I ((c.Co).length : Int)), (63, Po g 1)] ((ld s 4) (pu 3 [(67, B (((c.Co).length : Int) != ((b.M.Co).length : Int)))] (nl ?_)))))
  obtain rfl := ij f
  exact me fun a d => ⟨d.ag, s.k [4, 5, 2, 3, 6]⟩
 ·refine rg (pu 1 [(2, B false)] (nx (rt (tr ?_))))
  obtain rfl := ij l
  refine QW.ret1 rfl rfl ?_
  exact ⟨rfl, s.keep [] rfl⟩
 refine sn (sq (rg (pu 1 [(9, I 0)] (nx ((be l) fun bd b1 l => ?_)))))
 refine ck (fun a y => ∃ (t258 : Unit), bd = .inl t258 /\ Rep 122 [(1, Pt g), (3, Pt u), (4, Sl h ((([] : List zE) ++ b.Res)).length i)] a /\ St w (fp []) y [zs g 31 [Sl a2 (b.M.Ms).length c3, Sl a5 (b.M.Co).length c6, U b.E.A, U b.E.B, Sl a8 (b.Res).length c9, I b.Odd], zs u 25 [Sl G (c.Ms).length H, Sl J (c.Co).length O], qH (Sl G (c.Ms).length H) 3 (zx .i64) 1 c.Ms, qH (Sl J (c.Co).length O) 43 zj 5 c.Co, qH (Sl h ((([] : List zE) ++ b.Res)).length i) 45 qk 6 (([] : List zE) ++ b.Res)]) ?_ ?_
 ·refine bl ?_
  refine CW.loop (fun n a y => ∃ (i323 : Nat) (ap : Unit), i323 + n = (c.Ms).length /\ Rep 122 [(1, Pt g), (3, Pt u), (4, Sl h ((([] : List zE) ++ b.Res)).length i), (9, I (i323 : Int))] a /\ St w (fp []) y [zs g 31 [Sl a2 (b.M.Ms).length c3, Sl a5 (b.M.Co).length c6, U b.E.A, U b.E.B, Sl a8 (b.Res).length c9, I b.Odd], zs u 25 [Sl G (c.Ms).length H, Sl J (c.Co).length O], qH (Sl G (c.Ms).length H) 3 (zx .i64) 1 c.Ms, qH (Sl J (c.Co).length O) 43 zj 5 c.Co, qH (Sl h ((([] : List zE) ++ b.Res)).length i) 45 qk 6 (([] : List zE) ++ b.Res)] /\ zQ (xt b c) (fun (ap : Unit) => (.inl ())) n i323 ap = some bd) (c.Ms).length (fun a d => ⟨0, (), Nat.zero_add _, d.ag, s.keep [0, 1, 2, 3, 4] rfl, b1⟩) ?_
  rintro ai a y ⟨i323, ap, am, d, s, m⟩
  refine go d (sq (rg (pu 2 [(68, I (i323 : Int)), (69, Pt u)] ((ld s 1) (pu 2 [(72, B (decide ((i323 : Int) < ((c.Ms).length : Int))))] (nx ?_))))))
  rcases zft (decide ((i323 : Int) < ((c.Ms).length : Int))) with z | z
  ·rcases ai with _ | ai
   ·exact (zb0 am z).elim
   refine ct z (sn (sq (bl (sq ?_))))
   refine CW.still (by kernel_rfl) (by kernel_rfl) ?_
   intro cw bf
   have s := s.same bf
   refine op' 1 [(75, Pt u)] ((od s 1) (op' 1 [(77, I (i323 : Int))] ((be m) fun ce X m => ?_)))
   obtain ⟨cx, cy, cz, au⟩ := s.rowv 2 rfl X
   refine OS.idx 3 1 rfl rfl rfl rfl rfl au rfl (zh X).1 (zh X).2.1 (by kernel_rfl) (by kernel_rfl) ?_
   refine OS.ld rfl rfl rfl rfl rfl (by kernel_rfl) (s.rowc 2 rfl (fun _ => rfl) X au 0 _ rfl) ?_
   refine op' 2 [(81, Pt g)] ((od s 0) (op' 1 [(83, I (i323 : Int))] ((be m) fun cg Y m => ?_)))
   obtain ⟨c0, c1, c2, av⟩ := ae.formv (fun _ => ⟨_, rfl⟩) Y
   refine OS.idx 3 1 rfl rfl rfl rfl rfl av rfl (zh Y).1 (zh Y).2.1 (by kernel_rfl) (by kernel_rfl) ?_
   refine OS.ld rfl rfl rfl rfl rfl (by kernel_rfl) (ae.cellv s Y av 0 _ rfl) ?_
   refine op' 1 [(86, B (ce != cg))] ?_
   refine OS.fin rfl ?_
   refine qn (br m (fun m b2 => ?_) fun m b2 => ?_)
   ·refine rg (pu 1 [(2, B false)] (nx (rt (bt (tr (tr (bt (tr ?_))))))))
    obtain rfl := ij m
    obtain rfl := ij l
    refine QW.ret1 rfl rfl ?_
    exact ⟨rfl, s.keep [] rfl⟩
   refine sk (bn (qn (rn (pu 3 [(9, I (w64 ((i323 : Int) + 1)))] (nl ?_)))))
   refine QW.say 9 rfl (congrArg (Value.int .i64) (zq z ch)) ?_
   exact me fun a d => ⟨ai, zls _, i323 + 1, (), zm am, d.ag, s.k [0, 1, 2, 3, 4], m⟩
  rcases ai with _ | ai
  ·refine cf z (ex (te (te (bh ?_))))
   obtain rfl := ij m
   exact me fun a d => ⟨(), rfl, d.ag, s.k [0, 1, 2, 3, 4]⟩
  exact (zb1 am z).elim
 rintro a y ⟨t258, rfl, d, s⟩
 refine go d (sq (rg (pu 1 [(10, I 0)] (nx ((be l) fun bg b3 l => ?_)))))
 refine ck (fun a y => ∃ (t453 : Unit), bg = .inl t453 /\ Rep 122 [(1, Pt g), (4, Sl h ((([] : List zE) ++ b.Res)).length i)] a /\ St w (fp []) y [zs g 31 [Sl a2 (b.M.Ms).length c3, Sl a5 (b.M.Co).length c6, U b.E.A, U b.E.B, Sl a8 (b.Res).length c9, I b.Odd], qH (Sl h ((([] : List zE) ++ b.Res)).length i) 45 qk 6 (([] : List zE) ++ b.Res)]) ?_ ?_
 ·refine bl ?_
  refine CW.loop (fun n a y => ∃ (t : Nat) (aq : Unit), t + n = (c.Co).length /\ Rep 122 [(1, Pt g), (3, Pt u), (4, Sl h ((([] : List zE) ++ b.Res)).length i), (10, I (t : Int))] a /\ St w (fp []) y [zs g 31 [Sl a2 (b.M.Ms).length c3, Sl a5 (b.M.Co).length c6, U b.E.A, U b.E.B, Sl a8 (b.Res).length c9, I b.Odd], zs u 25 [Sl G (c.Ms).length H, Sl J (c.Co).length O], qH (Sl G (c.Ms).length H) 3 (zx .i64) 1 c.Ms, qH (Sl J (c.Co).length O) 43 zj 5 c.Co, qH (Sl h ((([] : List zE) ++ b.Res)).length i) 45 qk 6 (([] : List zE) ++ b.Res)] /\ zQ (xu b c) (fun (aq : Unit) => (.inl ())) n t aq = some bg) (c.Co).length (fun a d => ⟨0, (), Nat.zero_add _, d.ag, s.keep [0, 1, 2, 3, 4] rfl, b3⟩) ?_
  rintro aj a y ⟨t, aq, an, d, s, o⟩
  refine go d (sq (rg (pu 2 [(87, I (t : Int)), (88, Po u 1)] ((ld s 1) (pu 2 [(91, B (decide ((t : Int) < ((c.Co).length : Int))))] (nx ?_))))))
  rcases zft (decide ((t : Int) < ((c.Co).length : Int))) with C | C
  ·rcases aj with _ | aj
   ·exact (zb0 an C).elim
   refine ct C (sn (sq (bl (sq ?_))))
   refine CW.still (by kernel_rfl) (by kernel_rfl) ?_
   intro c4 bi
   have s := s.same bi
   refine op' 1 [(94, Po u 1)] ((od s 1) (op' 1 [(96, I (t : Int))] ((be o) fun V aa o => ?_)))
   obtain ⟨c5, c7, c8, aw⟩ := s.rowv 3 rfl aa
   refine OS.idx 43 5 rfl rfl rfl rfl rfl aw rfl (zh aa).1 (zh aa).2.1 (by kernel_rfl) (by kernel_rfl) ?_
   refine OS.ldN (cs := zj V) rfl rfl rfl rfl rfl (by kernel_rfl) (by kernel_rfl) (s.rowc 3 rfl (fun _ => rfl) aa aw) ?_
   refine op' 2 [(100, Po g 1)] ((od s 0) (op' 1 [(102, I (t : Int))] ((be o) fun W ab o => ?_)))
   obtain ⟨da, db, dc, ax⟩ := af.formv (fun _ => ⟨_, rfl⟩) ab
   refine OS.idx 43 5 rfl rfl rfl rfl rfl ax rfl (zh ab).1 (zh ab).2.1 (by kernel_rfl) (by kernel_rfl) ?_
   refine OS.ldN (cs := zj W) rfl rfl rfl rfl rfl (by kernel_rfl) (by kernel_rfl) (af.cellv s ab ax) ?_
   refine OS.op (v := B (!((V.Op == W.Op) && ((V.D == W.D) && ((V.A == W.A) && ((V.B == W.B) && ((V.Imm == W.Imm) && true))))))) rfl rfl rfl rfl rfl (fun a d => zhC rfl rfl rfl (by kernel_rfl) (by kernel_rfl) a _ d) ?_
   refine OS.fin rfl ?_
   refine qn (br o (fun o b4 => ?_) fun o b4 => ?_)
   ·refine rg (pu 1 [(2, B false)] (nx (rt (bt (tr (tr (bt (tr ?_))))))))
    obtain rfl := ij o
    obtain rfl := ij l
    refine QW.ret1 rfl rfl ?_
    exact ⟨rfl, s.keep [] rfl⟩
   refine sk (bn (qn (rn (pu 3 [(10, I (w64 ((t : Int) + 1)))] (nl ?_)))))
   refine QW.say 10 rfl (congrArg (Value.int .i64) (zq C ci)) ?_
   exact me fun a d => ⟨aj, zls _, t + 1, (), zm an, d.ag, s.k [0, 1, 2, 3, 4], o⟩
  rcases aj with _ | aj
  ·refine cf C (ex (te (te (bh ?_))))
   obtain rfl := ij o
   exact me fun a d => ⟨(), rfl, d.ag, s.k [0, 4]⟩
  exact (zb1 an C).elim
 rintro a y ⟨t453, rfl, d, s⟩
 refine go d (sq (rg (pu 1 [(11, I 0)] (nx ((be l) fun bj b5 l => ?_)))))
 refine ck (fun a y => ∃ (t648 : Unit), bj = .inl t648 /\ Rep 122 [] a /\ St w (fp []) y []) ?_ ?_
 ·refine bl ?_
  refine CW.loop (fun n a y => ∃ (x : Nat) (ar : Unit), x + n = ((([] : List zE) ++ b.Res)).length /\ Rep 122 [(1, Pt g), (4, Sl h ((([] : List zE) ++ b.Res)).length i), (11, I (x : Int))] a /\ St w (fp []) y [zs g 31 [Sl a2 (b.M.Ms).length c3, Sl a5 (b.M.Co).length c6, U b.E.A, U b.E.B, Sl a8 (b.Res).length c9, I b.Odd], qH (Sl h ((([] : List zE) ++ b.Res)).length i) 45 qk 6 (([] : List zE) ++ b.Res)] /\ zQ (xv b) (fun (ar : Unit) => (.inl ())) n x ar = some bj) ((([] : List zE) ++ b.Res)).length (fun a d => ⟨0, (), Nat.zero_add _, d.ag, s.keep [0, 1] rfl, b5⟩) ?_
  rintro ak a y ⟨x, ar, ao, d, s, q⟩
  refine go d (sq (rg (pu 4 [(109, B (decide ((x : Int) < (((([] : List zE) ++ b.Res)).length : Int))))] (nx ?_))))
  rcases zft (decide ((x : Int) < (((([] : List zE) ++ b.Res)).length : Int))) with F | F
  ·rcases ak with _ | ak
   ·exact (zb0 ao F).elim
   refine ct F (sn (sq (bl (sq ?_))))
   refine CW.still (by kernel_rfl) (by kernel_rfl) ?_
   intro dd bk
   have s := s.same bk
   refine op' 2 [(112, Sl h ((([] : List zE) ++ b.Res)).length i), (113, I (x : Int))] ((be q) fun Q ac q => ?_)
   obtain ⟨de, df, dg, ay⟩ := s.rowv 1 rfl ac
   refine OS.idx 45 6 rfl rfl rfl rfl rfl ay rfl (zh ac).1 (zh ac).2.1 (by kernel_rfl) (by kernel_rfl) ?_
   refine OS.ldN (cs := qk Q) rfl rfl rfl rfl rfl (by kernel_rfl) (by kernel_rfl) (s.rowc 1 rfl (fun _ => rfl) ac ay) ?_
   refine op' 1 [(116, Po g 4)] ((od s 0) (op' 1 [(118, I (x : Int))] ((be q) fun T ad q => ?_)))
   obtain ⟨dh, di, dj, az⟩ := ah.formv (fun _ => ⟨_, rfl⟩) ad
   refine OS.idx 45 6 rfl rfl rfl rfl rfl az rfl (zh ad).1 (zh ad).2.1 (by kernel_rfl) (by kernel_rfl) ?_
   refine OS.ldN (cs := qk T) rfl rfl rfl rfl rfl (by kernel_rfl) (by kernel_rfl) (ah.cellv s ad az) ?_
   refine OS.op (v := B (!((Q.E == T.E) && ((Q.Found == T.Found) && ((Q.Val == T.Val) && ((Q.Out == T.Out) && ((Q.OutKey == T.OutKey) && ((Q.OutVal == T.OutVal) && true)))))))) rfl rfl rfl rfl rfl (fun a d => zhC rfl rfl rfl (by kernel_rfl) (by kernel_rfl) a _ d) ?_
   refine OS.fin rfl ?_
   refine qn (br q (fun q b6 => ?_) fun q b6 => ?_)
   ·refine rg (pu 1 [(2, B false)] (nx (rt (bt (tr (tr (bt (tr ?_))))))))
    obtain rfl := ij q
    obtain rfl := ij l
    refine QW.ret1 rfl rfl ?_
    exact ⟨rfl, s.keep [] rfl⟩
   refine sk (bn (qn (rn (pu 3 [(11, I (w64 ((x : Int) + 1)))] (nl ?_)))))
   refine QW.say 11 rfl (congrArg (Value.int .i64) (zq F cc)) ?_
   exact me fun a d => ⟨ak, zls _, x + 1, (), zm ao, d.ag, s.k [0, 1], q⟩
  rcases ak with _ | ak
  ·refine cf F (ex (te (te (bh ?_))))
   obtain rfl := ij q
   exact me fun a d => ⟨(), rfl, d.ag, s.k []⟩
  exact (zb1 ao F).elim
 rintro a y ⟨t648, rfl, d, s⟩
 refine go d (rg (pu 1 [(2, B true)] (nx (rt ?_))))
 obtain rfl := ij l
 refine QW.ret1 rfl rfl ?_
 exact ⟨rfl, s.keep [] rfl⟩
end Go.Proofs.YtgmmfjpmahcocaaGreatDoor
