/- Texts W1p10 of this proof. -/
import Derived.Test.YtbmknhpfkpmigaaGreatDoorW1p9
set_option linter.unusedVariables false
set_option linter.unusedSimpArgs false
set_option maxRecDepth 10000
set_option maxHeartbeats 4000000
namespace Go.Proofs.YtbmknhpfkpmigaaGreatDoor
open Go.Sx
set_option maxRecDepth 10000 in
set_option maxHeartbeats 4000000 in
theorem zdQ (w:World) (v0_0:Value) (v0_1:Value) (p0:zg) (p1:Int) (v2:Value) (p2:List zb) (v3:Value) (p3:List zb) (r:Int) (hF:xg p0 p1 p2 p3=some r)
    (hst:St w (fp []) w []) (h0_0:Rd w (fp []) v0_0 (zn .i64) 1 p0.Ms) (h0_1:Rd w (fp []) v0_1 zp 5 p0.Co) (h2:Rd w (fp []) v2 zi 4 p2) (h3:Rd w (fp []) v3 zi 4 p3):
    Calls Tryz.prog 138 [.agg [v0_0,v0_1].toArray,.int .i64 p1,v2,v3].toArray w (fun e w'=>e= .returned (.int .i64 r)/\St w (fp []) w' []):=by
  obtain ⟨l1,a2,c3,rfl⟩:=h0_0.len
  obtain ⟨l4,a5,c6,rfl⟩:=h0_1.len
  obtain ⟨l7,a8,c9,rfl⟩:=h2.len
  obtain ⟨l10,a11,c12,rfl⟩:=h3.len
  refine (((tappetref09_Asks_g (p0:=p0) (p1:=p1) (p2:=p2) (p3:=p3)).c a2 c3 a5 c6 a8 c9 a11 c12).c w r ⟨h0_0,h0_1,h2,h3,trivial⟩ hst hF).mono ?_
  rintro e w' ⟨i,rfl,hst'⟩
  exact ⟨rfl,hst'⟩
set_option maxRecDepth 10000 in
set_option maxHeartbeats 4000000 in
theorem zgH (w:World) (fu:Nat) (v0_0:Value) (v0_1:Value) (p0:zg) (r:(List (List zb))×Int×Int) (hF:xz fu p0=some r)
    (hst:St w (fp []) w []) (h0_0:Rd w (fp []) v0_0 (zn .i64) 1 p0.Ms) (h0_1:Rd w (fp []) v0_1 zp 5 p0.Co):
    Calls Tryz.prog 94 [.agg [v0_0,v0_1].toArray].toArray w (fun e w'=> ∃ (x0:Value) (Sx0:List Nat),e= .returned (.tuple #[x0,.int .i64 r.2.1,.int .i64 r.2.2])/\St w (fp []) w' [nI 255 vU x0 Sx0 r.1 none]):=by
 refine CW.start (N:=73) Tryz.func94 rfl rfl rfl ?_
 obtain ⟨l1,a2,c3,rfl⟩:=h0_0.len
 obtain ⟨l4,a5,c6,rfl⟩:=h0_1.len
 refine CW.seq ?_
 refine CW.region ?_
 refine OW.box hst rfl rfl rfl rfl [.slice a2 (p0.Ms).length c3,.slice a5 (p0.Co).length c6] rfl ?_
 intro b9 w10 hst
 refine OW.pure 3 [] (by kernel_rfl) ?_
 refine OW.nil rfl ?_
 refine QW.next ?_
 refine CW.seq ?_
 refine CW.seq ?_
 refine CW.region ?_
 refine OW.pure 1 [(12,.pointer (some ⟨b9,0,none⟩))] (by kernel_rfl) ?_
 refine OW.ld rfl rfl rfl rfl (by kernel_rfl) (hst.blk 0 rfl rfl) ?_
 obtain ⟨r15,hr16,hF⟩:=zq hF
 refine OW.fn rfl rfl rfl rfl (by kernel_rfl) (zga _ fu (.slice a2 (p0.Ms).length c3) p0.Ms r15 hr16 (hst.part [] rfl) (h0_0.give hst [])) ?_
 rintro e w17 ⟨rfl,hst18⟩
 refine ⟨_,rfl,?_⟩
 have hst:=hst.join (idx:= []) (rest:= [0]) rfl hst18
 refine OW.pure 1 [(15,.bool (!r15))] (by kernel_rfl) ?_
 refine OW.nil rfl ?_
 refine QW.next ?_
 rcases zft ((!r15)) with hc19 | hc19
 ·have hF:=zed hF hc19
  refine CW.cond_t rfl hc19 ?_
  refine CW.seq ?_
  refine CW.region ?_
  refine OW.pure 3 [(2,.slice none 0 0),(3,.int .i64 0),(4,.int .i64 2)] (by kernel_rfl) ?_
  refine OW.nil rfl ?_
  refine QW.next ?_
  refine CW.ret ?_
  refine QW.then_ret ?_
  have hst:=hst.nNil 255 vU none
  obtain rfl:=Option.some.inj hF
  refine QW.ret3 rfl rfl rfl rfl ?_
  exact ⟨(.slice none 0 0),([]),rfl,hst.keep [1] rfl⟩
 ·have hF:=zee hF hc19
  refine CW.cond_f rfl hc19 ?_
  refine CW.skip ?_
  refine QW.next ?_
  refine CW.seq ?_
  refine CW.region ?_
  refine OW.pure 1 [(17,.pointer (some ⟨b9,1,none⟩))] (by kernel_rfl) ?_
  refine OW.ld rfl rfl rfl rfl (by kernel_rfl) (hst.blk 0 rfl rfl) ?_
  obtain ⟨r24,hr25,hF⟩:=zq hF
  refine OW.fn rfl rfl rfl rfl (by kernel_rfl) (zfK _ fu (.slice a5 (p0.Co).length c6) p0.Co r24 hr25 (hst.part [] rfl) (h0_1.give hst [])) ?_
  rintro e w26 ⟨rfl,hst27⟩
  refine ⟨_,rfl,?_⟩
  have hst:=hst.join (idx:= []) (rest:= [0]) rfl hst27
  refine OW.pure 5 [(5,.int .i64 r24.1),(6,.int .i64 r24.2)] (by kernel_rfl) ?_
  refine OW.nil rfl ?_
  refine QW.next ?_
  refine CW.seq ?_
  refine CW.seq ?_
  refine CW.region ?_
  refine OW.pure 2 [(23,.bool (r24.2 != 0))] (by kernel_rfl) ?_
  refine OW.nil rfl ?_
  refine QW.next ?_
  rcases zft ((r24.2 != 0)) with hc28 | hc28
  ·have hF:=zed hF hc28
   refine CW.cond_t rfl hc28 ?_
   refine CW.seq ?_
   refine CW.region ?_
   refine OW.pure 5 [(2,.slice none 0 0),(3,.int .i64 r24.1),(4,.int .i64 r24.2)] (by kernel_rfl) ?_
   refine OW.nil rfl ?_
   refine QW.next ?_
   refine CW.ret ?_
   refine QW.then_ret ?_
   have hst:=hst.nNil 255 vU none
   obtain rfl:=Option.some.inj hF
   refine QW.ret3 rfl rfl rfl rfl ?_
   exact ⟨(.slice none 0 0),([]),rfl,hst.keep [1] rfl⟩
  ·have hF:=zee hF hc28
   refine CW.cond_f rfl hc28 ?_
   refine CW.skip ?_
   refine QW.next ?_
   refine CW.seq ?_
   refine CW.region ?_
   refine OW.pure 1 [(7,.slice none 0 0)] (by kernel_rfl) ?_
   refine OW.nil rfl ?_
   refine QW.next ?_
   refine CW.seq ?_
   refine CW.seq ?_
   refine CW.region ?_
   refine OW.pure 1 [(8,.int .i64 0)] (by kernel_rfl) ?_
   refine OW.nil rfl ?_
   refine QW.next ?_
   obtain ⟨o385,ho386,hF⟩:=zq hF
   refine CW.cutK (fun a w1=> ∃ (t387:(List (List zb))) (v383:Value) (S384:List Nat),o385= .inl t387/\Rep 73 [(7,v383)] a/\St w (fp []) w1 [nI 255 vU v383 S384 t387 none]) ?_ ?_
   ·refine CW.block ?_
    have hst:=hst.nNil 255 vU none
    refine CW.loop (fun n a w1=> ∃ (i625:Nat) (s622:(List (List zb))) (v623:Value) (S624:List Nat),i625+n=(p0.Co).length/\Rep 73 [(1,.pointer (some ⟨b9,0,none⟩)),(7,v623),(8,.int .i64 (i625:Int))] a/\St w (fp []) w1 [jF b9 37 [.slice a2 (p0.Ms).length c3,.slice a5 (p0.Co).length c6],nI 255 vU v623 S624 s622 none]/\qf (qS fu p0) (fun (s622:(List (List zb)))=>(.inl s622)) n i625 s622=some o385) (p0.Co).length (fun a ha=>⟨0,([]:List (List zb)),(.slice none 0 0),([]),Nat.zero_add _,ha.agrees (by kernel_rfl),hst.keep [0,1] rfl,ho386⟩) ?_
    rintro n620 a w1 ⟨i625,s622,v623,S624,hi626,ha,hst,hl621⟩
    refine CW.go ?_ ha
    obtain ⟨l627,a628,c629,rfl⟩:=hst.nlen 1 rfl
    refine CW.seq ?_
    refine CW.seq ?_
    refine CW.region ?_
    refine OW.pure 2 [(26,.int .i64 (i625:Int)),(27,.pointer (some ⟨b9,1,none⟩))] (by kernel_rfl) ?_
    refine OW.ld rfl rfl rfl rfl (by kernel_rfl) (hst.blk 0 rfl rfl) ?_
    refine OW.pure 2 [(30,.bool (decide ((i625:Int)<((p0.Co).length:Int))))] (by kernel_rfl) ?_
    refine OW.nil rfl ?_
    refine QW.next ?_
    rcases zft (decide ((i625:Int)<((p0.Co).length:Int))) with hc630 | hc630
    ·rcases n620 with _ | n620
     ·exact (zr8 hi626 hc630).elim
     refine CW.cond_t rfl hc630 ?_
     refine CW.skip ?_
     refine QW.next ?_
     refine CW.seq ?_
     refine CW.block ?_
     refine CW.seq ?_
     refine CW.region ?_
     refine OW.ldN (cs:= [.slice a2 (p0.Ms).length c3,.slice a5 (p0.Co).length c6]) rfl rfl rfl rfl (by kernel_rfl) (by kernel_rfl) (hst.blkN 0 rfl 0 2) ?_
     refine OW.pure 2 [(34,.int .i64 (i625:Int)),(35,.slice a628 (s622).length c629)] (by kernel_rfl) ?_
     obtain ⟨r639,hr640,hl621⟩:=zq hl621
     refine OW.fn rfl rfl rfl rfl (by kernel_rfl) (zgZ _ fu (.slice a2 (p0.Ms).length c3) (.slice a5 (p0.Co).length c6) p0 (i625:Int) (.slice a628 (s622).length c629) s622 r639 hr640 (hst.part [] rfl) (h0_0.give hst []) (h0_1.give hst []) (hst.seeN (R:=vU) 1 rfl [] rfl)) ?_
     rintro e w641 ⟨v643,rfl,hst642⟩
     refine ⟨_,rfl,?_⟩
     have hst:=hst.join (idx:= []) (rest:= [0,1]) rfl hst642
     obtain ⟨l644,a645,c646,rfl⟩:=hst.len 0 rfl
     refine OW.pure 1 [(9,.slice a645 (r639).length c646)] (by kernel_rfl) ?_
     refine OW.nil rfl ?_
     refine QW.next ?_
     refine CW.seq ?_
     refine CW.region ?_
     refine OW.pure 2 [(37,.slice a628 (s622).length c629),(38,.slice a645 (r639).length c646)] (by kernel_rfl) ?_
     have hst:=hst.toIt 0 rfl (fun _=>rfl) (by decide)
     refine OW.row (α:=List Value) (e:=255) (enc:=fit 1) (sz:=1) hst rfl rfl rfl [[.slice a645 (r639).length c646]] rfl (fun _=>zaj _ _) rfl rfl (fun _=>by kernel_rfl) ?_
     intro g657 w658 hst
     have hst:=hst.toRow1 0 rfl
     have hst:=hst.nOneH 3 vU r639 rfl rfl rfl
     obtain ⟨u659,hr660,hl621⟩:=zq hl621
     refine OW.appNH hst 2 3 rfl rfl rfl rfl rfl rfl rfl rfl rfl rfl (by kernel_rfl) zsA (zf4 hr660) (fun _ _ _ _ h=>zfB h) ?_
     intro v661 S662 w663 hst
     have hst:=hst.keep [0,1,2] rfl
     obtain ⟨l664,a665,c666,rfl⟩:=hst.nlen 2 rfl
     refine OW.pure 1 [(7,.slice a665 ((s622++ [r639])).length c666)] (by kernel_rfl) ?_
     refine OW.nil rfl ?_
     refine QW.next ?_
     refine CW.seq ?_
     refine CW.seq ?_
     refine CW.region ?_
     refine OW.pure 3 [(43,.bool (((r639).length:Int)==0))] (by kernel_rfl) ?_
     refine OW.nil rfl ?_
     refine QW.next ?_
     rcases zft ((((r639).length:Int)==0)) with hc667 | hc667
     ·have hl621:=zed hl621 hc667
      refine CW.cond_t rfl hc667 ?_
      refine CW.exit ?_
      refine QW.then_exit ?_
      refine QW.block_here ?_
      refine QW.next ?_
      refine CW.region ?_
      refine OW.pure 3 [(8,.int .i64 (w64 ((i625:Int)+1)))] (by kernel_rfl) ?_
      refine OW.nil rfl ?_
      have hst:=hst.toIt 0 rfl (fun _=>rfl) (by decide)
      obtain ⟨S668,hst⟩:=hst.nback0 2 0 rfl rfl rfl (zgj s622 r639)
      have hst:=hst.keep [1,2] rfl
      refine QW.say 8 rfl (congrArg (Value.int .i64) (zf5 hc630 l4)) ?_
      exact QW.meet (fun a ha=>⟨n620,zls _,i625+1,(s622++ [r639]),(.slice a665 ((s622++ [r639])).length c666),S668,zeJ hi626,ha.agrees (by kernel_rfl),hst.keep [0,1] rfl,hl621⟩)
     ·have hl621:=zee hl621 hc667
      refine CW.cond_f rfl hc667 ?_
      refine CW.skip ?_
      refine QW.next ?_
      refine CW.seq ?_
      refine CW.region ?_
      refine OW.pure 2 [(10,.slice a645 (r639).length c646)] (by kernel_rfl) ?_
      refine OW.nil rfl ?_
      refine QW.next ?_
      refine CW.seq ?_
      refine CW.seq ?_
      refine CW.region ?_
      refine OW.pure 1 [(45,.pointer (some ⟨b9,1,none⟩))] (by kernel_rfl) ?_
      refine OW.ld rfl rfl rfl rfl (by kernel_rfl) (hst.blk 1 rfl rfl) ?_
      refine OW.pure 1 [(47,.int .i64 (i625:Int))] (by kernel_rfl) ?_
      obtain ⟨x676,hx677,hl621⟩:=zq hl621
      obtain ⟨g679,o680,c681,hv678⟩:=h0_1.formv (fun _=>⟨_,rfl⟩) hx677
      refine OW.idx 65 5 rfl rfl rfl rfl hv678 rfl (qB hx677).1 (qB hx677).2.1 (by kernel_rfl) (by kernel_rfl) ?_
      refine OW.pure 1 [(49,.pointer (some ⟨g679,o680+Int.toNat (i625:Int)*5,none⟩))] (by kernel_rfl) ?_
      refine OW.ld rfl rfl rfl rfl (by kernel_rfl) (h0_1.cellv hst hx677 hv678 0 _ rfl) ?_
      refine OW.pure 1 [(51,.bool (x676.Op==20))] (by kernel_rfl) ?_
      refine OW.nil rfl ?_
      refine QW.next ?_
      rcases zft ((x676.Op==20)) with hc682 | hc682
      ·have hl621:=zed hl621 hc682
       refine CW.cond_t rfl hc682 ?_
       refine CW.region ?_
       refine OW.pure 3 [(52,.slice a665 ((s622++ [r639])).length c666),(53,.int .i64 (i625:Int)),(54,.pointer (some ⟨b9,1,none⟩))] (by kernel_rfl) ?_
       refine OW.ld rfl rfl rfl rfl (by kernel_rfl) (hst.blk 1 rfl rfl) ?_
       refine OW.pure 1 [(56,.int .i64 (i625:Int))] (by kernel_rfl) ?_
       obtain ⟨g702,o703,c704,hv701⟩:=h0_1.formv (fun _=>⟨_,rfl⟩) hx677
       refine OW.idx 65 5 rfl rfl rfl rfl hv701 rfl (qB hx677).1 (qB hx677).2.1 (by kernel_rfl) (by kernel_rfl) ?_
       refine OW.pure 1 [(58,.pointer (some ⟨g702,o703+Int.toNat (i625:Int)*5+1,none⟩))] (by kernel_rfl) ?_
       refine OW.ld rfl rfl rfl rfl (by kernel_rfl) (h0_1.cellv hst hx677 hv701 1 _ rfl) ?_
       refine OW.pure 1 [(60,.int .i64 (w64 ((i625:Int)-x676.D)))] (by kernel_rfl) ?_
       obtain ⟨x705,hx706,hl621⟩:=zq hl621
       obtain ⟨g708,o709,c710,hv707⟩:=hst.nrowv 2 rfl hx706
       refine OW.idx 255 1 rfl rfl rfl rfl hv707 rfl (qB hx706).1 (qB hx706).2.1 (by kernel_rfl) (by kernel_rfl) ?_
       obtain ⟨u711,hn712,hl621⟩:=zq hl621
       obtain ⟨v713,hce714,hvw715⟩:=hst.nview 2 rfl hx706 (fun _ _ e=>by cases e;exact zoJ hn712) hv707
       obtain ⟨l716,a717,c718,rfl⟩:=(hvw715 [] (fun _ _=>znm)).len
       refine OW.ld rfl rfl rfl rfl (by kernel_rfl) hce714 ?_
       refine OW.pure 1 [(10,.slice a717 (x705).length c718)] (by kernel_rfl) ?_
       refine OW.nil rfl ?_
       refine QW.next ?_
       refine CW.seq ?_
       refine CW.region ?_
       refine OW.ldN (cs:= [.slice a2 (p0.Ms).length c3,.slice a5 (p0.Co).length c6]) rfl rfl rfl rfl (by kernel_rfl) (by kernel_rfl) (hst.blkN 1 rfl 0 2) ?_
       refine OW.pure 3 [(64,.int .i64 (i625:Int)),(65,.slice a645 (r639).length c646),(66,.slice a717 (x705).length c718)] (by kernel_rfl) ?_
       obtain ⟨r723,hr724,hl621⟩:=zq hl621
       refine OW.fn rfl rfl rfl rfl (by kernel_rfl) (zdQ _ (.slice a2 (p0.Ms).length c3) (.slice a5 (p0.Co).length c6) p0 (i625:Int) (.slice a645 (r639).length c646) r639 (.slice a717 (x705).length c718) x705 r723 hr724 (hst.part [] rfl) (h0_0.give hst []) (h0_1.give hst []) (hst.rd 0 rfl (fun _=>rfl) [] rfl (hst.len 0 rfl).1) (hvw715 _ (hst.noin 2 rfl [] rfl))) ?_
       rintro e w725 ⟨rfl,hst726⟩
       refine ⟨_,rfl,?_⟩
       have hst:=hst.join (idx:= []) (rest:= [0,1,2]) rfl hst726
       refine OW.pure 1 [(11,.int .i64 r723)] (by kernel_rfl) ?_
       refine OW.nil rfl ?_
       refine QW.next ?_
       refine CW.seq ?_
       refine CW.region ?_
       refine OW.pure 2 [(69,.bool (r723 != 0))] (by kernel_rfl) ?_
       refine OW.nil rfl ?_
       refine QW.next ?_
       rcases zft ((r723 != 0)) with hc727 | hc727
       ·have hl621:=zed hl621 hc727
        refine CW.cond_t rfl hc727 ?_
        refine CW.seq ?_
        refine CW.region ?_
        refine OW.pure 5 [(2,.slice none 0 0),(3,.int .i64 (i625:Int)),(4,.int .i64 r723)] (by kernel_rfl) ?_
        refine OW.nil rfl ?_
        refine QW.next ?_
        refine CW.ret ?_
        refine QW.block_ret ?_
        refine QW.then_ret ?_
        refine QW.then_ret ?_
        refine QW.block_ret ?_
        refine QW.then_ret ?_
        have hst:=hst.toIt 0 rfl (fun _=>rfl) (by decide)
        obtain ⟨S728,hst⟩:=hst.nback0 2 0 rfl rfl rfl (zgj s622 r639)
        have hst:=hst.keep [1,2] rfl
        have hst:=hst.nNil 255 vU none
        obtain rfl:=Option.some.inj hl621
        obtain rfl:=Option.some.inj hF
        refine QW.ret3 rfl rfl rfl rfl ?_
        exact ⟨(.slice none 0 0),([]),rfl,hst.keep [2] rfl⟩
       ·have hl621:=zee hl621 hc727
        refine CW.cond_f rfl hc727 ?_
        refine CW.skip ?_
        refine QW.block_normal ?_
        refine QW.next ?_
        refine CW.region ?_
        refine OW.pure 3 [(8,.int .i64 (w64 ((i625:Int)+1)))] (by kernel_rfl) ?_
        refine OW.nil rfl ?_
        have hst:=hst.toIt 0 rfl (fun _=>rfl) (by decide)
        obtain ⟨S729,hst⟩:=hst.nback0 2 0 rfl rfl rfl (zgj s622 r639)
        have hst:=hst.keep [1,2] rfl
        refine QW.say 8 rfl (congrArg (Value.int .i64) (zf5 hc630 l4)) ?_
        exact QW.meet (fun a ha=>⟨n620,zls _,i625+1,(s622++ [r639]),(.slice a665 ((s622++ [r639])).length c666),S729,zeJ hi626,ha.agrees (by kernel_rfl),hst.keep [0,1] rfl,hl621⟩)
      ·have hl621:=zee hl621 hc682
       refine CW.cond_f rfl hc682 ?_
       refine CW.skip ?_
       refine QW.next ?_
       refine CW.seq ?_
       refine CW.region ?_
       refine OW.ldN (cs:= [.slice a2 (p0.Ms).length c3,.slice a5 (p0.Co).length c6]) rfl rfl rfl rfl (by kernel_rfl) (by kernel_rfl) (hst.blkN 1 rfl 0 2) ?_
       refine OW.pure 3 [(64,.int .i64 (i625:Int)),(65,.slice a645 (r639).length c646),(66,.slice a645 (r639).length c646)] (by kernel_rfl) ?_
       obtain ⟨r735,hr736,hl621⟩:=zq hl621
       refine OW.fn rfl rfl rfl rfl (by kernel_rfl) (zdQ _ (.slice a2 (p0.Ms).length c3) (.slice a5 (p0.Co).length c6) p0 (i625:Int) (.slice a645 (r639).length c646) r639 (.slice a645 (r639).length c646) r639 r735 hr736 (hst.part [] rfl) (h0_0.give hst []) (h0_1.give hst []) (hst.rd 0 rfl (fun _=>rfl) [] rfl (hst.len 0 rfl).1) (hst.rd 0 rfl (fun _=>rfl) [] rfl (hst.len 0 rfl).1)) ?_
       rintro e w737 ⟨rfl,hst738⟩
       refine ⟨_,rfl,?_⟩
       have hst:=hst.join (idx:= []) (rest:= [0,1,2]) rfl hst738
       refine OW.pure 1 [(11,.int .i64 r735)] (by kernel_rfl) ?_
       refine OW.nil rfl ?_
       refine QW.next ?_
       refine CW.seq ?_
       refine CW.region ?_
       refine OW.pure 2 [(69,.bool (r735 != 0))] (by kernel_rfl) ?_
       refine OW.nil rfl ?_
       refine QW.next ?_
       rcases zft ((r735 != 0)) with hc739 | hc739
       ·have hl621:=zed hl621 hc739
        refine CW.cond_t rfl hc739 ?_
        refine CW.seq ?_
        refine CW.region ?_
        refine OW.pure 5 [(2,.slice none 0 0),(3,.int .i64 (i625:Int)),(4,.int .i64 r735)] (by kernel_rfl) ?_
        refine OW.nil rfl ?_
        refine QW.next ?_
        refine CW.ret ?_
        refine QW.block_ret ?_
        refine QW.then_ret ?_
        refine QW.then_ret ?_
        refine QW.block_ret ?_
        refine QW.then_ret ?_
        have hst:=hst.toIt 0 rfl (fun _=>rfl) (by decide)
        obtain ⟨S740,hst⟩:=hst.nback0 2 0 rfl rfl rfl (zgj s622 r639)
        have hst:=hst.keep [1,2] rfl
        have hst:=hst.nNil 255 vU none
        obtain rfl:=Option.some.inj hl621
        obtain rfl:=Option.some.inj hF
        refine QW.ret3 rfl rfl rfl rfl ?_
        exact ⟨(.slice none 0 0),([]),rfl,hst.keep [2] rfl⟩
       ·have hl621:=zee hl621 hc739
        refine CW.cond_f rfl hc739 ?_
        refine CW.skip ?_
        refine QW.block_normal ?_
        refine QW.next ?_
        refine CW.region ?_
        refine OW.pure 3 [(8,.int .i64 (w64 ((i625:Int)+1)))] (by kernel_rfl) ?_
        refine OW.nil rfl ?_
        have hst:=hst.toIt 0 rfl (fun _=>rfl) (by decide)
        obtain ⟨S741,hst⟩:=hst.nback0 2 0 rfl rfl rfl (zgj s622 r639)
        have hst:=hst.keep [1,2] rfl
        refine QW.say 8 rfl (congrArg (Value.int .i64) (zf5 hc630 l4)) ?_
        exact QW.meet (fun a ha=>⟨n620,zls _,i625+1,(s622++ [r639]),(.slice a665 ((s622++ [r639])).length c666),S741,zeJ hi626,ha.agrees (by kernel_rfl),hst.keep [0,1] rfl,hl621⟩)
    ·rcases n620 with _ | n620
     ·refine CW.cond_f rfl hc630 ?_
      refine CW.exit ?_
      refine QW.then_exit ?_
      refine QW.then_exit ?_
      refine QW.block_here ?_
      obtain rfl:=Option.some.inj hl621
      exact QW.meet (fun a ha=>⟨s622,(.slice a628 (s622).length c629),S624,rfl,ha.agrees (by kernel_rfl),hst.keep [1] rfl⟩)
     ·exact (zr9 hi626 hc630).elim
   ·rintro a w1 ⟨t387,v383,S384,rfl,ha,hst⟩
    refine CW.go ?_ ha
    obtain ⟨l744,a745,c746,rfl⟩:=hst.nlen 0 rfl
    refine CW.seq ?_
    refine CW.region ?_
    refine OW.pure 4 [(2,.slice a745 (t387).length c746),(3,.int .i64 0),(4,.int .i64 0)] (by kernel_rfl) ?_
    refine OW.nil rfl ?_
    refine QW.next ?_
    refine CW.ret ?_
    obtain rfl:=Option.some.inj hF
    refine QW.ret3 rfl rfl rfl rfl ?_
    exact ⟨(.slice a745 (t387).length c746),S384,rfl,hst.keep [0] rfl⟩
instance tappetref09_All_g {fu:Nat} {p0:zg}:HasC (xz fu p0) (∀ (a2:Option Addr) (c3:Nat) (a5:Option Addr) (c6:Nat),Ctr Tryz.prog 94 [.agg [.slice a2 (p0.Ms).length c3,.slice a5 (p0.Co).length c6].toArray] [.rd (.slice a2 (p0.Ms).length c3) (zn .i64) 1 p0.Ms,.rd (.slice a5 (p0.Co).length c6) zp 5 p0.Co] [] (xz fu p0) (fun (r:(List (List zb))×Int×Int) (i:(Option Addr)×Nat×(List Nat)×Unit)=>(.tuple #[.slice i.1 (r.1).length i.2.1,.int .i64 r.2.1,.int .i64 r.2.2],[nI 255 vU (.slice i.1 (r.1).length i.2.1) i.2.2.1 r.1 none]))):=⟨fun a2 c3 a5 c6=>⟨fun w r a hst hF=>by
  refine (zgH w fu _ _ _ r hF hst (a.1) (a.2.1)).mono ?_
  rintro e w' ⟨x0,Sx0,rfl,hst⟩
  obtain ⟨l747,a748,c749,rfl⟩:=hst.nlen 0 rfl
  exact ⟨(a748,c749,Sx0,()),rfl,hst⟩⟩⟩
end Go.Proofs.YtbmknhpfkpmigaaGreatDoor
