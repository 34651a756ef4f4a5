/- Texts W1p13 of this proof. -/
import Derived.Test.YtbmknhpfkpmigaaGreatDoorW1p12
set_option linter.unusedVariables false
set_option linter.unusedSimpArgs false
set_option maxRecDepth 10000
set_option maxHeartbeats 4000000
namespace Go.Proofs.YtbmknhpfkpmigaaGreatDoor
open Go.Sx
set_option maxRecDepth 10000 in
set_option maxHeartbeats 4000000 in
theorem zdR (w:World) (fu:Nat) (v0:Value) (S0:List Nat) (p0:za) (p1:Int) (r:(List Int)×za) (hF:zL fu p0 p1=some r)
    (hst:St w (fp [itI jr [v0] S0 p0]) w [itI jr [v0] S0 p0]):
    Calls Tryz.prog 55 [v0,.int .i64 p1].toArray w (fun e w'=> ∃ (s0:List Nat) (x0:Value),e= .returned (x0)/\St w (fp [itI jr [v0] S0 p0]) w' [itI jr [v0] s0 r.2,zZ x0 3 (zn .i64) 1 r.1]):=by
 refine CW.start (N:=73) Tryz.func55 rfl rfl rfl ?_
 obtain ⟨b1,rfl⟩:=hst.fptr 0 rfl
 refine CW.seq ?_
 refine CW.region ?_
 refine OW.pure 1 [] (by kernel_rfl) ?_
 refine OW.nil rfl ?_
 refine QW.next ?_
 refine CW.seq ?_
 refine CW.region ?_
 refine OW.alloc hst rfl rfl rfl [.slice none 0 0] (by kernel_rfl) ?_
 intro b4 w5 hst
 refine OW.nil rfl ?_
 refine QW.next ?_
 refine CW.seq ?_
 refine CW.seq ?_
 obtain ⟨v6,S7,v8,S9,v10,S11,v12,S13,v14,S15,hst⟩:=hst.openQ5 0 rfl rfl rfl rfl rfl rfl
 obtain ⟨r16,rfl,hst⟩:=hst.toMN1 5 rfl
 have hst:=hst.toRow1 6 rfl
 obtain ⟨b17,rfl⟩:=hst.fptr 2 rfl
 obtain ⟨b18,rfl⟩:=hst.fptr 3 rfl
 obtain ⟨b19,rfl⟩:=hst.fptr 4 rfl
 obtain ⟨l20,a21,c22,rfl⟩:=hst.len 6 rfl
 have hst:St _ _ _ [jF b1 130 [.pointer (some ⟨b17,0,none⟩),.pointer (some ⟨b18,0,none⟩),.pointer (some ⟨b19,0,none⟩),.int .i64 p0.hooks,.int .i64 p0.maps,.int .i64 p0.given,.map (some r16),.slice a21 (p0.waiting).length c22],_,_,_,_,_,_]:=hst
 refine CW.region ?_
 refine OW.pure 3 [(12,.pointer (some ⟨b1,7,none⟩))] (by kernel_rfl) ?_
 refine OW.ld rfl rfl rfl rfl (by kernel_rfl) (hst.blk 0 rfl rfl) ?_
 refine OW.pure 2 [(14,.int .i64 ((p0.waiting).length:Int)),(15,.int .i64 0)] (by kernel_rfl) ?_
 refine OW.nil rfl ?_
 refine QW.next ?_
 obtain ⟨o246,ho247,hF⟩:=zq hF
 refine CW.cutK (fun a w1=> ∃ (S244:List Nat) (v245:Value),Rep 73 [(0,.pointer (some ⟨b1,0,none⟩)),(5,.pointer (some ⟨b4,0,none⟩))] a/\St w (fp [itI jr [.pointer (some ⟨b1,0,none⟩)] S0 p0]) w1 [itI jr [.pointer (some ⟨b1,0,none⟩)] S244 p0,jF b4 34 [v245],zZ v245 3 (zn .i64) 1 o246]) ?_ ?_
 ·refine CW.block ?_
  have hst:=hst.nilRow Int 3 (zn .i64) 1
  refine CW.loop (fun n a w1=> ∃ (i397:Nat) (s394:(List Int)) (S395:List Nat) (v396:Value),i397+n=(p0.waiting).length/\Rep 73 [(0,.pointer (some ⟨b1,0,none⟩)),(1,.int .i64 p1),(5,.pointer (some ⟨b4,0,none⟩)),(13,.slice a21 (p0.waiting).length c22),(14,.int .i64 ((p0.waiting).length:Int)),(15,.int .i64 (i397:Int))] a/\St w (fp [itI jr [.pointer (some ⟨b1,0,none⟩)] S0 p0]) w1 [jF b1 130 [.pointer (some ⟨b17,0,none⟩),.pointer (some ⟨b18,0,none⟩),.pointer (some ⟨b19,0,none⟩),.int .i64 p0.hooks,.int .i64 p0.maps,.int .i64 p0.given,.map (some r16),.slice a21 (p0.waiting).length c22],itI vq [.pointer (some ⟨b17,0,none⟩)] S7 p0.Table,itI xB [.pointer (some ⟨b18,0,none⟩)] S9 p0.Refs,itI vB [.pointer (some ⟨b19,0,none⟩)] S395 p0.Clock,mN r16 zeO S13 p0.progs none,zZ (.slice a21 (p0.waiting).length c22) 3 (zn .i64) 1 p0.waiting,jF b4 34 [v396],zZ v396 3 (zn .i64) 1 s394]/\qf (qd p0 p1) (fun (s394:(List Int))=>s394) n i397 s394=some o246) (p0.waiting).length (fun a ha=>⟨0,([]:List Int),S11,(.slice none 0 0),Nat.zero_add _,ha.agrees (by kernel_rfl),hst.keep [0,2,3,4,5,6,1,7] rfl,ho247⟩) ?_
  rintro n392 a w1 ⟨i397,s394,S395,v396,hi398,ha,hst,hl393⟩
  refine CW.go ?_ ha
  obtain ⟨l399,a400,c401,rfl⟩:=hst.len 7 rfl
  refine CW.seq ?_
  refine CW.region ?_
  refine OW.pure 1 [(16,.bool (decide ((i397:Int)<((p0.waiting).length:Int))))] (by kernel_rfl) ?_
  refine OW.nil rfl ?_
  refine QW.next ?_
  refine CW.seq ?_
  rcases zft (decide ((i397:Int)<((p0.waiting).length:Int))) with hc402 | hc402
  ·rcases n392 with _ | n392
   ·exact (zr8 hi398 hc402).elim
   refine CW.cond_t rfl hc402 ?_
   refine CW.skip ?_
   refine QW.next ?_
   refine CW.seq ?_
   refine CW.block ?_
   refine CW.seq ?_
   refine CW.region ?_
   obtain ⟨x409,hx410,hl393⟩:=zq hl393
   obtain ⟨g412,o413,c414,hv411⟩:=hst.rowv 5 rfl hx410
   refine OW.idx 3 1 rfl rfl rfl rfl hv411 rfl (qB hx410).1 (qB hx410).2.1 (by kernel_rfl) (by kernel_rfl) ?_
   refine OW.ld rfl rfl rfl rfl (by kernel_rfl) (hst.rowc 5 rfl (fun _=>rfl) hx410 hv411 0 _ rfl) ?_
   refine OW.pure 1 [(7,.int .i64 x409)] (by kernel_rfl) ?_
   refine OW.nil rfl ?_
   refine QW.next ?_
   refine CW.seq ?_
   obtain ⟨o431,ho432,hl393⟩:=zq hl393
   refine CW.cutK (fun a w1=> ∃ (S430:List Nat),Rep 73 [(0,.pointer (some ⟨b1,0,none⟩)),(1,.int .i64 p1),(5,.pointer (some ⟨b4,0,none⟩)),(7,.int .i64 x409),(13,.slice a21 (p0.waiting).length c22),(14,.int .i64 ((p0.waiting).length:Int)),(15,.int .i64 (i397:Int)),(38,.bool o431)] a/\St w (fp [itI jr [.pointer (some ⟨b1,0,none⟩)] S0 p0]) w1 [jF b1 130 [.pointer (some ⟨b17,0,none⟩),.pointer (some ⟨b18,0,none⟩),.pointer (some ⟨b19,0,none⟩),.int .i64 p0.hooks,.int .i64 p0.maps,.int .i64 p0.given,.map (some r16),.slice a21 (p0.waiting).length c22],itI vq [.pointer (some ⟨b17,0,none⟩)] S7 p0.Table,itI xB [.pointer (some ⟨b18,0,none⟩)] S9 p0.Refs,itI vB [.pointer (some ⟨b19,0,none⟩)] S430 p0.Clock,mN r16 zeO S13 p0.progs none,zZ (.slice a21 (p0.waiting).length c22) 3 (zn .i64) 1 p0.waiting,jF b4 34 [.slice a400 (s394).length c401],zZ (.slice a400 (s394).length c401) 3 (zn .i64) 1 s394]) ?_ ?_
   ·refine CW.tail 18 (by kernel_rfl) (by kernel_rfl) ?_
    intro w433 hch434
    have hst:=hst.same hch434
    refine OS.ld rfl rfl rfl rfl rfl (by kernel_rfl) (hst.blk 6 rfl rfl) ?_
    refine OS.pure 4 [(23,.bool (decide (((s394).length:Int)<p1)))] rfl (by kernel_rfl) ?_
    refine OS.split 23 rfl (fun hc435=> ?_) (fun hc435=> ?_)
    ·have ho432:=zed ho432 hc435
     refine OS.pure 3 [(26,.pointer (some ⟨b1,2,none⟩))] rfl (by kernel_rfl) ?_
     refine OS.ld rfl rfl rfl rfl rfl (by kernel_rfl) (hst.blk 0 rfl rfl) ?_
     refine OS.pure 3 [(30,.pointer (some ⟨b1,6,none⟩))] rfl (by kernel_rfl) ?_
     refine OS.ld rfl rfl rfl rfl rfl (by kernel_rfl) (hst.blk 0 rfl rfl) ?_
     refine OS.pure 1 [(32,.int .i64 x409)] rfl (by kernel_rfl) ?_
     obtain ⟨y436,hy437,ho432⟩:=zq ho432
     obtain ⟨b438,hpk439,hrd440⟩:=hst.mpeek 4 rfl hy437
     refine OS.op (v:= .pointer (some ⟨b438,0,none⟩)) rfl rfl rfl rfl rfl (zpz (tk:=3) (te:=190) (kd:= .i64) hpk439 rfl rfl rfl (by kernel_rfl) (by kernel_rfl)) ?_
     refine OS.pure 2 [(35,.pointer (some ⟨b438,2,none⟩))] rfl (by kernel_rfl) ?_
     refine OS.ld rfl rfl rfl rfl rfl (by kernel_rfl) (zpA hrd440 2 (fun _=>rfl)) ?_
     refine OS.on ?_
     obtain ⟨r441,hr442,ho432⟩:=zq ho432
     refine OW.fn rfl rfl rfl rfl (by kernel_rfl) (zf9 _ (.pointer (some ⟨b19,0,none⟩)) S395 p0.Clock y436.retiring r441 hr442 (hst.part [3] rfl)) ?_
     rintro e w443 ⟨S445,rfl,hst444⟩
     refine ⟨_,rfl,?_⟩
     have hst:=hst.join (idx:= [3]) (rest:= [0,1,2,4,5,6,7]) rfl hst444
     refine OW.pure 1 [(38,.bool r441)] (by kernel_rfl) ?_
     refine OW.nil rfl ?_
     obtain rfl:=Option.some.inj ho432
     exact QW.meet (fun a ha=>⟨S445,ha.agrees (by kernel_rfl),hst.keep [1,2,3,0,4,5,6,7] rfl⟩)
    ·have ho432:=zee ho432 hc435
     refine OS.pure 13 [(27,undef),(36,undef)] rfl (by kernel_rfl) ?_
     refine OS.on ?_
     refine OW.pure 2 [(38,.bool false)] (by kernel_rfl) ?_
     refine OW.nil rfl ?_
     obtain rfl:=Option.some.inj ho432
     exact QW.meet (fun a ha=>⟨S395,ha.agrees (by kernel_rfl),hst.keep [0,1,2,3,4,5,6,7] rfl⟩)
   ·rintro a w1 ⟨S430,ha,hst⟩
    refine CW.go ?_ ha
    rcases zft (o431) with hc446 | hc446
    ·have hl393:=zed hl393 hc446
     refine CW.cond_t rfl hc446 ?_
     refine CW.region ?_
     refine OW.ld rfl rfl rfl rfl (by kernel_rfl) (hst.blk 6 rfl rfl) ?_
     refine OW.pure 1 [(40,.int .i64 x409)] (by kernel_rfl) ?_
     refine OW.row (α:=Int) (e:=3) (enc:=zn .i64) (sz:=1) hst rfl rfl rfl [x409] rfl (fun _=>rfl) rfl rfl (fun _=>by kernel_rfl) ?_
     intro g457 w458 hst
     obtain ⟨u459,hr460,hl393⟩:=zq hl393
     refine OW.app hst 7 rfl (fun _=>rfl) (fun _=>rfl) rfl rfl rfl rfl rfl rfl (by kernel_rfl) el3 (hst.rd 8 rfl (fun _=>rfl) [] rfl (hst.len 8 rfl).1) (zf4 hr460) ?_
     intro v461 w462 hst
     obtain ⟨l463,a464,c465,rfl⟩:=hst.len 7 rfl
     refine OW.stB hst 6 rfl rfl rfl rfl rfl (by kernel_rfl) rfl rfl [.slice a464 ((s394++ [x409])).length c465] rfl ?_
     intro w466 hst
     refine OW.nil rfl ?_
     refine QW.block_normal ?_
     refine QW.next ?_
     refine CW.region ?_
     refine OW.pure 2 [(15,.int .i64 (w64 ((i397:Int)+1)))] (by kernel_rfl) ?_
     refine OW.nil rfl ?_
     refine QW.say 15 rfl (congrArg (Value.int .i64) (zf5 hc402 l20)) ?_
     exact QW.meet (fun a ha=>⟨n392,zls _,i397+1,(s394++ [x409]),S430,(.slice a464 ((s394++ [x409])).length c465),zeJ hi398,ha.agrees (by kernel_rfl),hst.keep [0,1,2,3,4,5,6,7] rfl,hl393⟩)
    ·have hl393:=zee hl393 hc446
     refine CW.cond_f rfl hc446 ?_
     refine CW.skip ?_
     refine QW.block_normal ?_
     refine QW.next ?_
     refine CW.region ?_
     refine OW.pure 2 [(15,.int .i64 (w64 ((i397:Int)+1)))] (by kernel_rfl) ?_
     refine OW.nil rfl ?_
     refine QW.say 15 rfl (congrArg (Value.int .i64) (zf5 hc402 l20)) ?_
     exact QW.meet (fun a ha=>⟨n392,zls _,i397+1,s394,S430,(.slice a400 (s394).length c401),zeJ hi398,ha.agrees (by kernel_rfl),hst.keep [0,1,2,3,4,5,6,7] rfl,hl393⟩)
  ·rcases n392 with _ | n392
   ·refine CW.cond_f rfl hc402 ?_
    refine CW.exit ?_
    refine QW.then_exit ?_
    refine QW.then_exit ?_
    refine QW.block_here ?_
    have hst:=hst.ofMN 4 rfl
    have hst:=hst.toIt 5 rfl (fun _=>rfl) (by decide)
    obtain ⟨S469,hst⟩:=hst.shutP5 jC rfl 0 1 2 3 4 5 [6,7] rfl rfl rfl rfl rfl rfl rfl p0 rfl rfl
    obtain rfl:=Option.some.inj hl393
    exact QW.meet (fun a ha=>⟨S469,(.slice a400 (s394).length c401),ha.agrees (by kernel_rfl),hst.keep [2,0,1] rfl⟩)
   ·exact (zr9 hi398 hc402).elim
 ·rintro a w1 ⟨S244,v245,ha,hst⟩
  refine CW.go ?_ ha
  obtain ⟨l471,a472,c473,rfl⟩:=hst.len 2 rfl
  refine CW.seq ?_
  refine CW.seq ?_
  refine CW.region ?_
  refine OW.ld rfl rfl rfl rfl (by kernel_rfl) (hst.blk 1 rfl rfl) ?_
  refine OW.pure 2 [(45,.int .i64 ((o246).length:Int)),(46,.int .i64 0)] (by kernel_rfl) ?_
  refine OW.nil rfl ?_
  refine QW.next ?_
  obtain ⟨o631,ho632,hF⟩:=zq hF
  refine CW.cutK (fun a w1=> ∃ (S630:List Nat),Rep 73 [(0,.pointer (some ⟨b1,0,none⟩)),(5,.pointer (some ⟨b4,0,none⟩))] a/\St w (fp [itI jr [.pointer (some ⟨b1,0,none⟩)] S0 p0]) w1 [itI jr [.pointer (some ⟨b1,0,none⟩)] S630 o631,jF b4 34 [.slice a472 (o246).length c473],zZ (.slice a472 (o246).length c473) 3 (zn .i64) 1 o246]) ?_ ?_
  ·refine CW.block ?_
   refine CW.loop (fun n a w1=> ∃ (i738:Nat) (s736:za) (S737:List Nat),i738+n=(o246).length/\Rep 73 [(0,.pointer (some ⟨b1,0,none⟩)),(5,.pointer (some ⟨b4,0,none⟩)),(44,.slice a472 (o246).length c473),(45,.int .i64 ((o246).length:Int)),(46,.int .i64 (i738:Int))] a/\St w (fp [itI jr [.pointer (some ⟨b1,0,none⟩)] S0 p0]) w1 [itI jr [.pointer (some ⟨b1,0,none⟩)] S737 s736,jF b4 34 [.slice a472 (o246).length c473],zZ (.slice a472 (o246).length c473) 3 (zn .i64) 1 o246]/\qf (qe o246) (fun (s736:za)=>s736) n i738 s736=some o631) (o246).length (fun a ha=>⟨0,p0,S244,Nat.zero_add _,ha.agrees (by kernel_rfl),hst.keep [0,1,2] rfl,ho632⟩) ?_
   rintro n734 a w1 ⟨i738,s736,S737,hi739,ha,hst,hl735⟩
   refine CW.go ?_ ha
   refine CW.seq ?_
   refine CW.region ?_
   refine OW.pure 1 [(47,.bool (decide ((i738:Int)<((o246).length:Int))))] (by kernel_rfl) ?_
   refine OW.nil rfl ?_
   refine QW.next ?_
   refine CW.seq ?_
   rcases zft (decide ((i738:Int)<((o246).length:Int))) with hc740 | hc740
   ·rcases n734 with _ | n734
    ·exact (zr8 hi739 hc740).elim
    refine CW.cond_t rfl hc740 ?_
    refine CW.skip ?_
    refine QW.next ?_
    refine CW.seq ?_
    refine CW.block ?_
    refine CW.seq ?_
    refine CW.region ?_
    obtain ⟨x747,hx748,hl735⟩:=zq hl735
    obtain ⟨g750,o751,c752,hv749⟩:=hst.rowv 2 rfl hx748
    refine OW.idx 3 1 rfl rfl rfl rfl hv749 rfl (qB hx748).1 (qB hx748).2.1 (by kernel_rfl) (by kernel_rfl) ?_
    refine OW.ld rfl rfl rfl rfl (by kernel_rfl) (hst.rowc 2 rfl (fun _=>rfl) hx748 hv749 0 _ rfl) ?_
    refine OW.pure 1 [(9,.int .i64 x747)] (by kernel_rfl) ?_
    refine OW.nil rfl ?_
    refine QW.next ?_
    refine CW.seq ?_
    obtain ⟨v753,S754,v755,S756,v757,S758,v759,S760,v761,S762,hst⟩:=hst.openQ5 0 rfl rfl rfl rfl rfl rfl
    obtain ⟨r763,rfl,hst⟩:=hst.toMN1 6 rfl
    have hst:=hst.toRow1 7 rfl
    obtain ⟨b764,rfl⟩:=hst.fptr 3 rfl
    obtain ⟨b765,rfl⟩:=hst.fptr 4 rfl
    obtain ⟨b766,rfl⟩:=hst.fptr 5 rfl
    obtain ⟨l767,a768,c769,rfl⟩:=hst.len 7 rfl
    have hst:St _ _ _ [jF b1 130 [.pointer (some ⟨b764,0,none⟩),.pointer (some ⟨b765,0,none⟩),.pointer (some ⟨b766,0,none⟩),.int .i64 s736.hooks,.int .i64 s736.maps,.int .i64 s736.given,.map (some r763),.slice a768 (s736.waiting).length c769],_,_,_,_,_,_,_]:=hst
    refine CW.region ?_
    refine OW.pure 3 [(52,.pointer (some ⟨b1,6,none⟩))] (by kernel_rfl) ?_
    refine OW.ld rfl rfl rfl rfl (by kernel_rfl) (hst.blk 0 rfl rfl) ?_
    refine OW.pure 1 [(54,.int .i64 x747)] (by kernel_rfl) ?_
    refine OW.mdelN (tk:=3) (te:=190) (kd:= .i64) hst 6 rfl rfl rfl rfl rfl rfl (by kernel_rfl) (by kernel_rfl) ?_
    intro S773 w772 hst
    refine OW.nil rfl ?_
    refine QW.next ?_
    refine CW.region ?_
    refine OW.pure 3 [(57,.pointer (some ⟨b1,1,none⟩))] (by kernel_rfl) ?_
    refine OW.ld rfl rfl rfl rfl (by kernel_rfl) (hst.blk 0 rfl rfl) ?_
    refine OW.pure 1 [(59,.int .i64 x747)] (by kernel_rfl) ?_
    refine OW.row (α:=Int) (e:=3) (enc:=zn .i64) (sz:=1) hst rfl rfl rfl [x747] rfl (fun _=>rfl) rfl rfl (fun _=>by kernel_rfl) ?_
    intro g781 w782 hst
    obtain ⟨r783,hr784,hl735⟩:=zq hl735
    refine OW.fn rfl rfl rfl rfl (by kernel_rfl) (zgY _ (.pointer (some ⟨b765,0,none⟩)) S756 s736.Refs (.slice (some ⟨g781,0,none⟩) 1 1) ([x747]) r783 hr784 (hst.part [4] rfl) (hst.rd 8 rfl (fun _=>rfl) [4] rfl (hst.len 8 rfl).1)) ?_
    rintro e w785 ⟨S787,rfl,hst786⟩
    refine ⟨_,rfl,?_⟩
    have hst:=hst.join (idx:= [4]) (rest:= [0,1,2,3,5,6,7,8]) rfl hst786
    refine OW.nil rfl ?_
    refine QW.block_normal ?_
    refine QW.next ?_
    refine CW.region ?_
    refine OW.pure 2 [(46,.int .i64 (w64 ((i738:Int)+1)))] (by kernel_rfl) ?_
    refine OW.nil rfl ?_
    have hst:=hst.ofMN 6 rfl
    have hst:=hst.toIt 7 rfl (fun _=>rfl) (by decide)
    obtain ⟨S788,hst⟩:=hst.shutP5 jC rfl 1 4 0 5 6 7 [2,3,8] rfl rfl rfl rfl rfl rfl rfl (za.mk s736.Table r783.2 s736.Clock s736.hooks s736.maps s736.given (mdel s736.progs x747) s736.waiting) rfl rfl
    refine QW.say 46 rfl (congrArg (Value.int .i64) (zf5 hc740 l471)) ?_
    exact QW.meet (fun a ha=>⟨n734,zls _,i738+1,(za.mk s736.Table r783.2 s736.Clock s736.hooks s736.maps s736.given (mdel s736.progs x747) s736.waiting),S788,zeJ hi739,ha.agrees (by kernel_rfl),hst.keep [3,0,1] rfl,hl735⟩)
   ·rcases n734 with _ | n734
    ·refine CW.cond_f rfl hc740 ?_
     refine CW.exit ?_
     refine QW.then_exit ?_
     refine QW.then_exit ?_
     refine QW.block_here ?_
     obtain rfl:=Option.some.inj hl735
     exact QW.meet (fun a ha=>⟨S737,ha.agrees (by kernel_rfl),hst.keep [0,1,2] rfl⟩)
    ·exact (zr9 hi739 hc740).elim
  ·rintro a w1 ⟨S630,ha,hst⟩
   refine CW.go ?_ ha
   refine CW.seq ?_
   obtain ⟨v789,S790,v791,S792,v793,S794,v795,S796,v797,S798,hst⟩:=hst.openQ5 0 rfl rfl rfl rfl rfl rfl
   obtain ⟨r799,rfl,hst⟩:=hst.toMN1 6 rfl
   have hst:=hst.toRow1 7 rfl
   obtain ⟨b800,rfl⟩:=hst.fptr 3 rfl
   obtain ⟨b801,rfl⟩:=hst.fptr 4 rfl
   obtain ⟨b802,rfl⟩:=hst.fptr 5 rfl
   obtain ⟨l803,a804,c805,rfl⟩:=hst.len 7 rfl
   have hst:St _ _ _ [jF b1 130 [.pointer (some ⟨b800,0,none⟩),.pointer (some ⟨b801,0,none⟩),.pointer (some ⟨b802,0,none⟩),.int .i64 o631.hooks,.int .i64 o631.maps,.int .i64 o631.given,.map (some r799),.slice a804 (o631.waiting).length c805],_,_,_,_,_,_,_]:=hst
   refine CW.region ?_
   refine OW.pure 4 [(63,.pointer (some ⟨b1,0,none⟩)),(66,.pointer (some ⟨b1,7,none⟩))] (by kernel_rfl) ?_
   refine OW.ld rfl rfl rfl rfl (by kernel_rfl) (hst.blk 0 rfl rfl) ?_
   refine OW.pure 1 [(68,.func (.func 106) #[] #[.pointer (some ⟨b4,0,none⟩)])] (by kernel_rfl) ?_
   obtain ⟨r815,hr816,hF⟩:=zq hF
   refine OW.fn rfl rfl rfl rfl (by kernel_rfl) (zck _ fu (.slice a804 (o631.waiting).length c805) o631.waiting b4 (.slice a472 (o246).length c473) o246 r815 hr816 (hst.part [7] rfl) (hst.rd 2 rfl (fun _=>rfl) [7] rfl (hst.len 2 rfl).1) (hst.rdB 1 rfl [7] rfl)) ?_
   rintro e w817 ⟨v819,rfl,hst818⟩
   refine ⟨_,rfl,?_⟩
   have hst:=hst.join (idx:= [7]) (rest:= [0,1,2,3,4,5,6]) rfl hst818
   obtain ⟨l820,a821,c822,rfl⟩:=hst.len 0 rfl
   refine OW.pure 2 [(71,.pointer (some ⟨b1,7,none⟩))] (by kernel_rfl) ?_
   refine OW.stB hst 1 rfl rfl rfl rfl rfl (by kernel_rfl) rfl rfl [.pointer (some ⟨b800,0,none⟩),.pointer (some ⟨b801,0,none⟩),.pointer (some ⟨b802,0,none⟩),.int .i64 o631.hooks,.int .i64 o631.maps,.int .i64 o631.given,.map (some r799),.slice a821 (r815).length c822] rfl ?_
   intro w823 hst
   refine OW.nil rfl ?_
   refine QW.next ?_
   refine CW.seq ?_
   refine CW.region ?_
   refine OW.ld rfl rfl rfl rfl (by kernel_rfl) (hst.blk 2 rfl rfl) ?_
   refine OW.pure 1 [(4,.slice a472 (o246).length c473)] (by kernel_rfl) ?_
   refine OW.nil rfl ?_
   refine QW.next ?_
   refine CW.ret ?_
   have hst:=hst.ofMN 7 rfl
   have hst:=hst.toIt 0 rfl (fun _=>rfl) (by decide)
   obtain ⟨S824,hst⟩:=hst.shutP5 jC rfl 1 4 5 6 7 0 [2,3] rfl rfl rfl rfl rfl rfl rfl (za.mk o631.Table o631.Refs o631.Clock o631.hooks o631.maps o631.given o631.progs r815) rfl rfl
   obtain rfl:=Option.some.inj hF
   refine QW.ret1 rfl rfl ?_
   exact ⟨S824,(.slice a472 (o246).length c473),rfl,hst.keep [2,1] rfl⟩
instance registry_Registry_Settle_g {fu:Nat} {p0:za} {p1:Int}:HasC (zL fu p0 p1) (∀ (b1:Nat) (S0:List Nat),Ctr Tryz.prog 55 [.pointer (some ⟨b1,0,none⟩),.int .i64 p1] [] [itI jr [.pointer (some ⟨b1,0,none⟩)] S0 p0] (zL fu p0 p1) (fun (r:(List Int)×za) (i:(Option Addr)×Nat×(List Nat)×Unit)=>(.slice i.1 (r.1).length i.2.1,[itI jr [.pointer (some ⟨b1,0,none⟩)] i.2.2.1 r.2,zZ (.slice i.1 (r.1).length i.2.1) 3 (zn .i64) 1 r.1]))):=⟨fun b1 S0=>⟨fun w r a hst hF=>by
  refine (zdR w fu _ _ _ _ r hF hst).mono ?_
  rintro e w' ⟨s0,x0,rfl,hst⟩
  obtain ⟨l825,a826,c827,rfl⟩:=hst.len 1 rfl
  exact ⟨(a826,c827,s0,()),rfl,hst⟩⟩⟩
instance tappetref17_Clock_In_g {fu:Nat} {p0:zj} {p1:Int}:HasC (jn fu p0 p1) (∀ (b1:Nat) (S0:List Nat),Ctr Tryz.prog 109 [.pointer (some ⟨b1,0,none⟩),.int .i64 p1] [] [itI zan [.pointer (some ⟨b1,0,none⟩)] S0 p0] (jn fu p0 p1) (fun (r:Int×Bool) (i:(List Nat)×Unit)=>(.tuple #[.int .i64 r.1,.bool r.2],[itI zan [.pointer (some ⟨b1,0,none⟩)] i.1 p0]))):=⟨fun b1 S0=> .w (wk Tryz.func109 [.p 2,.fi,.p 2,.fi,.p 1,.fi,.dn 0,.ck [] (fun (o109:Int) (i:(List Nat)×Unit)=> [(7,.int .i64 o109)]) [0] (fun (o109:Int) (i:(List Nat)×Unit)=> [itI zan [.pointer (some ⟨b1,0,none⟩)] i.1 p0]) [.lg [0,1] (fun (s182:Int×Int×Int) (i:(List Nat)×Unit)=> [(6,.int .i64 s182.1),(7,.int .i64 s182.2.1),(8,.int .i64 s182.2.2)]) [0] (fun (s182:Int×Int×Int) (i:(List Nat)×Unit)=> [itI zan [.pointer (some ⟨b1,0,none⟩)] i.1 p0]) [0],.op 0 0 [0],.p 4,.ld 0 1,.p 2,.fi,.br [.p 3,.ld 0 1,.p 1,.bo 1,.ix 0 2,.lR 1 0 0 2,.al 217 [.int .i64 0,.int .i64 0],.st 2 0 2,.fi,.p 1,.ld 2 0,.p 2,.fi,.br [.p 3,.fi,.p 3,.fi,.sh 0 [.r 1] [2] zb8,.bg [1]] [.sc [0,1,6,7,8,9,32] [(1,.ld 2 1),(6,.ld 2 0)] [] [(8,false)],.br [.p 2,.fi,.p 3,.fi,.sh 0 [.r 1] [2] zb8,.bg [1]] [.p 1,.ld 2 1,.p 3,.fi,.br [.p 1,.fi,.p 3,.fi,.sh 0 [.r 1] [2] zb8,.bg [1]] [.p 3,.fi,.sh 0 [.r 1] [2] zb8,.bg [1]]]]] [.sh 0 [.r 1] [] zb8,.mt [0]]],.p 5,.fi,.rt [0]])⟩
instance tappetref17_Clock_Safe_g {fu:Nat} {p0:zj} {p1:Int}:HasC (xi fu p0 p1) (∀ (b1:Nat) (S0:List Nat),Ctr Tryz.prog 107 [.pointer (some ⟨b1,0,none⟩),.int .i64 p1] [] [itI zan [.pointer (some ⟨b1,0,none⟩)] S0 p0] (xi fu p0 p1) (fun (r:Bool) (i:(List Nat)×Unit)=>(.bool r,[itI zan [.pointer (some ⟨b1,0,none⟩)] i.1 p0]))):=⟨fun b1 S0=> .w (wk Tryz.func107 [.p 1,.fi,.p 1,.fi,.dn 0,.cs [] (fun (t75:Unit) (i:(List Nat)×Unit)=> []) [0] (fun (t75:Unit) (i:(List Nat)×Unit)=> [itI zan [.pointer (some ⟨b1,0,none⟩)] i.1 p0]) [.lg [0,1] (fun (s123:Int) (i:(List Nat)×Unit)=> [(5,.int .i64 s123)]) [0] (fun (s123:Int) (i:(List Nat)×Unit)=> [itI zan [.pointer (some ⟨b1,0,none⟩)] i.1 p0]) [0],.op 0 0 [0],.p 4,.ld 0 0,.p 1,.fi,.br [.p 2,.sh 0 [.r 1] [] zb8,.ca [0] [] [],.p 5,.fi,.sc [0,1,5,27] [] [] [(5,false)],.br [.p 1,.fi,.pop 0,.rt [0]] [.p 3,.fi,.bg [0]]] [.sh 0 [.r 1] [] zb8,.mt [0]]],.p 1,.fi,.rt [0]])⟩
end Go.Proofs.YtbmknhpfkpmigaaGreatDoor
