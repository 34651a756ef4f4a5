/- Texts W1p6 of this proof. -/
import Derived.Test.YtbmknhpfkpmigaaGreatDoorW1p5
set_option linter.unusedVariables false
set_option linter.unusedSimpArgs false
set_option maxRecDepth 10000
set_option maxHeartbeats 4000000
namespace Go.Proofs.YtbmknhpfkpmigaaGreatDoor
open Go.Sx
set_option maxRecDepth 10000 in
set_option maxHeartbeats 4000000 in
theorem zfI (w:World) (v0:Value) (S0:List Nat) (p0:zw) (p1:Int) (r:(List Int)) (hF:xX p0 p1=some r)
    (hst:St w (fp [itI xB [v0] S0 p0]) w [itI xB [v0] S0 p0]):
    Calls Tryz.prog 92 [v0,.int .i64 p1].toArray w (fun e w'=> ∃ (s0:List Nat) (x0:Value),e= .returned (x0)/\St w (fp [itI xB [v0] S0 p0]) w' [itI xB [v0] s0 p0,zZ x0 3 (zn .i64) 1 r]):=by
 refine CW.start (N:=28) Tryz.func92 rfl rfl rfl ?_
 obtain ⟨b1,rfl⟩:=hst.fptr 0 rfl
 refine CW.seq ?_
 refine CW.region ?_
 refine OW.pure 1 [] (by kernel_rfl) ?_
 refine OW.nil rfl ?_
 refine QW.next ?_
 refine CW.seq ?_
 refine CW.region ?_
 refine OW.pure 1 [(5,.slice none 0 0)] (by kernel_rfl) ?_
 refine OW.nil rfl ?_
 refine QW.next ?_
 refine CW.seq ?_
 refine CW.seq ?_
 obtain ⟨v2,S3,hst⟩:=hst.openQ1 0 rfl rfl
 obtain ⟨r4,rfl,hst⟩:=hst.toMN1 1 rfl
 have hst:St _ _ _ [jF b1 197 [.int .i64 p0.maps,.map (some r4)],_]:=hst
 refine CW.region ?_
 refine OW.pure 3 [(10,.pointer (some ⟨b1,1,none⟩))] (by kernel_rfl) ?_
 refine OW.ld rfl rfl rfl rfl (by kernel_rfl) (hst.blk 0 rfl rfl) ?_
 refine OW.range (tk:=3) (te:=34) hst 1 rfl rfl rfl rfl rfl (by kernel_rfl) ?_
 intro it7 w8 hst
 refine OW.nil rfl ?_
 refine QW.next ?_
 refine CW.block ?_
 have hst:=hst.nilRow Int 3 (zn .i64) 1
 refine CW.loop (fun n a w1=> ∃ (s140:(List Int)) (v141:Value) (rem142:List (Int×(List Int))) (last143:Option (Int×Value×(List Int))),n=rem142.length/\Rep 28 [(1,.int .i64 p1),(5,v141),(12,.pointer (some ⟨it7,0,none⟩))] a/\St w (fp [itI xB [.pointer (some ⟨b1,0,none⟩)] S0 p0]) w1 [zZ v141 3 (zn .i64) 1 s140,zol it7 r4 zeX S3 p0.held rem142 last143,jF b1 197 [.int .i64 p0.maps,.map (some r4)]]/\ ∀ q,q.Perm rem142->zd6 (jm p0 p1) (qM p0 p1) q s140=some r) (p0.held.length) (fun a ha=>⟨([]:List Int),(.slice none 0 0),p0.held,none,rfl,ha.agrees (by kernel_rfl),hst.keep [2,1,0] rfl,fun q hq=>(zeK p0 p1) q hq _ hF⟩) ?_
 rintro n137 a w1 ⟨s140,v141,rem142,last143,hn139,ha,hst,hl138⟩
 refine CW.go ?_ ha
 obtain ⟨l144,a145,c146,rfl⟩:=hst.len 0 rfl
 refine CW.seq ?_
 refine CW.region ?_
 refine OW.rnext hst 1 rfl rfl rfl rfl rfl ?_ ?_
 ·intro hr167
  have hf168:(qM p0 p1) s140=some r:=hl138 [] (by rw [hr167])
  have hst:=hst.unrng 1 rfl
  refine OW.pure 1 [(14,.bool false)] (by kernel_rfl) ?_
  refine OW.nil rfl ?_
  refine QW.next ?_
  refine CW.seq ?_
  refine CW.cond_f rfl rfl ?_
  refine CW.exit ?_
  refine QW.then_exit ?_
  refine QW.then_exit ?_
  refine QW.block_here ?_
  refine QW.next ?_
  refine CW.seq ?_
  refine CW.region ?_
  refine OW.pure 1 [(25,.slice a145 (s140).length c146)] (by kernel_rfl) ?_
  obtain ⟨r173,hr174,hf168⟩:=zq hf168
  refine OW.fn rfl rfl rfl rfl (by kernel_rfl) (zco _ (.slice a145 (s140).length c146) s140 r173 hr174 (hst.part [0] rfl)) ?_
  rintro e w175 ⟨rfl,hst176⟩
  refine ⟨_,rfl,?_⟩
  have hst:=hst.join (idx:= [0]) (rest:= [1,2]) rfl hst176
  refine OW.nil rfl ?_
  refine QW.next ?_
  refine CW.seq ?_
  refine CW.region ?_
  refine OW.pure 2 [(4,.slice a145 (s140).length c146)] (by kernel_rfl) ?_
  refine OW.nil rfl ?_
  refine QW.next ?_
  refine CW.ret ?_
  have hst:=hst.ofMN 1 rfl
  obtain ⟨S177,hst⟩:=hst.shutP1 zel rfl 2 1 [0] rfl rfl rfl p0 rfl rfl
  obtain rfl:=Option.some.inj hf168
  refine QW.ret1 rfl rfl ?_
  exact ⟨S177,(.slice a145 (s140).length c146),rfl,hst.keep [1,0] rfl⟩
 ·intro k158 v159 x160 rem161 w162 hp163 hst
  obtain ⟨t166,hs164,ht165⟩:=zq (hl138 ((k158,x160)::rem161) hp163.symm)
  have hs1640:=hs164
  refine OW.pure 1 [(14,.bool true)] (by kernel_rfl) ?_
  refine OW.nil rfl ?_
  refine QW.next ?_
  refine CW.seq ?_
  refine CW.cond_t rfl rfl ?_
  refine CW.skip ?_
  refine QW.next ?_
  refine CW.block ?_
  refine CW.seq ?_
  refine CW.region ?_
  refine OW.rentry hst 1 rfl rfl rfl rfl rfl ?_
  refine OW.pure 4 [(6,.int .i64 k158),(7,v159)] (by kernel_rfl) ?_
  refine OW.nil rfl ?_
  refine QW.next ?_
  refine CW.seq ?_
  refine CW.region ?_
  refine OW.pure 2 [(18,v159),(19,.int .i64 p1)] (by kernel_rfl) ?_
  obtain ⟨r182,hr183,hs164⟩:=zq hs164
  refine OW.fn rfl rfl rfl rfl (by kernel_rfl) (zdW _ v159 x160 p1 r182 hr183 (hst.part [] rfl) (hst.rseeRow 1 rfl [] rfl)) ?_
  rintro e w184 ⟨rfl,hst185⟩
  refine ⟨_,rfl,?_⟩
  have hst:=hst.join (idx:= []) (rest:= [0,1,2]) rfl hst185
  refine OW.nil rfl ?_
  refine QW.next ?_
  rcases zft (r182) with hc186 | hc186
  ·have hs164:=zed hs164 hc186
   refine CW.cond_t rfl hc186 ?_
   refine CW.region ?_
   refine OW.pure 2 [(21,.slice a145 (s140).length c146),(22,.int .i64 k158)] (by kernel_rfl) ?_
   refine OW.row (α:=Int) (e:=3) (enc:=zn .i64) (sz:=1) hst rfl rfl rfl [k158] rfl (fun _=>rfl) rfl rfl (fun _=>by kernel_rfl) ?_
   intro g196 w197 hst
   obtain ⟨u198,hr199,hs164⟩:=zq hs164
   refine OW.app hst 0 rfl (fun _=>rfl) (fun _=>rfl) rfl rfl rfl rfl rfl rfl (by kernel_rfl) el3 (hst.rd 3 rfl (fun _=>rfl) [] rfl (hst.len 3 rfl).1) (zf4 hr199) ?_
   intro v200 w201 hst
   obtain ⟨l202,a203,c204,rfl⟩:=hst.len 0 rfl
   refine OW.pure 1 [(5,.slice a203 ((s140++ [k158])).length c204)] (by kernel_rfl) ?_
   refine OW.nil rfl ?_
   refine QW.block_normal ?_
   obtain rfl:=Option.some.inj hs164
   exact QW.meet (fun a ha=>⟨_,zlU hn139 hp163,(s140++ [k158]),(.slice a203 ((s140++ [k158])).length c204),rem161,(some (k158,v159,x160)),rfl,ha.agrees (by kernel_rfl),hst.keep [0,1,2] rfl,fun q hq=>zeL (hl138 _ ((List.Perm.cons _ hq).trans hp163.symm)) hs1640⟩)
  ·have hs164:=zee hs164 hc186
   refine CW.cond_f rfl hc186 ?_
   refine CW.skip ?_
   refine QW.block_normal ?_
   obtain rfl:=Option.some.inj hs164
   exact QW.meet (fun a ha=>⟨_,zlU hn139 hp163,s140,(.slice a145 (s140).length c146),rem161,(some (k158,v159,x160)),rfl,ha.agrees (by kernel_rfl),hst.keep [0,1,2] rfl,fun q hq=>zeL (hl138 _ ((List.Perm.cons _ hq).trans hp163.symm)) hs1640⟩)
instance refs_Refs_Holders_g {p0:zw} {p1:Int}:HasC (xX p0 p1) (∀ (b1:Nat) (S0:List Nat),Ctr Tryz.prog 92 [.pointer (some ⟨b1,0,none⟩),.int .i64 p1] [] [itI xB [.pointer (some ⟨b1,0,none⟩)] S0 p0] (xX p0 p1) (fun (r:(List Int)) (i:(Option Addr)×Nat×(List Nat)×Unit)=>(.slice i.1 (r).length i.2.1,[itI xB [.pointer (some ⟨b1,0,none⟩)] i.2.2.1 p0,zZ (.slice i.1 (r).length i.2.1) 3 (zn .i64) 1 r]))):=⟨fun b1 S0=>⟨fun w r a hst hF=>by
  refine (zfI w _ _ _ _ r hF hst).mono ?_
  rintro e w' ⟨s0,x0,rfl,hst⟩
  obtain ⟨l213,a214,c215,rfl⟩:=hst.len 1 rfl
  exact ⟨(a214,c215,s0,()),rfl,hst⟩⟩⟩
instance refs_Refs_Count_g {p0:zw} {p1:Int}:HasC (vi p0 p1) (∀ (b1:Nat) (S0:List Nat),Ctr Tryz.prog 43 [.pointer (some ⟨b1,0,none⟩),.int .i64 p1] [] [itI xB [.pointer (some ⟨b1,0,none⟩)] S0 p0] (vi p0 p1) (fun (r:Int×Int) (i:(List Nat)×Unit)=>(.tuple #[.int .i64 r.1,.int .i64 r.2],[itI xB [.pointer (some ⟨b1,0,none⟩)] i.1 p0]))):=⟨fun b1 S0=> .w (wk Tryz.func43 [.p 2,.fi,.op 0 0 [5],.sc [0,1,15] [(7,.ld 0 0)] [] [(9,true)],.br [.p 2,.fi,.sh 0 [.r 1] [] zel,.rt [0]] [.p 2,.sh 0 [.r 1] [] zel,.ca [0] [] [],.p 3,.fi,.rt [0]]])⟩
set_option maxRecDepth 10000 in
set_option maxHeartbeats 4000000 in
theorem zgI (w:World) (v0:Value) (S0:List Nat) (p0:zw) (p1:Int) (r:Int×Int) (hF:vi p0 p1=some r)
    (hst:St w (fp [itI xB [v0] S0 p0]) w [itI xB [v0] S0 p0]):
    Calls Tryz.prog 43 [v0,.int .i64 p1].toArray w (fun e w'=> ∃ (s0:List Nat),e= .returned (.tuple #[.int .i64 r.1,.int .i64 r.2])/\St w (fp [itI xB [v0] S0 p0]) w' [itI xB [v0] s0 p0]):=by
  obtain ⟨b1,rfl⟩:=hst.fptr 0 rfl
  refine (((refs_Refs_Count_g (p0:=p0) (p1:=p1)).c b1 S0).c w r trivial hst hF).mono ?_
  rintro e w' ⟨i,rfl,hst'⟩
  exact ⟨_,rfl,hst'⟩
set_option maxRecDepth 10000 in
set_option maxHeartbeats 4000000 in
theorem zfJ (w:World) (fu:Nat) (r:Bool) (hF:jI fu=some r)
    (hst:St w (fp []) w []) (hT0:Rd w (fp []) (.slice (some ⟨0,0,none⟩) 7 7) qL 5 zcH) (hT1:Rd w (fp []) (.slice (some ⟨1,0,none⟩) 23 23) zI 2 vT):
    Calls Tryz.prog 11 [].toArray w (fun e w'=>e= .returned (.bool r)/\St w (fp []) w' []):=by
 refine CW.start (N:=56) Tryz.func11 rfl rfl rfl ?_
 refine CW.seq ?_
 refine CW.region ?_
 refine OW.pure 1 [] (by kernel_rfl) ?_
 refine OW.nil rfl ?_
 refine QW.next ?_
 refine CW.seq ?_
 refine CW.region ?_
 obtain ⟨r11,hr12,hF⟩:=zq hF
 refine OW.fn rfl rfl rfl rfl (by kernel_rfl) (zih _ 2 3 1 r11 hr12 (hst.part [] rfl)) ?_
 rintro e w13 (⟨k15,v17,S18,he16,rfl,hst14⟩ | ⟨he19,rfl,hst14⟩)
 ·have hF:=ziN hF he16
  refine ⟨_,rfl,?_⟩
  have hst:=hst.join (idx:= []) (rest:= []) rfl hst14
  obtain ⟨b20,rfl⟩:=hst.fptr 0 rfl
  refine OW.pure 5 [(1,.pointer (some ⟨b20,0,none⟩)),(2,.int .i64 r11.2)] (by kernel_rfl) ?_
  refine OW.nil rfl ?_
  refine QW.next ?_
  refine CW.seq ?_
  refine CW.seq ?_
  refine CW.region ?_
  refine OW.pure 6 [(16,.bool (r11.2 != 0))] (by kernel_rfl) ?_
  refine OW.nil rfl ?_
  refine QW.next ?_
  rcases zft ((r11.2 != 0)) with hc21 | hc21
  ·have hF:=zed hF hc21
   refine CW.cond_t rfl hc21 ?_
   refine CW.seq ?_
   refine CW.region ?_
   refine OW.pure 1 [(0,.bool false)] (by kernel_rfl) ?_
   refine OW.nil rfl ?_
   refine QW.next ?_
   refine CW.ret ?_
   refine QW.then_ret ?_
   obtain rfl:=Option.some.inj hF
   refine QW.ret1 rfl rfl ?_
   exact ⟨rfl,hst.keep [] rfl⟩
  ·have hF:=zee hF hc21
   refine CW.cond_f rfl hc21 ?_
   refine CW.skip ?_
   refine QW.next ?_
   refine CW.seq ?_
   refine CW.region ?_
   refine OW.pure 1 [(18,.pointer (some ⟨b20,0,none⟩))] (by kernel_rfl) ?_
   obtain ⟨r32,hr33,hF⟩:=zq hF
   refine OW.fn rfl rfl rfl rfl (by kernel_rfl) (zf8 _ r32 hr33 (hst.part [] rfl)) ?_
   rintro e w34 ⟨b36,rfl,hst35⟩
   refine ⟨_,rfl,?_⟩
   have hst:=hst.join (idx:= []) (rest:= [0]) rfl hst35
   obtain ⟨r37,hr38,hF⟩:=zq hF
   refine OW.fn rfl rfl rfl rfl (by kernel_rfl) (zei _ fu (.pointer (some ⟨b20,0,none⟩)) S18 k15 (.slice (some ⟨b36,0,none⟩) (r32).length (r32).length) r32 r37 hr38 (hst.part [1] rfl) (hst.frd 0 rfl [1] rfl) (hT0.give hst [1]) (hT1.give hst [1])) ?_
   rintro e w39 ⟨S41,rfl,hst40⟩
   refine ⟨_,rfl,?_⟩
   have hst:=hst.join (idx:= [1]) (rest:= [0]) rfl hst40
   refine OW.pure 5 [(3,.int .i64 r37.1),(2,.int .i64 r37.2.1)] (by kernel_rfl) ?_
   refine OW.nil rfl ?_
   refine QW.next ?_
   refine CW.seq ?_
   refine CW.seq ?_
   refine CW.cutK (fun a w1=>Rep 56 [(1,.pointer (some ⟨b20,0,none⟩)),(28,.bool ((r37.1 != 1)||(r37.2.1 != 0)))] a/\St w (fp []) w1 [itI jr [.pointer (some ⟨b20,0,none⟩)] S41 r37.2.2]) ?_ ?_
   ·refine CW.region ?_
    refine OW.pure 3 [(25,.bool (r37.1 != 1))] (by kernel_rfl) ?_
    refine OW.split 25 rfl (fun hc42=> ?_) (fun hc42=> ?_)
    ·refine OW.pure 3 [(28,.bool true)] (by kernel_rfl) ?_
     refine OW.nil rfl ?_
     refine QW.say 28 (v:= .bool ((r37.1 != 1)||(r37.2.1 != 0))) rfl (by first | (rw [hc42];done) | (rw [hc42];rfl) | simp [hc42]) ?_
     exact QW.meet (fun a ha=>⟨ha.agrees (by kernel_rfl),hst.keep [0] rfl⟩)
    ·refine OW.pure 3 [(28,.bool (r37.2.1 != 0))] (by kernel_rfl) ?_
     refine OW.nil rfl ?_
     refine QW.say 28 (v:= .bool ((r37.1 != 1)||(r37.2.1 != 0))) rfl (by first | (rw [hc42];done) | (rw [hc42];rfl) | simp [hc42]) ?_
     exact QW.meet (fun a ha=>⟨ha.agrees (by kernel_rfl),hst.keep [0] rfl⟩)
   ·rintro a w1 ⟨ha,hst⟩
    refine CW.go ?_ ha
    rcases zft (((r37.1 != 1)||(r37.2.1 != 0))) with hc43 | hc43
    ·have hF:=zed hF hc43
     refine CW.cond_t rfl hc43 ?_
     refine CW.seq ?_
     refine CW.region ?_
     refine OW.pure 1 [(0,.bool false)] (by kernel_rfl) ?_
     refine OW.nil rfl ?_
     refine QW.next ?_
     refine CW.ret ?_
     refine QW.then_ret ?_
     obtain rfl:=Option.some.inj hF
     refine QW.ret1 rfl rfl ?_
     exact ⟨rfl,hst.keep [] rfl⟩
    ·have hF:=zee hF hc43
     refine CW.cond_f rfl hc43 ?_
     refine CW.skip ?_
     refine QW.next ?_
     refine CW.seq ?_
     refine CW.region ?_
     refine OW.pure 1 [(30,.pointer (some ⟨b20,0,none⟩))] (by kernel_rfl) ?_
     obtain ⟨r49,hr50,hF⟩:=zq hF
     refine OW.fn rfl rfl rfl rfl (by kernel_rfl) (zdS _ (.pointer (some ⟨b20,0,none⟩)) S41 r37.2.2 0 1 r49 hr50 (hst.part [0] rfl)) ?_
     rintro e w51 ⟨S53,rfl,hst52⟩
     refine ⟨_,rfl,?_⟩
     have hst:=hst.join (idx:= [0]) (rest:= []) rfl hst52
     refine OW.pure 5 [(4,.int .i64 r49.1),(2,.int .i64 r49.2.1)] (by kernel_rfl) ?_
     refine OW.nil rfl ?_
     refine QW.next ?_
     refine CW.seq ?_
     obtain ⟨v54,S55,v56,S57,v58,S59,v60,S61,v62,S63,hst⟩:=hst.openQ5 0 rfl rfl rfl rfl rfl rfl
     obtain ⟨r64,rfl,hst⟩:=hst.toMN1 4 rfl
     have hst:=hst.toRow1 5 rfl
     obtain ⟨b65,rfl⟩:=hst.fptr 1 rfl
     obtain ⟨b66,rfl⟩:=hst.fptr 2 rfl
     obtain ⟨b67,rfl⟩:=hst.fptr 3 rfl
     obtain ⟨l68,a69,c70,rfl⟩:=hst.len 5 rfl
     have hst:St _ _ _ [jF b20 130 [.pointer (some ⟨b65,0,none⟩),.pointer (some ⟨b66,0,none⟩),.pointer (some ⟨b67,0,none⟩),.int .i64 r49.2.2.hooks,.int .i64 r49.2.2.maps,.int .i64 r49.2.2.given,.map (some r64),.slice a69 (r49.2.2.waiting).length c70],_,_,_,_,_]:=hst
     refine CW.region ?_
     refine OW.pure 3 [(37,.pointer (some ⟨b20,1,none⟩))] (by kernel_rfl) ?_
     refine OW.ld rfl rfl rfl rfl (by kernel_rfl) (hst.blk 0 rfl rfl) ?_
     obtain ⟨r76,hr77,hF⟩:=zq hF
     refine OW.fn rfl rfl rfl rfl (by kernel_rfl) (zgI _ (.pointer (some ⟨b66,0,none⟩)) S57 r49.2.2.Refs 2 r76 hr77 (hst.part [2] rfl)) ?_
     rintro e w78 ⟨S80,rfl,hst79⟩
     refine ⟨_,rfl,?_⟩
     have hst:=hst.join (idx:= [2]) (rest:= [0,1,3,4,5]) rfl hst79
     refine OW.pure 5 [(5,.int .i64 r76.1),(6,.int .i64 r76.2)] (by kernel_rfl) ?_
     refine OW.nil rfl ?_
     refine QW.next ?_
     refine CW.seq ?_
     refine CW.cutK (fun a w1=>Rep 56 [(0,.bool ((((r49.1==1)&&(r49.2.1==0))&&(r76.1==1))&&(r76.2==0)))] a/\St w (fp []) w1 []) ?_ ?_
     ·refine CW.region ?_
      refine OW.pure 3 [(44,.bool (r49.1==1))] (by kernel_rfl) ?_
      refine OW.split 44 rfl (fun hc81=> ?_) (fun hc81=> ?_)
      ·refine OW.pure 4 [(48,.bool (r49.2.1==0))] (by kernel_rfl) ?_
       refine OW.split 48 rfl (fun hc82=> ?_) (fun hc82=> ?_)
       ·refine OW.pure 4 [(52,.bool (r76.1==1))] (by kernel_rfl) ?_
        refine OW.split 52 rfl (fun hc83=> ?_) (fun hc83=> ?_)
        ·refine OW.pure 4 [(0,.bool (r76.2==0))] (by kernel_rfl) ?_
         refine OW.nil rfl ?_
         refine QW.say 0 (v:= .bool ((((r49.1==1)&&(r49.2.1==0))&&(r76.1==1))&&(r76.2==0))) rfl (by first | (rw [hc81,hc82,hc83];done) | (rw [hc81,hc82,hc83];rfl) | simp [hc81,hc82,hc83]) ?_
         exact QW.meet (fun a ha=>⟨ha.agrees (by kernel_rfl),hst.keep [] rfl⟩)
        ·refine OW.pure 4 [(0,.bool false)] (by kernel_rfl) ?_
         refine OW.nil rfl ?_
         refine QW.say 0 (v:= .bool ((((r49.1==1)&&(r49.2.1==0))&&(r76.1==1))&&(r76.2==0))) rfl (by first | (rw [hc81,hc82,hc83];done) | (rw [hc81,hc82,hc83];rfl) | simp [hc81,hc82,hc83]) ?_
         exact QW.meet (fun a ha=>⟨ha.agrees (by kernel_rfl),hst.keep [] rfl⟩)
       ·refine OW.pure 8 [(0,.bool false)] (by kernel_rfl) ?_
        refine OW.nil rfl ?_
        refine QW.say 0 (v:= .bool ((((r49.1==1)&&(r49.2.1==0))&&(r76.1==1))&&(r76.2==0))) rfl (by first | (rw [hc81,hc82];done) | (rw [hc81,hc82];rfl) | simp [hc81,hc82]) ?_
        exact QW.meet (fun a ha=>⟨ha.agrees (by kernel_rfl),hst.keep [] rfl⟩)
      ·refine OW.pure 12 [(0,.bool false)] (by kernel_rfl) ?_
       refine OW.nil rfl ?_
       refine QW.say 0 (v:= .bool ((((r49.1==1)&&(r49.2.1==0))&&(r76.1==1))&&(r76.2==0))) rfl (by first | (rw [hc81];done) | (rw [hc81];rfl) | simp [hc81]) ?_
       exact QW.meet (fun a ha=>⟨ha.agrees (by kernel_rfl),hst.keep [] rfl⟩)
     ·rintro a w1 ⟨ha,hst⟩
      refine CW.go ?_ ha
      refine CW.ret ?_
      obtain rfl:=Option.some.inj hF
      refine QW.ret1 rfl rfl ?_
      exact ⟨rfl,hst.keep [] rfl⟩
 ·have hF:=ziM hF he19
  refine ⟨_,rfl,?_⟩
  have hst:=hst.join (idx:= []) (rest:= []) rfl hst14
  refine OW.pure 5 [(1,.pointer none),(2,.int .i64 r11.2)] (by kernel_rfl) ?_
  refine OW.nil rfl ?_
  refine QW.next ?_
  refine CW.seq ?_
  refine CW.seq ?_
  refine CW.region ?_
  refine OW.pure 6 [(16,.bool true)] (by kernel_rfl) ?_
  refine OW.nil rfl ?_
  refine QW.next ?_
  refine CW.cond_t rfl rfl ?_
  refine CW.seq ?_
  refine CW.region ?_
  refine OW.pure 1 [(0,.bool false)] (by kernel_rfl) ?_
  refine OW.nil rfl ?_
  refine QW.next ?_
  refine CW.ret ?_
  refine QW.then_ret ?_
  obtain rfl:=Option.some.inj hF
  refine QW.ret1 rfl rfl ?_
  exact ⟨rfl,hst.keep [] rfl⟩
instance tappetlaw24_awake_g {fu:Nat}:HasC (jI fu) (Ctr Tryz.prog 11 [] [.rd (.slice (some ⟨0,0,none⟩) 7 7) qL 5 zcH,.rd (.slice (some ⟨1,0,none⟩) 23 23) zI 2 vT] [] (jI fu) (fun (r:Bool) (i:Unit)=>(.bool r,[]))):=⟨⟨fun w r a hst hF=>by
  refine (zfJ w fu r hF hst (a.1) (a.2.1)).mono ?_
  rintro e w' ⟨rfl,hst⟩
  exact ⟨(),rfl,hst⟩⟩⟩
instance tappetref24_New_g {p0:Int} {p1:Int} {p2:Int}:HasC (jU p0 p1 p2) (zov Tryz.prog 13 [.int .i64 p0,.int .i64 p1,.int .i64 p2] [] [] (jU p0 p1 p2) (fun (r:(Option zd)×Int)=>r.1) (fun (r:(Option zd)×Int) (i:Unit)=>(.tuple #[.pointer none,.int .i64 r.2],[])) (fun (r:(Option zd)×Int) (k0:zd) (i:Nat×(List Nat)×Unit)=>(.tuple #[.pointer (some ⟨i.1,0,none⟩),.int .i64 r.2],[itI xW [.pointer (some ⟨i.1,0,none⟩)] i.2.1 k0]))):=⟨.w (wk Tryz.func13 [.p 2,.fi,.sc [0,1,2,29] [] [] [(5,true),(9,true),(13,true),(17,true),(21,true)],.br [.p 2,.fi,.rn,.rt []] [.p 3,.bx 140 3,.p 2,.bx 144 2,.p 1,.bx 147 5,.p 2,.fi,.nr 209 vO 3,.a (.shx 0 [.r 3] [1,2] zb7 (zl.mk p0 0 ([]:List qa))),.nr 217 xP 2,.a (.shx 0 [.r 3] [1,2] zb8 (zj.mk p2 ([]:List zx))),.nn 167 zlr,.nr 3 (zn .i64) 1,.sh 0 [.r 1,.r 2,.r 3,.r 4] [] qq,.rs,.rt [0]]])⟩
instance tappetref01_Get_g {fu:Nat} {p0:List Int}:HasC (za6 fu p0) (∀ (a2:Option Addr) (c3:Nat),Ctr Tryz.prog 130 [.slice a2 (p0).length c3] [.rd (.slice a2 (p0).length c3) (zn .u8) 1 p0] [] (za6 fu p0) (fun (r:Int×Int×Int) (i:Unit)=>(.tuple #[.int .u64 r.1,.int .i64 r.2.1,.int .i64 r.2.2],[]))):=⟨fun a2 c3=> .w (wk Tryz.func130 [.p 3,.fi,.p 1,.fi,.dn 1,.cs [0] (fun (t63:Int) (i:Unit)=> [(5,.int .i64 t63)]) [] (fun (t63:Int) (i:Unit)=> []) [.lg [0] (fun (s102:Int) (i:Unit)=> [(5,.int .i64 s102)]) [] (fun (s102:Int) (i:Unit)=> []) [],.ck [0,5] (fun (o110:Bool) (i:Unit)=> [(18,.bool o110)]) [] (fun (o110:Bool) (i:Unit)=> []) [.p 5,.sp 12 [.p 2,.bi 0,.ix 2 1,.le 0 2 0,.p 2,.fi,.mt []] [.p 6,.fi,.mt []]],.br [.p 2,.fi,.br [.p 3,.fi,.pop 1,.rt []] [.p 3,.fi,.bg []]] [.mt []]],.p 4,.fi,.br [.p 3,.fi,.rt []] [.ck [0,5] (fun (o144:Bool) (i:Unit)=> [(45,.bool o144)]) [] (fun (o144:Bool) (i:Unit)=> []) [.p 3,.sp 29 [.p 1,.bi 0,.ix 1 1,.le 0 1 0,.p 3,.sp 35 [.p 10,.fi,.mt []] [.p 3,.sp 38 [.p 2,.bi 0,.ix 2 1,.le 0 2 0,.p 3,.fi,.mt []] [.p 7,.fi,.mt []]]] [.p 9,.sp 38 [.p 2,.bi 0,.ix 1 1,.le 0 1 0,.p 3,.fi,.mt []] [.p 7,.fi,.mt []]]],.br [.p 3,.fi,.rt []] [.p 1,.fi,.p 2,.fi,.dn 0,.ck [5] (fun (o212:Int) (i:Unit)=> [(6,.int .u64 o212)]) [] (fun (o212:Int) (i:Unit)=> []) [.lg [0,5] (fun (s243:Int×Int) (i:Unit)=> [(6,.int .u64 s243.1),(7,.int .i64 s243.2)]) [] (fun (s243:Int×Int) (i:Unit)=> []) [],.p 2,.fi,.br [.p 4,.bi 0,.ix 1 1,.le 0 1 0,.p 4,.fi,.p 3,.fi,.bg []] [.mt []]],.p 6,.fi,.rt []]]])⟩
instance tappetref04_bound_g {fu:Nat} {p0:Int} {p1:Int} {p2:List Int}:HasC (zN fu p0 p1 p2) (∀ (a2:Option Addr) (c3:Nat),Ctr Tryz.prog 131 [.int .i64 p0,.int .u64 p1,.slice a2 (p2).length c3] [.rd (.slice a2 (p2).length c3) (zn .i64) 1 p2] [] (zN fu p0 p1 p2) (fun (r:Int) (i:Unit)=>(.int .i64 r,[]))):=⟨fun a2 c3=> .w (wk Tryz.func131 [.p 1,.fi,.dn 1,.cs [0,1,2] (fun (t26:Unit) (i:Unit)=> []) [] (fun (t26:Unit) (i:Unit)=> []) [.sc [0,1,2,8] [] [] [(5,false)],.ck [0,1,2] (fun (o30:Bool) (i:Unit)=> [(8,.bool o30)]) [] (fun (o30:Bool) (i:Unit)=> []) [.br [.mt []] [.p 3,.sp 17 [.p 4,.fi,.mt []] [.p 4,.fi,.mt []]]],.br [.p 1,.fi,.pop 1,.rt []] [.sc [0,1,2,21] [] [] [(5,false)],.br [.br [.p 1,.fi,.pop 1,.rt []] [.mt []]] [.sc [0,1,2,21] [] [] [(5,false)],.br [.br [.p 1,.fi,.pop 1,.rt []] [.mt []]] [.sc [0,1,2,21] [] [] [(5,false)],.br [.br [.p 1,.fi,.pop 1,.rt []] [.mt []]] [.sc [0,1,2,21] [] [] [(5,false),(9,false)],.br [.p 1,.fi,.pop 1,.rt []] [.mt []]]]]]],.p 1,.fi,.dn 0,.cs [] (fun (t98:Unit) (i:Unit)=> []) [] (fun (t98:Unit) (i:Unit)=> []) [.lg [0,1,2] (fun (s132:Int) (i:Unit)=> [(7,.int .i64 s132)]) [] (fun (s132:Int) (i:Unit)=> []) [],.sc [0,1,2,7,57] [] [] [(7,false)],.br [.p 2,.bi 0,.ix 2 1,.le 0 2 0,.p 3,.fi,.br [.p 1,.fi,.pop 1,.rt []] [.p 3,.fi,.bg []]] [.mt []]],.p 1,.fi,.rt []])⟩
instance tappetref01_Back_g {p0:Int}:HasC (zaH p0) (Ctr Tryz.prog 132 [.int .u64 p0] [] [] (zaH p0) (fun (r:Int) (i:Unit)=>(.int .i64 r,[]))):=⟨.w (wk Tryz.func132 [.p 1,.fi,.p 3,.fi,.br [.p 4,.fi,.rt []] [.p 6,.fi,.rt []]])⟩
instance tappetref02_reg_g {p0:Int}:HasC (qn p0) (Ctr Tryz.prog 163 [.int .i64 p0] [] [] (qn p0) (fun (r:Bool) (i:Unit)=>(.bool r,[]))):=⟨.w (wk Tryz.func163 [.p 1,.fi,.sc [2] [] [] [(5,false)],.rt []])⟩
end Go.Proofs.YtbmknhpfkpmigaaGreatDoor
