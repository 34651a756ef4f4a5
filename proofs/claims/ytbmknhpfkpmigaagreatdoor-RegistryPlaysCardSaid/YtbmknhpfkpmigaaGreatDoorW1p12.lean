/- Texts W1p12 of this proof. -/
import Derived.Test.YtbmknhpfkpmigaaGreatDoorW1p11
set_option linter.unusedVariables false
set_option linter.unusedSimpArgs false
set_option maxRecDepth 10000
set_option maxHeartbeats 4000000
namespace Go.Proofs.YtbmknhpfkpmigaaGreatDoor
open Go.Sx
instance tappetref17_Clock_Now_g {fu:Nat} {p0:zj}:HasC (qZ fu p0) (∀ (b1:Nat) (S0:List Nat),Ctr Tryz.prog 68 [.pointer (some ⟨b1,0,none⟩)] [] [itI zan [.pointer (some ⟨b1,0,none⟩)] S0 p0] (qZ fu p0) (fun (r:Int) (i:(List Nat)×Unit)=>(.int .i64 r,[itI zan [.pointer (some ⟨b1,0,none⟩)] i.1 p0]))):=⟨fun b1 S0=> .w (wk Tryz.func68 [.p 1,.fi,.p 1,.fi,.p 1,.fi,.dn 0,.ck [] (fun (o76:Int) (i:(List Nat)×Unit)=> [(3,.int .i64 o76)]) [0] (fun (o76:Int) (i:(List Nat)×Unit)=> [itI zan [.pointer (some ⟨b1,0,none⟩)] i.1 p0]) [.lg [0] (fun (s127:Int×Int) (i:(List Nat)×Unit)=> [(3,.int .i64 s127.1),(4,.int .i64 s127.2)]) [0] (fun (s127:Int×Int) (i:(List Nat)×Unit)=> [itI zan [.pointer (some ⟨b1,0,none⟩)] i.1 p0]) [0],.op 0 0 [0],.p 4,.ld 0 1,.p 2,.fi,.br [.p 3,.ld 0 1,.p 1,.bo 1,.ix 0 2,.p 1,.lr 1 0 0,.p 1,.fi,.br [.p 3,.fi,.p 3,.fi,.sh 0 [.r 1] [] zb8,.bg [0]] [.p 3,.fi,.sh 0 [.r 1] [] zb8,.bg [0]]] [.sh 0 [.r 1] [] zb8,.mt [0]]],.p 2,.fi,.rt [0]])⟩
instance tappetref17_Clock_Advance_g {fu:Nat} {p0:zj}:HasC (qI fu p0) (∀ (b1:Nat) (S0:List Nat),Ctr Tryz.prog 62 [.pointer (some ⟨b1,0,none⟩)] [] [itI zan [.pointer (some ⟨b1,0,none⟩)] S0 p0] (qI fu p0) (fun (r:Int×zj) (i:(List Nat)×Unit)=>(.int .i64 r.1,[itI zan [.pointer (some ⟨b1,0,none⟩)] i.1 r.2]))):=⟨fun b1 S0=> .w (wk Tryz.func62 [.p 1,.fi,.op 0 0 [0],.p 4,.ld 0 1,.p 1,.rw 1 217 xP 2 (fun cs=>(zx.mk (zO cs 0) (zO cs 1))),.be,.ap 0 1 (.o 2),.p 2,.st 0 1 1,.fi,.p 1,.sh 0 [.r 1] [2] zb8,.ca [1] [] [0],.p 1,.fi,.rt [0]])⟩
instance tappetref24_Registry_Retire_g {fu:Nat} {p0:zd} {p1:Int}:HasC (ja fu p0 p1) (∀ (b1:Nat) (S0:List Nat),Ctr Tryz.prog 53 [.pointer (some ⟨b1,0,none⟩),.int .i64 p1] [] [itI xW [.pointer (some ⟨b1,0,none⟩)] S0 p0] (ja fu p0 p1) (fun (r:Int×Int×zd) (i:(List Nat)×Unit)=>(.tuple #[.int .i64 r.1,.int .i64 r.2.1],[itI xW [.pointer (some ⟨b1,0,none⟩)] i.1 r.2.2]))):=⟨fun b1 S0=> .w (wk Tryz.func53 [.p 2,.fi,.p 2,.ca [0] [] [],.p 1,.fi,.br [.p 2,.fi,.rt [0]] [.op 0 0 [2,2,1,0],.ck [0,1] (fun (o72:Bool) (i:(List Nat)×Unit)=> [(25,.bool o72)]) [0] (fun (o72:Bool) (i:(List Nat)×Unit)=> [itI xW [.pointer (some ⟨b1,0,none⟩)] i.1 p0]) [.p 2,.sh 0 [.r 1,.r 2,.r 3,.r 4] [] qq,.ca [0] [] [],.p 2,.sp 15 [.p 10,.fi,.mt [0]] [.op 0 0 [2,2,1,0],.p 3,.ld 0 1,.p 1,.rw 1 3 (zn .i64) 1 (fun cs=>zO cs 0),.ca [1] [.o 5] [0,2,3,4,5],.p 3,.fi,.sh 2 [.r 0,.r 3,.r 4,.r 5] [1,6] qq,.mt [2]]],.br [.p 2,.fi,.rt [0]] [.op 0 0 [2,2,1,0],.p 3,.ld 0 2,.ca [2] [] [0,1,3,4],.fx (fun (r131:Int×zj)=> [.p 1,.fi,.p 3,.ld 1 3,.p 2,.bn 3,.fx (fun (x159:zm)=> [.ix 0 4,.p 1,.a (.ne 3 0 0 [7,0,0]),.sh_ 3 0 2 1,.fi,.p 3,.ld 1 3,.p 3,.ix 0 4,.p 1,.sh_ 3 0 3 1,.fi,.p 4,.ld 1 4,.p 1,.rw 1 3 (zn .i64) 1 (fun cs=>zO cs 0),.be,.ap 1 4 (.o 8),.p 2,.st 1 4 1,.fi,.p 3,.fi,.a (.nbx 3 0 [0,1,2,3,4,8] [.s,.r 6,.r 7] (zm.mk x159.M 1 r131.1)),.sh 1 [.r 2,.r 0,.r 3,.r 4] [5] qq,.rt [1]])])]]])⟩
instance epoch_Clock_Safe_g {p0:zt} {p1:Int}:HasC (vw p0 p1) (∀ (b1:Nat) (S0:List Nat),Ctr Tryz.prog 103 [.pointer (some ⟨b1,0,none⟩),.int .i64 p1] [] [itI vB [.pointer (some ⟨b1,0,none⟩)] S0 p0] (vw p0 p1) (fun (r:Bool) (i:(List Nat)×Unit)=>(.bool r,[itI vB [.pointer (some ⟨b1,0,none⟩)] i.1 p0]))):=⟨fun b1 S0=> .w (wk Tryz.func103 [.p 1,.fi,.op 0 0 [0],.p 3,.ld 0 1,.p 2,.fi,.dn 0,.cs [] (fun (t67:Unit) (i:(List Nat)×Unit)=> []) [0] (fun (t67:Unit) (i:(List Nat)×Unit)=> [itI vB [.pointer (some ⟨b1,0,none⟩)] i.1 p0]) [.lq 12 1 [1,10,11] (fun (s105:Unit) (i:Unit)=> []) [2,1] (fun (s105:Unit) (i:Unit)=> []) [1,0],.p 1,.fi,.lc 1 [.bo 0,.ix 2 1,.lr 0 2 0,.p 1,.fi,.sc [1,10,11,12,22] [] [] [(6,false)],.br [.p 1,.fi,.sh 1 [.r 0] [] zeN,.pop 0,.rt [0]] [.p 2,.fi,.bk 1 [0,1]]] [.sh 1 [.r 0] [] zeN,.mt [0]]],.p 1,.fi,.rt [0]])⟩
set_option maxRecDepth 10000 in
set_option maxHeartbeats 4000000 in
theorem zf9 (w:World) (v0:Value) (S0:List Nat) (p0:zt) (p1:Int) (r:Bool) (hF:vw p0 p1=some r)
    (hst:St w (fp [itI vB [v0] S0 p0]) w [itI vB [v0] S0 p0]):
    Calls Tryz.prog 103 [v0,.int .i64 p1].toArray w (fun e w'=> ∃ (s0:List Nat),e= .returned (.bool r)/\St w (fp [itI vB [v0] S0 p0]) w' [itI vB [v0] s0 p0]):=by
  obtain ⟨b1,rfl⟩:=hst.fptr 0 rfl
  refine (((epoch_Clock_Safe_g (p0:=p0) (p1:=p1)).c b1 S0).c w r trivial hst hF).mono ?_
  rintro e w' ⟨i,rfl,hst'⟩
  exact ⟨_,rfl,hst'⟩
instance refs_Refs_Drop_g {p0:zw} {p1:List Int}:HasC (vL p0 p1) (∀ (a2:Option Addr) (c3:Nat) (b4:Nat) (S0:List Nat),Ctr Tryz.prog 104 [.pointer (some ⟨b4,0,none⟩),.slice a2 (p1).length c3] [.rd (.slice a2 (p1).length c3) (zn .i64) 1 p1] [itI xB [.pointer (some ⟨b4,0,none⟩)] S0 p0] (vL p0 p1) (fun (r:Int×zw) (i:(List Nat)×Unit)=>(.int .i64 r.1,[itI xB [.pointer (some ⟨b4,0,none⟩)] i.1 r.2]))):=⟨fun a2 c3 b4 S0=> .w (wk Tryz.func104 [.p 1,.fi,.p 3,.fi,.dn 0,.cs [0,1] (fun (t97:Unit) (i:Unit)=> []) [1] (fun (t97:Unit) (i:Unit)=> []) [.lp 15 0 [0,1,13,14] (fun (s157:Unit) (i:Unit)=> []) [1] (fun (s157:Unit) (i:Unit)=> []) [0],.p 1,.fi,.lc 2 [.p 1,.bi 0,.ix 3 1,.le 0 3 0,.p 2,.fi,.p 2,.be,.kv (.cp 0 4),.a (.fp 0 4),.p 1,.ca [] [.f 5] [0],.fi,.br [.p 1,.fi,.pop 1,.rt [0]] [.p 2,.fi,.bk 2 [0]]] [.mt [0]]],.p 3,.fi,.dn 0,.cs [0,1] (fun (t299:Unit) (i:(List Nat)×Unit)=> []) [0] (fun (t299:Unit) (i:(List Nat)×Unit)=> [itI xB [.pointer (some ⟨b4,0,none⟩)] i.1 p0]) [.lp 28 0 [0,1,26,27] (fun (s371:Unit) (i:(List Nat)×Unit)=> []) [0] (fun (s371:Unit) (i:(List Nat)×Unit)=> [itI xB [.pointer (some ⟨b4,0,none⟩)] i.1 p0]) [0],.p 1,.fi,.lc 2 [.bi 0,.fx (fun (x382:Int)=> [.ix 3 1,.le 0 3 0,.p 1,.fi,.op 0 0 [5],.p 3,.ld 0 1,.p 1,.mlR 1 x382,.p 5,.fi,.p 2,.fi,.br [.p 1,.fi,.a (.mbr 1 [0,1] [.r 2]),.sh 0 [.r 1] [] zel,.pop 1,.rt [0]] [.p 2,.fi,.a (.mbr 1 [0,1] [.r 2]),.sh 0 [.r 1] [] zel,.bk 2 [0]]])] [.mt [0]]],.p 3,.fi,.dn 0,.ck [] (fun (o481:zw) (i:(List Nat)×Unit)=> []) [0] (fun (o481:zw) (i:(List Nat)×Unit)=> [itI xB [.pointer (some ⟨b4,0,none⟩)] i.1 o481]) [.lp 46 0 [0,44,45] (fun (s530:zw) (i:(List Nat)×Unit)=> []) [0] (fun (s530:zw) (i:(List Nat)×Unit)=> [itI xB [.pointer (some ⟨b4,0,none⟩)] i.1 s530]) [0],.p 1,.fi,.lc 1 [.bi 0,.fx (fun (x541:Int)=> [.ix 2 1,.le 0 2 0,.p 1,.fi,.op 0 0 [5],.p 3,.ld 0 1,.p 1,.md 1 x541,.fi,.p 2,.fi,.sh 0 [.r 1] [] zel,.bk 1 [0]])] [.mt [0]]],.p 1,.fi,.rt [0]])⟩
set_option maxRecDepth 10000 in
set_option maxHeartbeats 4000000 in
theorem zgY (w:World) (v0:Value) (S0:List Nat) (p0:zw) (v1:Value) (p1:List Int) (r:Int×zw) (hF:vL p0 p1=some r)
    (hst:St w (fp [itI xB [v0] S0 p0]) w [itI xB [v0] S0 p0]) (h1:Rd w (fp [itI xB [v0] S0 p0]) v1 (zn .i64) 1 p1):
    Calls Tryz.prog 104 [v0,v1].toArray w (fun e w'=> ∃ (s0:List Nat),e= .returned (.int .i64 r.1)/\St w (fp [itI xB [v0] S0 p0]) w' [itI xB [v0] s0 r.2]):=by
  obtain ⟨l1,a2,c3,rfl⟩:=h1.len
  obtain ⟨b4,rfl⟩:=hst.fptr 0 rfl
  refine (((refs_Refs_Drop_g (p0:=p0) (p1:=p1)).c a2 c3 b4 S0).c w r ⟨h1,trivial⟩ hst hF).mono ?_
  rintro e w' ⟨i,rfl,hst'⟩
  exact ⟨_,rfl,hst'⟩
set_option maxRecDepth 10000 in
set_option maxHeartbeats 4000000 in
theorem zcz (w:World) (v0:Value) (p0:List Int) (c1:Nat) (v1:Value) (p1:List Int) (r:Int) (hF:jQ p0 p1=some r)
    (hst:St w (fp []) w []) (h0:Rd w (fp []) v0 (zn .i64) 1 p0) (h1:Rd w (fp []) v1 (zn .i64) 1 p1) (hc1:RdB w (fp []) c1 [v1]):
    Calls Tryz.prog 140 [v0,.func (.func 106) #[] #[.pointer (some ⟨c1,0,none⟩)]].toArray w (fun e w'=>e= .returned (.int .i64 r)/\St w (fp []) w' []):=by
 refine CW.start (N:=19) Tryz.func140 rfl rfl rfl ?_
 obtain ⟨l1,a2,c3,rfl⟩:=h0.len
 obtain ⟨l4,a5,c6,rfl⟩:=h1.len
 refine CW.seq ?_
 refine CW.region ?_
 refine OW.pure 1 [] (by kernel_rfl) ?_
 refine OW.nil rfl ?_
 refine QW.next ?_
 refine CW.seq ?_
 refine CW.seq ?_
 refine CW.region ?_
 refine OW.pure 3 [(7,.int .i64 ((p0).length:Int)),(8,.int .i64 0)] (by kernel_rfl) ?_
 refine OW.nil rfl ?_
 refine QW.next ?_
 obtain ⟨o79,ho80,hF⟩:=zq hF
 refine CW.cutK (fun a w1=> ∃ (t81:Unit),o79= .inl t81/\Rep 19 [] a/\St w (fp []) w1 []) ?_ ?_
 ·refine CW.block ?_
  refine CW.loop (fun n a w1=> ∃ (i130:Nat) (s129:Unit),i130+n=(p0).length/\Rep 19 [(0,.slice a2 (p0).length c3),(1,.func (.func 106) #[] #[.pointer (some ⟨c1,0,none⟩)]),(7,.int .i64 ((p0).length:Int)),(8,.int .i64 (i130:Int))] a/\St w (fp []) w1 []/\qf (xq p0 p1) (fun (s129:Unit)=>(.inl ())) n i130 s129=some o79) (p0).length (fun a ha=>⟨0,(),Nat.zero_add _,ha.agrees (by kernel_rfl),hst.keep [] rfl,ho80⟩) ?_
  rintro n127 a w1 ⟨i130,s129,hi131,ha,hst,hl128⟩
  refine CW.go ?_ ha
  refine CW.seq ?_
  refine CW.region ?_
  refine OW.pure 1 [(9,.bool (decide ((i130:Int)<((p0).length:Int))))] (by kernel_rfl) ?_
  refine OW.nil rfl ?_
  refine QW.next ?_
  refine CW.seq ?_
  rcases zft (decide ((i130:Int)<((p0).length:Int))) with hc132 | hc132
  ·rcases n127 with _ | n127
   ·exact (zr8 hi131 hc132).elim
   refine CW.cond_t rfl hc132 ?_
   refine CW.skip ?_
   refine QW.next ?_
   refine CW.seq ?_
   refine CW.block ?_
   refine CW.seq ?_
   refine CW.region ?_
   refine OW.pure 2 [(5,.int .i64 (i130:Int))] (by kernel_rfl) ?_
   refine OW.nil rfl ?_
   refine QW.next ?_
   refine CW.seq ?_
   refine CW.region ?_
   refine OW.pure 3 [(11,.func (.func 106) #[] #[.pointer (some ⟨c1,0,none⟩)]),(12,.slice a2 (p0).length c3),(13,.int .i64 (i130:Int))] (by kernel_rfl) ?_
   obtain ⟨x143,hx144,hl128⟩:=zq hl128
   obtain ⟨g146,o147,c148,hv145⟩:=h0.formv (fun _=>⟨_,rfl⟩) hx144
   refine OW.idx 3 1 rfl rfl rfl rfl hv145 rfl (qB hx144).1 (qB hx144).2.1 (by kernel_rfl) (by kernel_rfl) ?_
   refine OW.ld rfl rfl rfl rfl (by kernel_rfl) (h0.cellv hst hx144 hv145 0 _ rfl) ?_
   obtain ⟨r149,hr150,hl128⟩:=zq hl128
   refine OW.fn rfl rfl rfl rfl (by kernel_rfl) (zaP _ x143 c1 (.slice a5 (p1).length c6) p1 r149 hr150 (hst.part [] rfl) (h1.give hst []) (hc1.give hst [])) ?_
   rintro e w151 ⟨rfl,hst152⟩
   refine ⟨_,rfl,?_⟩
   have hst:=hst.join (idx:= []) (rest:= []) rfl hst152
   refine OW.nil rfl ?_
   refine QW.next ?_
   rcases zft (r149) with hc153 | hc153
   ·have hl128:=zed hl128 hc153
    refine CW.cond_t rfl hc153 ?_
    refine CW.seq ?_
    refine CW.region ?_
    refine OW.pure 2 [(4,.int .i64 (i130:Int))] (by kernel_rfl) ?_
    refine OW.nil rfl ?_
    refine QW.next ?_
    refine CW.ret ?_
    refine QW.block_ret ?_
    refine QW.then_ret ?_
    refine QW.then_ret ?_
    refine QW.block_ret ?_
    refine QW.then_ret ?_
    obtain rfl:=Option.some.inj hl128
    obtain rfl:=Option.some.inj hF
    refine QW.ret1 rfl rfl ?_
    exact ⟨rfl,hst.keep [] rfl⟩
   ·have hl128:=zee hl128 hc153
    refine CW.cond_f rfl hc153 ?_
    refine CW.skip ?_
    refine QW.block_normal ?_
    refine QW.next ?_
    refine CW.region ?_
    refine OW.pure 2 [(8,.int .i64 (w64 ((i130:Int)+1)))] (by kernel_rfl) ?_
    refine OW.nil rfl ?_
    refine QW.say 8 rfl (congrArg (Value.int .i64) (zf5 hc132 l1)) ?_
    exact QW.meet (fun a ha=>⟨n127,zls _,i130+1,(),zeJ hi131,ha.agrees (by kernel_rfl),hst.keep [] rfl,hl128⟩)
  ·rcases n127 with _ | n127
   ·refine CW.cond_f rfl hc132 ?_
    refine CW.exit ?_
    refine QW.then_exit ?_
    refine QW.then_exit ?_
    refine QW.block_here ?_
    obtain rfl:=Option.some.inj hl128
    exact QW.meet (fun a ha=>⟨(),rfl,ha.agrees (by kernel_rfl),hst.keep [] rfl⟩)
   ·exact (zr9 hi131 hc132).elim
 ·rintro a w1 ⟨t81,rfl,ha,hst⟩
  refine CW.go ?_ ha
  refine CW.seq ?_
  refine CW.region ?_
  refine OW.pure 1 [(4,.int .i64 (-1))] (by kernel_rfl) ?_
  refine OW.nil rfl ?_
  refine QW.next ?_
  refine CW.ret ?_
  obtain rfl:=Option.some.inj hF
  refine QW.ret1 rfl rfl ?_
  exact ⟨rfl,hst.keep [] rfl⟩
set_option maxRecDepth 10000 in
set_option maxHeartbeats 4000000 in
theorem zck (w:World) (fu:Nat) (v0:Value) (p0:List Int) (c1:Nat) (v1:Value) (p1:List Int) (r:(List Int)) (hF:zS fu p0 p1=some r)
    (hst:St w (fp [zZ v0 3 (zn .i64) 1 p0]) w [zZ v0 3 (zn .i64) 1 p0]) (h1:Rd w (fp [zZ v0 3 (zn .i64) 1 p0]) v1 (zn .i64) 1 p1) (hc1:RdB w (fp [zZ v0 3 (zn .i64) 1 p0]) c1 [v1]):
    Calls Tryz.prog 105 [v0,.func (.func 106) #[] #[.pointer (some ⟨c1,0,none⟩)]].toArray w (fun e w'=> ∃ (x0:Value),e= .returned (x0)/\St w (fp [zZ v0 3 (zn .i64) 1 p0]) w' [zZ x0 3 (zn .i64) 1 r]):=by
 refine CW.start (N:=42) Tryz.func105 rfl rfl rfl ?_
 obtain ⟨l1,a2,c3,rfl⟩:=h1.len
 obtain ⟨l4,a5,c6,rfl⟩:=hst.len 0 rfl
 refine CW.seq ?_
 refine CW.region ?_
 refine OW.pure 1 [] (by kernel_rfl) ?_
 refine OW.nil rfl ?_
 refine QW.next ?_
 refine CW.seq ?_
 refine CW.region ?_
 refine OW.pure 2 [(8,.slice a5 (p0).length c6),(9,.func (.func 106) #[] #[.pointer (some ⟨c1,0,none⟩)])] (by kernel_rfl) ?_
 obtain ⟨r11,hr12,hF⟩:=zq hF
 refine OW.fn rfl rfl rfl rfl (by kernel_rfl) (zcz _ (.slice a5 (p0).length c6) p0 c1 (.slice a2 (p1).length c3) p1 r11 hr12 (hst.part [] rfl) (hst.rd 0 rfl (fun _=>rfl) [] rfl (hst.len 0 rfl).1) (h1.give hst []) (hc1.give hst [])) ?_
 rintro e w13 ⟨rfl,hst14⟩
 refine ⟨_,rfl,?_⟩
 have hst:=hst.join (idx:= []) (rest:= [0]) rfl hst14
 refine OW.pure 1 [(5,.int .i64 r11)] (by kernel_rfl) ?_
 refine OW.nil rfl ?_
 refine QW.next ?_
 refine CW.seq ?_
 refine CW.seq ?_
 refine CW.region ?_
 refine OW.pure 2 [(12,.bool (r11==(-1)))] (by kernel_rfl) ?_
 refine OW.nil rfl ?_
 refine QW.next ?_
 rcases zft ((r11==(-1))) with hc15 | hc15
 ·have hF:=zed hF hc15
  refine CW.cond_t rfl hc15 ?_
  refine CW.seq ?_
  refine CW.region ?_
  refine OW.pure 2 [(4,.slice a5 (p0).length c6)] (by kernel_rfl) ?_
  refine OW.nil rfl ?_
  refine QW.next ?_
  refine CW.ret ?_
  refine QW.then_ret ?_
  obtain rfl:=Option.some.inj hF
  refine QW.ret1 rfl rfl ?_
  exact ⟨(.slice a5 (p0).length c6),rfl,hst.keep [0] rfl⟩
 ·have hF:=zee hF hc15
  refine CW.cond_f rfl hc15 ?_
  refine CW.skip ?_
  refine QW.next ?_
  refine CW.seq ?_
  refine CW.seq ?_
  refine CW.region ?_
  refine OW.pure 3 [(6,.int .i64 (w64 (r11+1)))] (by kernel_rfl) ?_
  refine OW.nil rfl ?_
  refine QW.next ?_
  obtain ⟨o142,ho143,hF⟩:=zq hF
  refine CW.cutK (fun a w1=> ∃ (v141:Value),Rep 42 [(0,v141),(5,.int .i64 o142.2)] a/\St w (fp [zZ (.slice a5 (p0).length c6) 3 (zn .i64) 1 p0]) w1 [zZ v141 3 (zn .i64) 1 o142.1]) ?_ ?_
  ·refine CW.block ?_
   refine CW.loop (fun n a w1=> ∃ (s226:(List Int)×Int×Int) (v227:Value),Rep 42 [(0,v227),(1,.func (.func 106) #[] #[.pointer (some ⟨c1,0,none⟩)]),(5,.int .i64 s226.2.1),(6,.int .i64 s226.2.2)] a/\St w (fp [zZ (.slice a5 (p0).length c6) 3 (zn .i64) 1 p0]) w1 [zZ v227 3 (zn .i64) 1 s226.1]/\loop (zK p1) n s226=some o142) fu (fun a ha=>⟨(p0,r11,w64 (r11+1)),(.slice a5 (p0).length c6),ha.agrees (by kernel_rfl),hst.keep [0] rfl,ho143⟩) ?_
   rintro n224 a w1 ⟨s226,v227,ha,hst,hl225⟩
   rcases n224 with _ | n224
   ·exact (zke hl225).elim
   refine CW.go ?_ ha
   obtain ⟨l228,a229,c230,rfl⟩:=hst.len 0 rfl
   refine CW.seq ?_
   refine CW.seq ?_
   refine CW.region ?_
   refine OW.pure 4 [(19,.bool (decide (s226.2.2<((s226.1).length:Int))))] (by kernel_rfl) ?_
   refine OW.nil rfl ?_
   refine QW.next ?_
   rcases zft (decide (s226.2.2<((s226.1).length:Int))) with hc231 | hc231
   ·have hl225:=zed hl225 hc231
    refine CW.cond_t rfl hc231 ?_
    refine CW.skip ?_
    refine QW.next ?_
    refine CW.seq ?_
    refine CW.block ?_
    refine CW.seq ?_
    refine CW.region ?_
    refine OW.pure 2 [(22,.slice a229 (s226.1).length c230),(23,.int .i64 s226.2.2)] (by kernel_rfl) ?_
    obtain ⟨x238,hx239,hl225⟩:=zq hl225
    obtain ⟨g241,o242,c243,hv240⟩:=hst.rowv 0 rfl hx239
    refine OW.idx 3 1 rfl rfl rfl rfl hv240 rfl (qB hx239).1 (qB hx239).2.1 (by kernel_rfl) (by kernel_rfl) ?_
    refine OW.ld rfl rfl rfl rfl (by kernel_rfl) (hst.rowc 0 rfl (fun _=>rfl) hx239 hv240 0 _ rfl) ?_
    refine OW.pure 1 [(7,.int .i64 x238)] (by kernel_rfl) ?_
    refine OW.nil rfl ?_
    refine QW.next ?_
    refine CW.seq ?_
    refine CW.region ?_
    refine OW.pure 2 [(26,.func (.func 106) #[] #[.pointer (some ⟨c1,0,none⟩)]),(27,.int .i64 x238)] (by kernel_rfl) ?_
    obtain ⟨r248,hr249,hl225⟩:=zq hl225
    refine OW.fn rfl rfl rfl rfl (by kernel_rfl) (zaP _ x238 c1 (.slice a2 (p1).length c3) p1 r248 hr249 (hst.part [] rfl) (h1.give hst []) (hc1.give hst [])) ?_
    rintro e w250 ⟨rfl,hst251⟩
    refine ⟨_,rfl,?_⟩
    have hst:=hst.join (idx:= []) (rest:= [0]) rfl hst251
    refine OW.pure 1 [(29,.bool (!r248))] (by kernel_rfl) ?_
    refine OW.nil rfl ?_
    refine QW.next ?_
    rcases zft ((!r248)) with hc252 | hc252
    ·have hl225:=zed hl225 hc252
     refine CW.cond_t rfl hc252 ?_
     refine CW.seq ?_
     refine CW.region ?_
     refine OW.pure 3 [(30,.slice a229 (s226.1).length c230),(31,.int .i64 s226.2.1),(32,.int .i64 x238)] (by kernel_rfl) ?_
     obtain ⟨x260,hx261,hl225⟩:=zq hl225
     obtain ⟨g263,o264,c265,hv262⟩:=hst.rowv 0 rfl hx261
     refine OW.idx 3 1 rfl rfl rfl rfl hv262 rfl (qB hx261).1 (qB hx261).2.1 (by kernel_rfl) (by kernel_rfl) ?_
     refine OW.stR hst 0 rfl hv262 (fun _=>rfl) rfl rfl hx261 0 rfl rfl rfl (by kernel_rfl) rfl rfl x238 rfl ?_
     intro w266 hst
     refine OW.nil rfl ?_
     refine QW.next ?_
     refine CW.region ?_
     refine OW.pure 3 [(5,.int .i64 (w64 (s226.2.1+1)))] (by kernel_rfl) ?_
     refine OW.nil rfl ?_
     refine QW.block_normal ?_
     refine QW.next ?_
     refine CW.region ?_
     refine OW.pure 3 [(6,.int .i64 (w64 (s226.2.2+1)))] (by kernel_rfl) ?_
     refine OW.nil rfl ?_
     exact QW.meet (fun a ha=>⟨n224,zls _,((s226.1.set (Int.toNat s226.2.1) x238),w64 (s226.2.1+1),w64 (s226.2.2+1)),(.slice a229 (s226.1).length c230),ha.agrees (by kernel_rfl),hst.keep [0] rfl,hl225⟩)
    ·have hl225:=zee hl225 hc252
     refine CW.cond_f rfl hc252 ?_
     refine CW.skip ?_
     refine QW.block_normal ?_
     refine QW.next ?_
     refine CW.region ?_
     refine OW.pure 3 [(6,.int .i64 (w64 (s226.2.2+1)))] (by kernel_rfl) ?_
     refine OW.nil rfl ?_
     exact QW.meet (fun a ha=>⟨n224,zls _,(s226.1,s226.2.1,w64 (s226.2.2+1)),(.slice a229 (s226.1).length c230),ha.agrees (by kernel_rfl),hst.keep [0] rfl,hl225⟩)
   ·have hl225:=zee hl225 hc231
    refine CW.cond_f rfl hc231 ?_
    refine CW.exit ?_
    refine QW.then_exit ?_
    refine QW.then_exit ?_
    refine QW.block_here ?_
    obtain rfl:=Option.some.inj hl225
    exact QW.meet (fun a ha=>⟨(.slice a229 (s226.1).length c230),ha.agrees (by kernel_rfl),hst.keep [0] rfl⟩)
  ·rintro a w1 ⟨v141,ha,hst⟩
   refine CW.go ?_ ha
   obtain ⟨l271,a272,c273,rfl⟩:=hst.len 0 rfl
   refine CW.seq ?_
   refine CW.region ?_
   refine OW.pure 2 [(36,.slice a272 (o142.1).length c273),(37,.int .i64 o142.2)] (by kernel_rfl) ?_
   obtain ⟨ys277,hcut278,hF⟩:=zq hF
   refine OW.op (v:= .slice (shd a272 c273 (Int.toNat o142.2) 1) (ys277).length (c273-Int.toNat o142.2)) rfl rfl rfl rfl (fun a ha=>zoc (xs:=o142.1) (e:=3) 1 rfl rfl rfl rfl hcut278 (by kernel_rfl) (by kernel_rfl) a _ ha) ?_
   refine OW.clearR (e:=3) hst 0 rfl (fun _=>rfl) rfl rfl hcut278 rfl rfl (by kernel_rfl) 0 (by kernel_rfl) rfl ?_
   intro w279 hst
   refine OW.nil rfl ?_
   refine QW.next ?_
   refine CW.seq ?_
   refine CW.region ?_
   refine OW.pure 2 [(39,.slice a272 (o142.1).length c273),(40,.int .i64 o142.2)] (by kernel_rfl) ?_
   obtain ⟨ys282,hcut283,hF⟩:=zq hF
   refine OW.op (v:= .slice a272 (ys282).length c273) rfl rfl rfl rfl (fun a ha=>zld (e:=3) 1 rfl rfl rfl hcut283 (hst.cap 0 rfl) (by kernel_rfl) (by kernel_rfl) a _ ha) ?_
   refine OW.pure 1 [(4,.slice a272 (ys282).length c273)] (by kernel_rfl) ?_
   refine OW.nil rfl ?_
   refine QW.next ?_
   refine CW.ret ?_
   have hst:=hst.cutRow 0 rfl (fun _=>rfl) hcut283
   obtain rfl:=Option.some.inj hF
   refine QW.ret1 rfl rfl ?_
   exact ⟨(.slice a272 (ys282).length c273),rfl,hst.keep [0] rfl⟩
end Go.Proofs.YtbmknhpfkpmigaaGreatDoor
