/- Texts W1p16 of this proof. -/
import Derived.Test.YtbmknhpfkpmigaaGreatDoorW1p15
set_option linter.unusedVariables false
set_option linter.unusedSimpArgs false
set_option maxRecDepth 10000
set_option maxHeartbeats 4000000
namespace Go.Proofs.YtbmknhpfkpmigaaGreatDoor
open Go.Sx
set_option maxRecDepth 10000 in
set_option maxHeartbeats 4000000 in
theorem zeh (w:World) (v0:Value) (S0:List Nat) (p0:za) (r:(List Int)) (hF:qP p0=some r)
    (hst:St w (fp [itI jr [v0] S0 p0]) w [itI jr [v0] S0 p0]):
    Calls Tryz.prog 63 [v0].toArray w (fun e w'=> ∃ (s0:List Nat) (x0:Value),e= .returned (x0)/\St w (fp [itI jr [v0] S0 p0]) w' [itI jr [v0] s0 p0,zZ x0 3 (zn .i64) 1 r]):=by
 refine CW.start (N:=28) Tryz.func63 rfl rfl rfl ?_
 obtain ⟨b1,rfl⟩:=hst.fptr 0 rfl
 refine CW.seq ?_
 refine CW.region ?_
 refine OW.pure 1 [] (by kernel_rfl) ?_
 refine OW.nil rfl ?_
 refine QW.next ?_
 refine CW.seq ?_
 refine CW.region ?_
 refine OW.pure 1 [(3,.slice none 0 0)] (by kernel_rfl) ?_
 refine OW.nil rfl ?_
 refine QW.next ?_
 refine CW.seq ?_
 refine CW.seq ?_
 obtain ⟨v2,S3,v4,S5,v6,S7,v8,S9,v10,S11,hst⟩:=hst.openQ5 0 rfl rfl rfl rfl rfl rfl
 obtain ⟨r12,rfl,hst⟩:=hst.toMN1 4 rfl
 have hst:=hst.toRow1 5 rfl
 obtain ⟨b13,rfl⟩:=hst.fptr 1 rfl
 obtain ⟨b14,rfl⟩:=hst.fptr 2 rfl
 obtain ⟨b15,rfl⟩:=hst.fptr 3 rfl
 obtain ⟨l16,a17,c18,rfl⟩:=hst.len 5 rfl
 have hst:St _ _ _ [jF b1 130 [.pointer (some ⟨b13,0,none⟩),.pointer (some ⟨b14,0,none⟩),.pointer (some ⟨b15,0,none⟩),.int .i64 p0.hooks,.int .i64 p0.maps,.int .i64 p0.given,.map (some r12),.slice a17 (p0.waiting).length c18],_,_,_,_,_]:=hst
 refine CW.region ?_
 refine OW.pure 3 [(8,.pointer (some ⟨b1,6,none⟩))] (by kernel_rfl) ?_
 refine OW.ld rfl rfl rfl rfl (by kernel_rfl) (hst.blk 0 rfl rfl) ?_
 refine OW.range (tk:=3) (te:=190) hst 4 rfl rfl rfl rfl rfl (by kernel_rfl) ?_
 intro it21 w22 hst
 refine OW.nil rfl ?_
 refine QW.next ?_
 refine CW.block ?_
 have hst:=hst.nilRow Int 3 (zn .i64) 1
 refine CW.loop (fun n a w1=> ∃ (s142:(List Int)) (v143:Value) (rem144:List (Int×zr)) (last145:Option (Int×Value×zr)),n=rem144.length/\Rep 28 [(3,v143),(10,.pointer (some ⟨it21,0,none⟩))] a/\St w (fp [itI jr [.pointer (some ⟨b1,0,none⟩)] S0 p0]) w1 [zZ v143 3 (zn .i64) 1 s142,zol it21 r12 zeO S9 p0.progs rem144 last145,jF b1 130 [.pointer (some ⟨b13,0,none⟩),.pointer (some ⟨b14,0,none⟩),.pointer (some ⟨b15,0,none⟩),.int .i64 p0.hooks,.int .i64 p0.maps,.int .i64 p0.given,.map (some r12),.slice a17 (p0.waiting).length c18],itI vq [.pointer (some ⟨b13,0,none⟩)] S3 p0.Table,itI xB [.pointer (some ⟨b14,0,none⟩)] S5 p0.Refs,itI vB [.pointer (some ⟨b15,0,none⟩)] S7 p0.Clock,zZ (.slice a17 (p0.waiting).length c18) 3 (zn .i64) 1 p0.waiting]/\ ∀ q,q.Perm rem144->zd6 (qJ p0) (zX p0) q s142=some r) (p0.progs.length) (fun a ha=>⟨([]:List Int),(.slice none 0 0),p0.progs,none,rfl,ha.agrees (by kernel_rfl),hst.keep [6,4,0,1,2,3,5] rfl,fun q hq=>(zdf p0) q hq _ hF⟩) ?_
 rintro n139 a w1 ⟨s142,v143,rem144,last145,hn141,ha,hst,hl140⟩
 refine CW.go ?_ ha
 obtain ⟨l146,a147,c148,rfl⟩:=hst.len 0 rfl
 refine CW.seq ?_
 refine CW.region ?_
 refine OW.rnext hst 1 rfl rfl rfl rfl rfl ?_ ?_
 ·intro hr170
  have hf172:(zX p0) s142=some r:=hl140 [] (by rw [hr170])
  have hst:=hst.unrng 1 rfl
  refine OW.pure 1 [(12,.bool false)] (by kernel_rfl) ?_
  refine OW.nil rfl ?_
  refine QW.next ?_
  refine CW.seq ?_
  refine CW.cond_f rfl rfl ?_
  refine CW.exit ?_
  refine QW.then_exit ?_
  refine QW.then_exit ?_
  refine QW.block_here ?_
  refine QW.next ?_
  refine CW.seq ?_
  refine CW.region ?_
  refine OW.pure 1 [(25,.slice a147 (s142).length c148)] (by kernel_rfl) ?_
  obtain ⟨r177,hr178,hf172⟩:=zq hf172
  refine OW.fn rfl rfl rfl rfl (by kernel_rfl) (zco _ (.slice a147 (s142).length c148) s142 r177 hr178 (hst.part [0] rfl)) ?_
  rintro e w179 ⟨rfl,hst180⟩
  refine ⟨_,rfl,?_⟩
  have hst:=hst.join (idx:= [0]) (rest:= [1,2,3,4,5,6]) rfl hst180
  refine OW.nil rfl ?_
  refine QW.next ?_
  refine CW.seq ?_
  refine CW.region ?_
  refine OW.pure 2 [(2,.slice a147 (s142).length c148)] (by kernel_rfl) ?_
  refine OW.nil rfl ?_
  refine QW.next ?_
  refine CW.ret ?_
  have hst:=hst.ofMN 1 rfl
  have hst:=hst.toIt 6 rfl (fun _=>rfl) (by decide)
  obtain ⟨S181,hst⟩:=hst.shutP5 jC rfl 2 3 4 5 1 6 [0] rfl rfl rfl rfl rfl rfl rfl p0 rfl rfl
  obtain rfl:=Option.some.inj hf172
  refine QW.ret1 rfl rfl ?_
  exact ⟨S181,(.slice a147 (s142).length c148),rfl,hst.keep [1,0] rfl⟩
 ·intro k161 v162 x163 rem164 w165 hp166 hst
  obtain ⟨t169,hs167,ht168⟩:=zq (hl140 ((k161,x163)::rem164) hp166.symm)
  have hs1670:=hs167
  obtain ⟨b171,rfl⟩:=hst.rfptr 1 rfl
  refine OW.pure 1 [(12,.bool true)] (by kernel_rfl) ?_
  refine OW.nil rfl ?_
  refine QW.next ?_
  refine CW.seq ?_
  refine CW.cond_t rfl rfl ?_
  refine CW.skip ?_
  refine QW.next ?_
  refine CW.block ?_
  refine CW.seq ?_
  refine CW.region ?_
  refine OW.rentry hst 1 rfl rfl rfl rfl rfl ?_
  refine OW.pure 4 [(4,.int .i64 k161),(5,.pointer (some ⟨b171,0,none⟩))] (by kernel_rfl) ?_
  refine OW.nil rfl ?_
  refine QW.next ?_
  refine CW.seq ?_
  refine CW.region ?_
  refine OW.pure 3 [(18,.pointer (some ⟨b171,2,none⟩))] (by kernel_rfl) ?_
  refine OW.ld rfl rfl rfl rfl (by kernel_rfl) (hst.rcell 1 rfl 2 (fun _=>rfl)) ?_
  refine OW.pure 1 [(20,.bool (x163.retiring==0))] (by kernel_rfl) ?_
  refine OW.nil rfl ?_
  refine QW.next ?_
  rcases zft ((x163.retiring==0)) with hc182 | hc182
  ·have hs167:=zed hs167 hc182
   refine CW.cond_t rfl hc182 ?_
   refine CW.region ?_
   refine OW.pure 2 [(21,.slice a147 (s142).length c148),(22,.int .i64 k161)] (by kernel_rfl) ?_
   refine OW.row (α:=Int) (e:=3) (enc:=zn .i64) (sz:=1) hst rfl rfl rfl [k161] rfl (fun _=>rfl) rfl rfl (fun _=>by kernel_rfl) ?_
   intro g192 w193 hst
   obtain ⟨u194,hr195,hs167⟩:=zq hs167
   refine OW.app hst 0 rfl (fun _=>rfl) (fun _=>rfl) rfl rfl rfl rfl rfl rfl (by kernel_rfl) el3 (hst.rd 7 rfl (fun _=>rfl) [] rfl (hst.len 7 rfl).1) (zf4 hr195) ?_
   intro v196 w197 hst
   obtain ⟨l198,a199,c200,rfl⟩:=hst.len 0 rfl
   refine OW.pure 1 [(3,.slice a199 ((s142++ [k161])).length c200)] (by kernel_rfl) ?_
   refine OW.nil rfl ?_
   refine QW.block_normal ?_
   obtain rfl:=Option.some.inj hs167
   exact QW.meet (fun a ha=>⟨_,zlU hn141 hp166,(s142++ [k161]),(.slice a199 ((s142++ [k161])).length c200),rem164,(some (k161,.pointer (some ⟨b171,0,none⟩),x163)),rfl,ha.agrees (by kernel_rfl),hst.keep [0,1,2,3,4,5,6] rfl,fun q hq=>zeL (hl140 _ ((List.Perm.cons _ hq).trans hp166.symm)) hs1670⟩)
  ·have hs167:=zee hs167 hc182
   refine CW.cond_f rfl hc182 ?_
   refine CW.skip ?_
   refine QW.block_normal ?_
   obtain rfl:=Option.some.inj hs167
   exact QW.meet (fun a ha=>⟨_,zlU hn141 hp166,s142,(.slice a147 (s142).length c148),rem164,(some (k161,.pointer (some ⟨b171,0,none⟩),x163)),rfl,ha.agrees (by kernel_rfl),hst.keep [0,1,2,3,4,5,6] rfl,fun q hq=>zeL (hl140 _ ((List.Perm.cons _ hq).trans hp166.symm)) hs1670⟩)
instance registry_Registry_Live_g {p0:za}:HasC (qP p0) (∀ (b1:Nat) (S0:List Nat),Ctr Tryz.prog 63 [.pointer (some ⟨b1,0,none⟩)] [] [itI jr [.pointer (some ⟨b1,0,none⟩)] S0 p0] (qP p0) (fun (r:(List Int)) (i:(Option Addr)×Nat×(List Nat)×Unit)=>(.slice i.1 (r).length i.2.1,[itI jr [.pointer (some ⟨b1,0,none⟩)] i.2.2.1 p0,zZ (.slice i.1 (r).length i.2.1) 3 (zn .i64) 1 r]))):=⟨fun b1 S0=>⟨fun w r a hst hF=>by
  refine (zeh w _ _ _ r hF hst).mono ?_
  rintro e w' ⟨s0,x0,rfl,hst⟩
  obtain ⟨l209,a210,c211,rfl⟩:=hst.len 1 rfl
  exact ⟨(a210,c211,s0,()),rfl,hst⟩⟩⟩
instance tappetref24_Registry_Live_g {fu:Nat} {p0:zd}:HasC (jw fu p0) (∀ (b1:Nat) (S0:List Nat),Ctr Tryz.prog 64 [.pointer (some ⟨b1,0,none⟩)] [] [itI xW [.pointer (some ⟨b1,0,none⟩)] S0 p0] (jw fu p0) (fun (r:(List Int)) (i:(Option Addr)×Nat×(List Nat)×Unit)=>(.slice i.1 (r).length i.2.1,[itI xW [.pointer (some ⟨b1,0,none⟩)] i.2.2.1 p0,zZ (.slice i.1 (r).length i.2.1) 3 (zn .i64) 1 r]))):=⟨fun b1 S0=> .w (wk Tryz.func64 [.p 1,.fi,.p 1,.fi,.p 1,.fi,.dn 0,.ck [] (fun (o286:(List Int)) (i:(Option Addr)×Nat×(List Nat)×Unit)=> [(3,.slice i.1 (o286).length i.2.1)]) [0,0] (fun (o286:(List Int)) (i:(Option Addr)×Nat×(List Nat)×Unit)=> [zZ (.slice i.1 (o286).length i.2.1) 3 (zn .i64) 1 o286,itI xW [.pointer (some ⟨b1,0,none⟩)] i.2.2.1 p0]) [.nr 3 (zn .i64) 1,.nl 1 [3],.lg [0] (fun (s476:(List Int)×Int) (i:(Option Addr)×Nat×(List Nat)×Unit)=> [(3,.slice i.1 (s476.1).length i.2.1),(4,.int .i64 s476.2)]) [0,0] (fun (s476:(List Int)×Int) (i:(Option Addr)×Nat×(List Nat)×Unit)=> [itI xW [.pointer (some ⟨b1,0,none⟩)] i.2.2.1 p0,zZ (.slice i.1 (s476.1).length i.2.1) 3 (zn .i64) 1 s476.1]) [0,1],.op 0 0 [2,2,1,0],.p 4,.ld 0 3,.p 2,.fi,.br [.p 3,.ld 0 3,.p 1,.bn 4,.ix 0 4,.p 1,.a (.ne 4 0 0 [7,0,0]),.k (.nh 4 0 2),.p 1,.fi,.br [.p 3,.rw 1 3 (zn .i64) 1 (fun cs=>zO cs 0),.be,.ap 1 1 (.o 9),.p 1,.fi,.p 3,.fi,.a (.nb0 4 0 [0,1,2,3,4,5,9] [.s,.r 7,.r 8]),.sh 0 [.r 2,.r 3,.r 4,.r 5] [1,6] qq,.bg [2,0]] [.p 3,.fi,.a (.nb0 4 0 [0,1,2,3,4,5] [.s,.r 7,.r 8]),.sh 0 [.r 2,.r 3,.r 4,.r 5] [1] qq,.bg [1,0]]] [.sh 0 [.r 2,.r 3,.r 4,.r 5] [1] qq,.mt [0,1]]],.p 2,.fi,.rt [1,0]])⟩
instance registry_Registry_Retiring_g {p0:za}:HasC (jh p0) (∀ (b1:Nat) (S0:List Nat),Ctr Tryz.prog 65 [.pointer (some ⟨b1,0,none⟩)] [] [itI jr [.pointer (some ⟨b1,0,none⟩)] S0 p0] (jh p0) (fun (r:(List Int)) (i:(Option Addr)×Nat×(List Nat)×Unit)=>(.slice i.1 (r).length i.2.1,[itI jr [.pointer (some ⟨b1,0,none⟩)] i.2.2.1 p0,zZ (.slice i.1 (r).length i.2.1) 3 (zn .i64) 1 r]))):=⟨fun b1 S0=> .w (wk Tryz.func65 [.p 1,.fi,.op 0 0 [2,2,2,5,0],.p 3,.ld 0 7,.ca [] [.o 5] [0,1,2,3,4,5],.p 1,.fi,.sh 1 [.r 2,.r 3,.r 4,.r 5,.r 6] [0] jC,.rt [1,0]])⟩
instance epoch_Clock_Now_g {p0:zt}:HasC (zca p0) (∀ (b1:Nat) (S0:List Nat),Ctr Tryz.prog 67 [.pointer (some ⟨b1,0,none⟩)] [] [itI vB [.pointer (some ⟨b1,0,none⟩)] S0 p0] (zca p0) (fun (r:Int) (i:(List Nat)×Unit)=>(.int .i64 r,[itI vB [.pointer (some ⟨b1,0,none⟩)] i.1 p0]))):=⟨fun b1 S0=> .w (wk Tryz.func67 [.p 1,.fi,.op 0 0 [0],.p 3,.ld 0 0,.p 1,.fi,.sh 0 [.r 1] [] zeN,.rt [0]])⟩
instance tappetref24_Registry_Count_g {fu:Nat} {p0:zd} {p1:Int}:HasC (jk fu p0 p1) (∀ (b1:Nat) (S0:List Nat),Ctr Tryz.prog 69 [.pointer (some ⟨b1,0,none⟩),.int .i64 p1] [] [itI xW [.pointer (some ⟨b1,0,none⟩)] S0 p0] (jk fu p0 p1) (fun (r:Int) (i:(List Nat)×Unit)=>(.int .i64 r,[itI xW [.pointer (some ⟨b1,0,none⟩)] i.1 p0]))):=⟨fun b1 S0=> .w (wk Tryz.func69 [.p 1,.fi,.p 1,.fi,.p 1,.fi,.dn 0,.ck [] (fun (o2173:Int) (i:(List Nat)×Unit)=> [(5,.int .i64 o2173)]) [0] (fun (o2173:Int) (i:(List Nat)×Unit)=> [itI xW [.pointer (some ⟨b1,0,none⟩)] i.1 p0]) [.lg [0,1] (fun (s3622:Int×Int) (i:(List Nat)×Unit)=> [(5,.int .i64 s3622.1),(6,.int .i64 s3622.2)]) [0] (fun (s3622:Int×Int) (i:(List Nat)×Unit)=> [itI xW [.pointer (some ⟨b1,0,none⟩)] i.1 p0]) [0],.op 0 0 [2,2,1,0],.p 4,.ld 0 3,.p 2,.fi,.br [.p 1,.fi,.dn 0,.ck [0,1,6] (fun (o3992:Int) (i:(List Nat)×Unit)=> [(5,.int .i64 o3992)]) [0] (fun (o3992:Int) (i:(List Nat)×Unit)=> [itI xW [.pointer (some ⟨b1,0,none⟩)] i.1 p0]) [.sh 0 [.r 1,.r 2,.r 3,.r 4] [] qq,.lg [0,1,6] (fun (s4228:Int×Int) (i:(List Nat)×Unit)=> [(5,.int .i64 s4228.1),(7,.int .i64 s4228.2)]) [0] (fun (s4228:Int×Int) (i:(List Nat)×Unit)=> [itI xW [.pointer (some ⟨b1,0,none⟩)] i.1 p0]) [0],.op 0 0 [2,2,1,0],.p 4,.ld 0 3,.p 1,.bn 3,.ix 0 4,.p 2,.a (.ne 3 0 0 [7,0,0]),.k (.nh 3 0 0),.p 2,.fi,.br [.ck [0,1,5,6,7] (fun (o4317:Bool) (i:(List Nat)×Unit)=> [(55,.bool o4317)]) [0] (fun (o4317:Bool) (i:(List Nat)×Unit)=> [itI xW [.pointer (some ⟨b1,0,none⟩)] i.1 p0]) [.p 3,.ld 0 3,.p 1,.ix 0 4,.p 1,.k (.nh 3 0 2),.p 2,.sp 40 [.p 3,.ld 0 3,.p 1,.ix 0 4,.p 2,.k (.nh 3 0 0),.p 1,.bo 6,.ix 1 1,.lr 6 1 0,.p 3,.fi,.a (.nb0 3 0 [0,1,2,3,4] [.s,.r 6,.r 7]),.sh 0 [.r 1,.r 2,.r 3,.r 4] [] qq,.mt [0]] [.p 15,.fi,.a (.nb0 3 0 [0,1,2,3,4] [.s,.r 6,.r 7]),.sh 0 [.r 1,.r 2,.r 3,.r 4] [] qq,.mt [0]]],.br [.p 3,.fi,.p 3,.fi,.bg [0]] [.p 3,.fi,.bg [0]]] [.a (.nb0 3 0 [0,1,2,3,4] [.s,.r 6,.r 7]),.sh 0 [.r 1,.r 2,.r 3,.r 4] [] qq,.mt [0]]],.p 3,.fi,.bg [0]] [.sh 0 [.r 1,.r 2,.r 3,.r 4] [] qq,.mt [0]]],.p 2,.fi,.rt [0]])⟩
instance hooks_Table_Current_g {p0:zo} {p1:Int}:HasC (vn p0 p1) (∀ (b1:Nat) (S0:List Nat),Ctr Tryz.prog 70 [.pointer (some ⟨b1,0,none⟩),.int .i64 p1] [] [itI vq [.pointer (some ⟨b1,0,none⟩)] S0 p0] (vn p0 p1) (fun (r:Int×Int×Bool) (i:(List Nat)×Unit)=>(.tuple #[.int .i64 r.1,.int .i64 r.2.1,.bool r.2.2],[itI vq [.pointer (some ⟨b1,0,none⟩)] i.1 p0]))):=⟨fun b1 S0=> .w (wk Tryz.func70 [.p 3,.fi,.ck [0,1] (fun (o19:Bool) (i:(List Nat)×Unit)=> [(17,.bool o19)]) [0] (fun (o19:Bool) (i:(List Nat)×Unit)=> [itI vq [.pointer (some ⟨b1,0,none⟩)] i.1 p0]) [.p 2,.ca [0] [] [],.p 2,.sp 12 [.p 5,.fi,.mt [0]] [.p 2,.ca [0] [] [],.p 2,.fi,.mt [0]]],.br [.p 3,.fi,.rt [0]] [.op 0 0 [0],.p 3,.ld 0 1,.p 1,.bo 1,.ix 0 2,.lR 1 0 0 2,.al 207 [.int .i64 0,.int .i64 0],.st 2 0 2,.fi,.sl,.p 1,.ld 2 0,.p 1,.ld 2 1,.p 3,.fi,.sh 0 [.r 1] [2] zfL,.rt [1]]])⟩
instance slices_Clone_tappet_api_Inst_tappet_api_Inst_g {p0:List ze}:HasC (zU p0) (∀ (a2:Option Addr) (c3:Nat),Ctr Tryz.prog 112 [.slice a2 (p0).length c3] [.rd (.slice a2 (p0).length c3) zp 5 p0] [] (zU p0) (fun (r:(List ze)) (i:(Option Addr)×Nat×Unit)=>(.slice i.1 (r).length i.2.1,[zZ (.slice i.1 (r).length i.2.1) 65 zp 5 r]))):=⟨fun a2 c3=> .w (wk Tryz.func112 [.p 1,.fi,.p 1,.kv .nz,.fi,.nb 0 [.p 1,.fi,.nr 65 zp 5,.nl 0 [2],.rt [0]] [.rw 0 65 zp 5 (fun cs=>(ze.mk (zO cs 0) (zO cs 1) (zO cs 2) (zO cs 3) (zO cs 4))),.p 1,.be,.ap 1 0 (.f 0),.p 1,.fi,.rt [0]]])⟩
instance registry_Registry_Module_g {p0:za} {p1:Int}:HasC (jN p0 p1) (∀ (b1:Nat) (S0:List Nat),Ctr Tryz.prog 72 [.pointer (some ⟨b1,0,none⟩),.int .i64 p1] [] [itI jr [.pointer (some ⟨b1,0,none⟩)] S0 p0] (jN p0 p1) (fun (r:zg×Bool) (i:(Option Addr)×Nat×(Option Addr)×Nat×(List Nat)×Unit)=>(.tuple #[.agg [.slice i.1 (r.1.Ms).length i.2.1,.slice i.2.2.1 (r.1.Co).length i.2.2.2.1].toArray,.bool r.2],[itI jr [.pointer (some ⟨b1,0,none⟩)] i.2.2.2.2.1 p0,zZ (.slice i.1 (r.1.Ms).length i.2.1) 3 (zn .i64) 1 r.1.Ms,zZ (.slice i.2.2.1 (r.1.Co).length i.2.2.2.1) 65 zp 5 r.1.Co]))):=⟨fun b1 S0=> .w (wk Tryz.func72 [.al 37 [.slice none 0 0,.slice none 0 0],.p 1,.fi,.op 0 0 [2,2,2,5,0],.p 3,.ld 0 6,.p 1,.mlP 5 p1,.p 5,.fi,.p 2,.fi,.br [.p 1,.st 1 0 2,.p 1,.fi,.a (.mb0 5 [0,1,2,3,4,5,6] [.r 7]),.sh 0 [.r 2,.r 3,.r 4,.r 5,.r 6] [1] jC,.nr 3 (zn .i64) 1,.nr 65 zp 5,.rtc [1,2,3] [⟨0,0,2⟩,⟨0,0,0⟩]] [.pl,.fO 7,.fx (fun (y68:zr)=> [.op 7 0 [0,0],.q [0,1,2,3],.l 4 (.ld 7 0),.q [6,7,8,9],.l 10 (.ld 7 1),.ac 5 [10],.ca [] [.o 8] [0,1,2,3,4,5,6,7,8,9],.nx [.ld 8 1],.ac 11 [],.ca [] [.o 10] [0,1,2,3,4,5,6,7,8,9,10],.nx [],.q [12],.ac 13 [],.st 3 0 2,.nx [],.ac 14 [],.p 1,.nx [],.fi,.a (.shx 9 [.r 10,.r 11] [0,1,2,3,4,5,6,7,8] zfM y68),.a (.mbf 7 0 [0,1,2,3,4,5,6,7,8] [.os 9]),.sh 2 [.r 4,.r 5,.r 6,.r 7,.r 8] [0,1,3] jC,.rtc [3,1,0] [⟨2,0,2⟩,⟨0,0,0⟩]])]])⟩
instance tappetref04_Same_g {p0:zg} {p1:zg}:HasC (xO p0 p1) (∀ (a2:Option Addr) (c3:Nat) (a5:Option Addr) (c6:Nat) (a8:Option Addr) (c9:Nat) (a11:Option Addr) (c12:Nat),Ctr Tryz.prog 73 [.agg [.slice a2 (p0.Ms).length c3,.slice a5 (p0.Co).length c6].toArray,.agg [.slice a8 (p1.Ms).length c9,.slice a11 (p1.Co).length c12].toArray] [.rd (.slice a2 (p0.Ms).length c3) (zn .i64) 1 p0.Ms,.rd (.slice a5 (p0.Co).length c6) zp 5 p0.Co,.rd (.slice a8 (p1.Ms).length c9) (zn .i64) 1 p1.Ms,.rd (.slice a11 (p1.Co).length c12) zp 5 p1.Co] [] (xO p0 p1) (fun (r:Bool) (i:Unit)=>(.bool r,[]))):=⟨fun a2 c3 a5 c6 a8 c9 a11 c12=> .w (wk Tryz.func73 [.bx 37 2,.bx 37 2,.p 1,.fi,.sc [2,3,22] [(1,.ld 0 0),(4,.ld 1 0),(9,.ld 0 1),(12,.ld 1 1)] [] [(15,true)],.br [.p 1,.fi,.rt []] [.p 1,.fi,.dn 0,.cs [2,3] (fun (t121:Unit) (i:Unit)=> []) [1,2] (fun (t121:Unit) (i:Unit)=> []) [.lp 5 0 [2,3] (fun (s185:Unit) (i:Unit)=> []) [1,2] (fun (s185:Unit) (i:Unit)=> []) [0,1],.p 2,.ld 0 0,.p 2,.fi,.lc 5 [.sl,.p 1,.ld 0 0,.p 1,.bi 0,.ix 6 1,.le 0 6 0,.p 1,.ld 1 0,.p 1,.bi 2,.ix 7 1,.le 2 7 0,.p 1,.fi,.br [.p 1,.fi,.pop 4,.rt []] [.p 3,.fi,.bk 5 [0,1]]] [.mt [0,1]]],.p 1,.fi,.dn 0,.cs [] (fun (t316:Unit) (i:Unit)=> []) [] (fun (t316:Unit) (i:Unit)=> []) [.lp 6 1 [2,3] (fun (s380:Unit) (i:Unit)=> []) [1,2] (fun (s380:Unit) (i:Unit)=> []) [0,1],.p 2,.ld 0 1,.p 2,.fi,.lc 5 [.sl,.p 1,.ld 0 1,.p 1,.bi 1,.ix 6 5,.lE 1 6 0 5,.p 1,.ld 1 1,.p 1,.bi 3,.ix 7 5,.lE 3 7 0 5,.kv .sn,.fi,.br [.p 1,.fi,.pop 4,.rt []] [.p 3,.fi,.bk 5 [0,1]]] [.mt []]],.p 1,.fi,.rt []]])⟩
end Go.Proofs.YtbmknhpfkpmigaaGreatDoor
