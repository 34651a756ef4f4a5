/- Texts KAllR, KWire, KRefs, KReg of this proof. -/
import Derived.Test.YtbmknhpfkpmigaaGreatDoorKUpR
import Derived.Test.YtbmknhpfkpmigaaGreatDoorO1
set_option linter.unusedVariables false
set_option linter.unusedSimpArgs false
namespace Go.Proofs.YtbmknhpfkpmigaaGreatDoor
open Go.Sx
def zrx:zfU:=fun _=>zci
def cons (code:List ze) (lv:Nat->Bool->Option zfU):Nat->Nat->List zfU
 | 0,q=>if q=0 then [zrx] else []
 | n+1,q=>cons code lv n q++(match code[n]? with | some i=>ctr i n q (lv n) | none=> [])
theorem zlt (code:List ze) (lv:Nat->Bool->Option zfU) (q:Nat): ∀ n,(cons code lv n q).length<=1+2*n:=by
 intro n
 induction n with
 | zero=>unfold cons;split<;>simp
 | succ n ih=>
  unfold cons
  rw [List.length_append]
  have:(match code[n]? with | some i=>ctr i n q (lv n) | none=> []).length<=2:=by
   split
   ·rename_i i _
    unfold ctr
    rw [List.length_append]
    have a: ∀ (c:Bool) (o:Option zfU),(if c=true then o.toList else []).length<=1:=by
     intro c o
     cases c<;>cases o<;>simp
    have:=a ((zF i).2.1&&((n:Int)+(zF i).1==(q:Int))) (lv n true)
    have:=a ((zF i).2.2&&(n+1==q)) (lv n false)
    omega
   ·simp
  omega
structure zkD (fu:Nat) (m:zg) (n:Nat) (j:zf) (zaC:List (List zb)) (lv:Nat->Bool->Option zfU):Prop where
 len:zaC.length=n
 past: ∀ p,p<n-> ∃ x b,j.ca[p]? =some x/\j.any[p]? =some b/\zaC[p]? =some (if b then vp 8 x else [])
 none_: ∀ p,p<n->j.any[p]? =some false-> ∀ b,lv p b=none
 leaves: ∀ p x,p<n->j.any[p]? =some true->j.ca[p]? =some x-> ∀ b,qR fu m p (vp 8 x) b=some (match lv p b with | some s=>(vp 8 s,true) | none=>([],false))
 fut: ∀ q,n<=q->q<m.Co.length->zjC m j q (cons m.Co lv n q)
theorem zl1 {fu:Nat} {m:zg} (hg:zii m.Co) {n:Nat} (hn:n<m.Co.length) {j:zf} {zaC:List (List zb)} {lv:Nat->Bool->Option zfU} (hK:zkD fu m n j zaC lv): ∀ (c p f:Nat),p+c=n->c<f->
  loop (xf fu m n zaC) f ((cons m.Co lv p n).map (vp 8),(p:Int))=some ((cons m.Co lv n n).map (vp 8)):=by
 have n64:=hg.n64
 intro c
 induction c with
 | zero=>
  intro p f hp hf
  obtain ⟨f,rfl⟩: ∃ k,f=k+1:=⟨f-1,by omega⟩
  have:p=n:=by omega
  subst this
  rw [loop,xf,if_neg (by simp)]
 | succ c ih=>
  intro p f hp hf
  obtain ⟨f,rfl⟩: ∃ k,f=k+1:=⟨f-1,by omega⟩
  have ihx:=ih (p+1) f (by omega) (by omega)
  have hci:m.Co[p]? =some (m.Co[p]'(by omega)):=zeg (by omega)
  have eidx:idx m.Co (p:Int)=some (m.Co[p]'(by omega)):=zgl (by omega)
  generalize hz:m.Co[p]'(by omega)=i at hci eidx
  obtain ⟨x,b,hx,hb,hk⟩:=hK.past p (by omega)
  have ek:idx zaC (p:Int)=some (if b then vp 8 x else []):=by unfold Go.Sx.idx;rw [if_pos (by omega)];exact hk
  have hnext:w64 ((p:Int)+1)=((p+1:Nat):Int):=by rw [qN (by omega) (by omega)];push_cast;rfl
  have hcons:cons m.Co lv (p+1) n=cons m.Co lv p n++ctr i p n (lv p):=by rw [cons,hci]
  have hl1:=zlt m.Co lv n p
  rw [loop,xf,if_pos (by simp;omega)]
  simp only [ek,zbs,hnext]
  cases b with
  | false=>
   have hn:=hK.none_ p (by omega) hb
   have:ctr i p n (lv p)= []:=by unfold ctr;rw [hn,hn];simp
   rw [hcons,this,List.append_nil] at ihx
   simp only [zfe,if_false]
   rw [if_pos (show ((([]:List zb).length:Int)==0)=true from rfl)]
   exact ihx
  | true=>
   have hlv:=hK.leaves p x (by omega) hb hx
   have gs:=zeq i
   have wd:w64 ((p:Int)+(zF i).1)=(p:Int)+(zF i).1:=qN (by omega) (by omega)
   simp only [if_true,zbD]
   rw [if_neg (by decide)]
   simp only [eidx,zbs,zgM,wd,hlv]
   have h1:(if ((zF i).2.1&&((p:Int)+(zF i).1==(n:Int)))=true then
     (if (match lv p true with | some s=>(vp 8 s,true) | none=>([],false)).2=true then (room (((cons m.Co lv p n).map (vp 8)).length+ [(match lv p true with | some s=>(vp 8 s,true) | none=>(([]:List zb),false)).1].length) 24).bind fun u=>some ((cons m.Co lv p n).map (vp 8)++ [(match lv p true with | some s=>(vp 8 s,true) | none=>(([]:List zb),false)).1]) else some ((cons m.Co lv p n).map (vp 8)))
     else some ((cons m.Co lv p n).map (vp 8)):Option (List (List zb)))=some ((cons m.Co lv p n++(if (zF i).2.1&&((p:Int)+(zF i).1==(n:Int)) then (lv p true).toList else [])).map (vp 8)):=by
    by_cases hc:((zF i).2.1&&((p:Int)+(zF i).1==(n:Int)))=true
    ·rw [if_pos hc,if_pos hc]
     cases hv:lv p true with
     | none=>simp
     | some s=>
      have hroom:room (((cons m.Co lv p n).map (vp 8)).length+ [vp 8 s].length) 24=some ():=by unfold Go.Sx.room;rw [if_pos];simp;omega
      simp only [if_true,hroom,zbs]
      simp
    ·rw [if_neg hc,if_neg hc,List.append_nil]
   rw [h1]
   simp only [zbs]
   have e4:((((p+1:Nat):Int))==(n:Int))=(p+1==n):=by
    by_cases e:p+1=n
    ·subst e;simp
    ·have:(((p+1:Nat):Int)==(n:Int))=false:=by simp;omega
     rw [this];simp [e]
   rw [e4]
   have hcs:cons m.Co lv (p+1) n=cons m.Co lv p n++(if (zF i).2.1&&((p:Int)+(zF i).1==(n:Int)) then (lv p true).toList else [])++(if (zF i).2.2&&(p+1==n) then (lv p false).toList else []):=by
    rw [hcons];unfold ctr;rw [List.append_assoc]
   generalize hA:cons m.Co lv p n++(if (zF i).2.1&&((p:Int)+(zF i).1==(n:Int)) then (lv p true).toList else [])=A at hcs |-
   have hAl:A.length<=2+2*p:=by
    rw [<- hA,List.length_append]
    have:(if ((zF i).2.1&&((p:Int)+(zF i).1==(n:Int)))=true then (lv p true).toList else []).length<=1:=by
     split
     ·cases lv p true<;>simp
     ·simp
    omega
   by_cases hc:((zF i).2.2&&(p+1==n))=true
   ·rw [if_pos hc]
    rw [hcs,if_pos hc] at ihx
    cases hv:lv p false with
    | none=>
     rw [hv] at ihx
     simp only [Option.toList_none,List.append_nil] at ihx
     simp only [zfe,if_false]
     exact ihx
    | some s=>
     rw [hv] at ihx
     have hroom:room ((A.map (vp 8)).length+ [vp 8 s].length) 24=some ():=by unfold Go.Sx.room;rw [if_pos];simp;omega
     simp only [if_true,hroom,zbs]
     simp only [Option.toList_some,List.map_append,List.map_cons,List.map_nil] at ihx
     exact ihx
   ·rw [if_neg hc]
    rw [hcs,if_neg hc,List.append_nil] at ihx
    exact ihx
theorem zoL {fu:Nat} (hf:100<=fu) {m:zg} (hg:zii m.Co) {n:Nat} (hn:n<m.Co.length) {j:zf} {zaC:List (List zb)} {lv:Nat->Bool->Option zfU} (hK:zkD fu m n j zaC lv):
  zaa fu m n zaC=some ((cons m.Co lv n n).map (vp 8)):=by
 have n64:=hg.n64
 have hl:=zl1 hg hn hK n 0 fu (by omega) (by omega)
 unfold zaa
 by_cases h:n=0
 ·subst h
  have e1:mkLen 8 32=some 8:=rfl
  have:(if (((0:Nat):Int)==0)=true then (mkLen 8 32).bind fun m65=>(room (([]:List (List zb)).length+([(List.replicate m65 (zb.mk 0 (zc.mk 0 0) 0))]).length) 24).bind fun u72=>
    some (([]:List (List zb))++ [(List.replicate m65 (zb.mk 0 (zc.mk 0 0) 0))]) else some ([]:List (List zb)))=some ((cons m.Co lv 0 0).map (vp 8)):=rfl
  rw [this,zbs]
  show (loop (xf fu m ((0:Nat):Int) zaC) fu (_,((0:Nat):Int))).bind _=_
  rw [hl];rfl
 ·have e:((n:Int)==0)=false:=by simp;omega
  rw [e]
  have:cons m.Co lv 0 n= []:=by unfold cons;rw [if_neg h]
  rw [this] at hl
  simp only [zfe,if_false,zbs]
  show (loop (xf fu m n zaC) fu (([]:List zfU).map (vp 8),((0:Nat):Int))).bind _=_
  rw [hl];rfl
theorem zsk (cs:List zfU) (hc:cs.length<=200) {r:Nat} (hr:r<8): ∀ (rest:List zfU) (i:Nat) (acc:List zb),cs.drop i=rest->i+rest.length=cs.length->acc.length=i->
  qf (vc (cs.map (vp 8)) r) (fun (s:List zb)=>s) rest.length i acc=some (acc++rest.map (· r)):=by
 intro rest
 induction rest with
 | nil=>intro i acc _ _ _;simp [qf]
 | cons x rest ih=>
  intro i acc hd hl ha
  simp only [List.length_cons] at hl
  have hx:cs[i]? =some x:=by
   have:=congrArg (fun l=>l[0]?) hd
   simpa using this
  have hd2:cs.drop (i+1)=rest:=by
   have:=congrArg (fun l=>l.drop 1) hd
   simpa [List.drop_drop,Nat.add_comm] using this
  have ihx:=ih (i+1) (acc++ [x r]) hd2 (by omega) (by simp;omega)
  show vc (cs.map (vp 8)) r i (qf (vc (cs.map (vp 8)) r) (fun (s:List zb)=>s) rest.length (i+1)) acc=_
  generalize qf (vc (cs.map (vp 8)) r) (fun (s:List zb)=>s) rest.length (i+1)=again at ihx |-
  unfold vc
  have e:idx (cs.map (vp 8)) (i:Int)=some (vp 8 x):=by unfold Go.Sx.idx;rw [if_pos (by omega)];simp [hx]
  have hroom:room (acc.length+ [x r].length) 32=some ():=by unfold Go.Sx.room;rw [if_pos];simp;omega
  simp only [e,zbs,vR x (show (0:Int)<=(r:Int) by omega) (show (r:Int)<(8:Nat) by omega),Int.toNat_natCast,hroom]
  rw [ihx];simp
theorem zsl {n:Nat} {c0:zfU} {rest:List zfU} (hc:rest.length<=190) (hw: ∀ c∈c0::rest,∀ r,r<8->WT n (c r)) {x:zfU} (hx: ∀ r,r<8->x r=(rest.map (· r)).foldl zcR (c0 r)): ∀ (c r:Nat),r+c=8->
  qf (vd ((c0::rest).map (vp 8))) (fun (s:List zb)=>s) c r (vp 8 (fun q=>if q<r then x q else zci))=some (vp 8 x):=by
 intro c
 induction c with
 | zero=>
  intro r hr
  have:r=8:=by omega
  subst this
  exact congrArg some (ziX (fun q hq=>if_pos hq))
 | succ c ih=>
  intro r hr
  have ihx:=ih (r+1) (by omega)
  show vd ((c0::rest).map (vp 8)) r (qf (vd ((c0::rest).map (vp 8))) (fun (s:List zb)=>s) c (r+1)) _=_
  generalize qf (vd ((c0::rest).map (vp 8))) (fun (s:List zb)=>s) c (r+1)=again at ihx |-
  unfold vd
  have e1:=zsk (c0::rest) (by simp;omega) (r:=r) (by omega) (c0::rest) 0 [] rfl (by simp) rfl
  have el:((c0::rest).map (vp 8)).length=(c0::rest).length:=List.length_map _
  rw [el,e1]
  simp only [zbs,List.nil_append,List.map_cons]
  rw [zng (n:=n) (x0:=c0 r) (l:=rest.map (· r)) (fun y hy=> ?_) (by simp;omega)]
  ·simp only [zbs,vR (fun q=>if q<r then x q else zci) (show (0:Int)<=(r:Int) by omega) (show (r:Int)<(8:Nat) by omega),Int.toNat_natCast,zcB]
   rw [<- ihx]
   congr 1
   refine ziX (fun q hq=> ?_)
   unfold zcg
   by_cases h1:q=r
   ·subst h1;rw [if_pos rfl,if_pos (by omega),hx q hq]
   ·rw [if_neg h1]
    show (if q<r then x q else zci)=_
    by_cases h2:q<r
    ·rw [if_pos h2,if_pos (by omega)]
    ·rw [if_neg h2,if_neg (by omega)]
  ·rcases List.mem_cons.1 hy with rfl | hy
   ·exact hw c0 zcs r (by omega)
   ·obtain ⟨c',hc',rfl⟩:=List.mem_map.1 hy
    exact hw c' (zcm _ hc') r (by omega)
theorem zsm {fu:Nat} (hf:100<=fu) {m:zg} (hg:zii m.Co) {n:Nat} (hn:n<m.Co.length) {j:zf} (hJ:JI m j) {zaC:List (List zb)} {lv:Nat->Bool->Option zfU} (hK:zkD fu m n j zaC lv):
  ∃ x b,j.ca[n]? =some x/\j.any[n]? =some b/\zaR fu m n zaC=some (if b then vp 8 (zjg m.Co n x m.Co.length) else []):=by
 have hC:=hK.fut n (Nat.le_refl _) hn
 have hcl:=zlt m.Co lv n n
 have n64:=hg.n64
 have hlen:n<j.ca.length:=by rw [hJ.lenC];exact hn
 unfold zaR
 rw [zoL hf hg hn hK]
 simp only [zbs]
 cases hcs:cons m.Co lv n n with
 | nil=>
  rw [hcs] at hC
  exact ⟨j.ca[n],false,zeg hlen,hC.any,rfl⟩
 | cons c0 rest=>
  rw [hcs] at hC hcl
  obtain ⟨x,hx,hv⟩:=hC.val c0 rest rfl
  refine ⟨x,true,hx,hC.any,?_⟩
  have ne:((((c0::rest).map (vp 8)).length:Int)==0)=false:=by simp;omega
  rw [ne]
  simp only [zfe,if_false,if_true]
  have e1:mkLen 8 32=some 8:=rfl
  rw [e1]
  simp only [zbs]
  have h1:=zsl (n:=m.Ms.length) (by simp at hcl;omega) hC.wt hv 8 0 rfl
  have e0:vp 8 (fun q=>if q<0 then x q else zci)=List.replicate 8 (zb.mk 0 (zc.mk 0 0) 0):=rfl
  rw [e0] at h1
  rw [h1,zbs]
  have h3:=zrQ (n:=m.Ms.length) (fu:=fu) (by omega) hg (p:=n) (hJ.wt n x hx) m.Co.length 0 (by omega)
  have e2:zjg m.Co n x 0=x:=rfl
  rw [e2] at h3
  rw [h3];rfl
theorem zoM {fu:Nat} (hf:100<=fu) {m:zg} (hg:zii m.Co) {n:Nat} (hn:n<m.Co.length) {j:zf} (hU:zop m n j) {zaC:List (List zb)} {lv:Nat->Bool->Option zfU} (hK:zkD fu m n j zaC lv):
  (∃ e,e ≠ 0/\(∀ again,qc 1000 n again j=some (.inr (none,(n:Int),e)))/\ ∀ again,qS fu m n again zaC=some (.inr ([],(n:Int),e)))\/
  ∃ j' s lv',(∀ again,qc 1000 n again j=again j')/\(∀ again,qS fu m n again zaC=again (zaC++ [s]))/\zkD fu m (n+1) j' (zaC++ [s]) lv':=by
 have n64:=hg.n64
 obtain ⟨x,b,hx,hb,hat⟩:=zsm hf hg hn hU.ji hK
 have hroomK: ∀ s:List zb,room (zaC.length+ [s].length) 24=some ():=by
  intro s;unfold Go.Sx.room;rw [if_pos];simp [hK.len];omega
 have hia:idx j.any (n:Int)=some b:=by unfold Go.Sx.idx;rw [if_pos (by omega)];exact hb
 have hci:m.Co[n]? =some m.Co[n]:=zeg hn
 have eidx:idx m.Co (n:Int)=some m.Co[n]:=zgl hn
 generalize hz:m.Co[n]=i at hci eidx
 have hx8:=hU.ji.wt n x hx
 cases b with
 | false=>
  right
  refine ⟨j,[],fun p=>if p=n then (fun _=>none) else lv p,fun again=> ?_,fun again=> ?_,?_⟩
  ·unfold qc
   rw [hia];rfl
  ·unfold qS
   rw [hat]
   simp only [zbs,hroomK,zfe,if_false]
   rfl
  ·refine ⟨by simp [hK.len],fun p hp=> ?_,fun p hp ha b=> ?_,fun p y hp ha hy b=> ?_,fun q hq hql=> ?_⟩
   ·by_cases e:p=n
    ·subst e
     exact ⟨x,false,hx,hb,by rw [List.getElem?_append_right (by rw [hK.len];exact Nat.le_refl _)];simp [hK.len]⟩
    ·obtain ⟨y,c,h1,h2,h3⟩:=hK.past p (by omega)
     exact ⟨y,c,h1,h2,by rw [List.getElem?_append_left (by rw [hK.len];omega)];exact h3⟩
   ·by_cases e:p=n
    ·simp only [e,if_true]
    ·simp only [e,if_false];exact hK.none_ p (by omega) ha b
   ·by_cases e:p=n
    ·subst e;rw [hb] at ha;cases ha
    ·simp only [e,if_false];exact hK.leaves p y (by omega) ha hy b
   ·have hc:=hK.fut q (by omega) hql
    have hsame: ∀ k,k<=n->cons m.Co (fun p=>if p=n then (fun _=>none) else lv p) k q=cons m.Co lv k q:=by
     intro k
     induction k with
     | zero=>intro _;rfl
     | succ k ih=>
      intro hk
      unfold cons
      rw [ih (by omega),if_neg (by omega)]
    have:cons m.Co (fun p=>if p=n then (fun _=>none) else lv p) (n+1) q=cons m.Co lv n q:=by
     rw [cons,hsame n (Nat.le_refl _),hci]
     simp only [if_true]
     have:ctr i n q (fun _=>none)= []:=by unfold ctr;simp
     rw [this,List.append_nil]
    rw [this];exact hc
 | true=>
  have hw:=zpl hU.ji hg hn hx
  generalize hk:zjg m.Co n x m.Co.length=k at hw hat
  have hk8: ∀ r,r<8->WT m.Ms.length (k r):=by rw [<- hk];exact zn1 hx8 _
  have hnc:n<j.ca.length:=by rw [hU.ji.lenC];exact hn
  have hJ1:JI m ⟨j.Module,j.ca.set n k,j.any,j.loops⟩:=hU.ji.put hk8 j.any hU.ji.lenA
  have hk1:(j.ca.set n k)[n]? =some k:=List.getElem?_set_self hnc
  have hhead: ∃ kh:zfU,(∀ r,r<8->WT m.Ms.length (kh r))/\(i.Op=20->idx (j.ca.set n k) (w64 ((n:Int)-i.D))=some kh/\idx (zaC++ [vp 8 k]) (w64 ((n:Int)-i.D))=some (vp 8 kh)):=by
   by_cases h20:i.Op=20
   ·have hlo:=hg.fine.loop hci h20
    obtain ⟨t,ht⟩: ∃ t:Nat,(n:Int)-i.D=(t:Int):=⟨((n:Int)-i.D).toNat,by omega⟩
    have hcl:=hU.clos n n i hb hci h20 (by omega) (Nat.le_refl _)
    rw [ht,Int.toNat_natCast] at hcl
    obtain ⟨y,c,h1,h2,h3⟩:=hK.past t (by omega)
    rw [hcl] at h2
    obtain rfl:=Option.some.inj h2
    refine ⟨y,hU.ji.wt t y h1,fun _=> ?_⟩
    rw [qN (by omega) (by omega),ht]
    constructor
    ·unfold Go.Sx.idx;rw [if_pos (by omega),Int.toNat_natCast,List.getElem?_set_ne (by omega)];exact h1
    ·unfold Go.Sx.idx;rw [if_pos (by omega),Int.toNat_natCast,List.getElem?_append_left (by rw [hK.len];omega)];exact h3
   ·exact ⟨zrx,fun r _=>WT.zero,fun h=>absurd h h20⟩
  obtain ⟨kh,hkh8,hkh⟩:=hhead
  obtain ⟨k',e,hone,hask,hsame,hleave⟩:=zlu (fu:=fu) (by omega) hJ1 hg hn hci hk1 hkh8 (fun h20=>(hkh h20).1)
  have hne:(((vp 8 k).length:Int)==0)=false:=by rw [zbD];rfl
  have hdoc: ∀ again,qS fu m n again zaC=if (e != 0)=true then some (.inr (([]:List (List zb)),(n:Int),e)) else again (zaC++ [vp 8 k]):=by
   intro again
   unfold qS
   rw [hat]
   simp only [zbs,if_true,hroomK,hne,zfe,if_false,eidx]
   by_cases h20:i.Op=20
   ·have b20:(i.Op==20)=true:=by simpa using h20
    have hlo:=hg.fine.loop hci h20
    have hap:apart (w64 ((n:Int)-i.D)) (zaC.length:Int)=some ():=by
     unfold apart
     rw [if_neg]
     rw [qN (by omega) (by omega),hK.len];omega
    simp only [b20,if_true,(hkh h20).2,hap,zbs,hask]
   ·have b20:(i.Op==20)=false:=by simpa using h20
    have hask2:xg m n (vp 8 k) (vp 8 k)=some e:=by
     obtain ⟨k2,e2,hone2,hask2,_,_⟩:=zlu (fu:=fu) (by omega) hJ1 hg hn hci hk1 hk8 (fun h=>absurd h h20)
     rw [hone] at hone2
     obtain ⟨rfl,rfl⟩:=Prod.mk.inj (Option.some.inj hone2)
     exact hask2
    simp only [b20,zfe,if_false,hask2,zbs]
  by_cases he:e=0
  ·right
   subst he
   obtain ⟨r1,hr1,hOne⟩:=zpR hJ1 hg hn
   rw [hone] at hr1
   obtain rfl:=Option.some.inj hr1
   have hk'8:=(hOne rfl).1
   obtain ⟨j',hways,hJ',hcame,hold⟩:=zqh hJ1 hg hn hci hk8 hk'8 hsame
   refine ⟨j',vp 8 k,fun p=>if p=n then ziZ i k k' else lv p,fun again=> ?_,fun again=> ?_,?_⟩
   ·unfold qc
    rw [hia]
    simp only [zbs,Bool.not_true,zfe,if_false,hw,hone,hways]
    rfl
   ·rw [hdoc];rfl
   ·refine ⟨by simp [hK.len],fun p hp=> ?_,fun p hp ha b=> ?_,fun p y hp ha hy b=> ?_,fun q hq hql=> ?_⟩
    ·have ho:=hold p (by omega)
     by_cases e:p=n
     ·subst e
      exact ⟨k,true,ho.1.trans hk1,ho.2.trans hb,by rw [List.getElem?_append_right (by rw [hK.len];exact Nat.le_refl _)];simp [hK.len]⟩
     ·obtain ⟨y,c,h1,h2,h3⟩:=hK.past p (by omega)
      refine ⟨y,c,ho.1.trans ?_,ho.2.trans h2,by rw [List.getElem?_append_left (by rw [hK.len];omega)];exact h3⟩
      show (j.ca.set n k)[p]? =_
      rw [List.getElem?_set_ne (by omega)];exact h1
    ·have ho:=hold p (by omega)
     have ha':j.any[p]? =some false:=ho.2.symm.trans ha
     by_cases e:p=n
     ·subst e;rw [hb] at ha';cases ha'
     ·simp only [e,if_false];exact hK.none_ p (by omega) ha' b
    ·have ho:=hold p (by omega)
     have ha':j.any[p]? =some true:=ho.2.symm.trans ha
     have hy':(j.ca.set n k)[p]? =some y:=ho.1.symm.trans hy
     by_cases e:p=n
     ·subst e
      rw [hk1] at hy'
      obtain rfl:=Option.some.inj hy'
      simp only [if_true]
      have hr:qj i=true:=hg.fine.right hci
      by_cases hj:16<=i.Op/\i.Op<=19
      ·obtain ⟨s,ok,e1,e2⟩:=zkH (fu:=fu) hci hr hk8 hj b
       rw [e2]
       unfold ziZ
       rw [if_pos hj,e1]
       cases ok<;>rfl
      ·rw [hleave rfl b hj,zhq hj]
     ·simp only [e,if_false]
      rw [List.getElem?_set_ne (by omega)] at hy'
      exact hK.leaves p y (by omega) ha' hy' b
    ·have hc:=hK.fut q (by omega) hql
     have hc1:zjC m ⟨j.Module,j.ca.set n k,j.any,j.loops⟩ q (cons m.Co lv n q):=by
      refine ⟨hc.any,hc.wt,fun c rest heq=> ?_⟩
      obtain ⟨y,h1,h2⟩:=hc.val c rest heq
      exact ⟨y,by show (j.ca.set n k)[q]? =_;rw [List.getElem?_set_ne (by omega)];exact h1,h2⟩
     have hc2:=hcame q _ (by omega) hc1
     have hsm: ∀ t,t<=n->cons m.Co (fun p=>if p=n then ziZ i k k' else lv p) t q=cons m.Co lv t q:=by
      intro t
      induction t with
      | zero=>intro _;rfl
      | succ t ih=>
       intro ht
       unfold cons
       rw [ih (by omega),if_neg (by omega)]
     have:cons m.Co (fun p=>if p=n then ziZ i k k' else lv p) (n+1) q=cons m.Co lv n q++ctr i n q (ziZ i k k'):=by
      rw [cons,hsm n (Nat.le_refl _),hci]
      simp only [if_true]
     rw [this];exact hc2
  ·left
   have b0:(e != 0)=true:=by simpa using he
   refine ⟨e,he,fun again=> ?_,fun again=>by rw [hdoc,b0];rfl⟩
   unfold qc
   rw [hia]
   simp only [zbs,Bool.not_true,zfe,if_false,hw,hone,b0,if_true]
theorem zmW {σ ρ:Type} (body:Nat->(σ->Option ρ)->σ->Option ρ) (out:σ->ρ) (n i:Nat) (s:σ):qf body out (n+1) i s=body i (qf body out n (i+1)) s:=rfl
theorem zoN {fu:Nat} (hf:100<=fu) {m:zg} (hg:zii m.Co): ∀ (c n:Nat) (j:zf) (zaC:List (List zb)) (lv:Nat->Bool->Option zfU),n+c=m.Co.length->zop m n j->zkD fu m n j zaC lv->
  (∃ p e,qf (qc 1000) (fun (s:zf)=>(.inl s)) c n j=some (.inr (none,p,e))/\qf (qS fu m) (fun (s:List (List zb))=>(.inl s)) c n zaC=some (.inr ([],p,e)))\/
  ∃ j' k',qf (qc 1000) (fun (s:zf)=>(.inl s)) c n j=some (.inl j')/\qf (qS fu m) (fun (s:List (List zb))=>(.inl s)) c n zaC=some (.inl k'):=by
 intro c
 induction c with
 | zero=>intro n j zaC lv _ _ _;exact .inr ⟨j,zaC,rfl,rfl⟩
 | succ c ih=>
  intro n j zaC lv hn hU hK
  simp only [zmW]
  rcases zoM hf hg (by omega) hU hK with ⟨e,_,h1,h2⟩ | ⟨j',s,lv',h1,h2,hK'⟩
  ·exact .inl ⟨n,e,h1 _,h2 _⟩
  ·have hU':zop m (n+1) j':=by
    have:=zno hU hg (by omega) (fun j=>some (.inl j)) (Q:=fun o=>match o with | .inl j'=>zop m (n+1) j' | .inr _=>True) (fun j' h=>OK.ret h) (fun e _=>trivial)
    obtain ⟨r,hr,hq⟩:=this
    rw [h1] at hr
    obtain rfl:=Option.some.inj hr
    exact hq
   rw [h1,h2]
   exact ih (n+1) j' _ lv' (by omega) hU' hK'
theorem zoO {fu:Nat} (hf:100<=fu) (m:zg): ∃ o zaC p e,xV 1000 m=some (o,p,e)/\xz fu m=some (zaC,p,e):=by
 obtain ⟨b,hb1,hb2⟩:=znR fu m.Ms
 unfold xV xz
 rw [hb1,hb2]
 simp only [zbs]
 cases b with
 | false=>exact ⟨_,_,_,_,rfl,rfl⟩
 | true=>
  simp only [Bool.not_true,zfe,if_false]
  obtain ⟨r,hc1,hc2,hg,_⟩:=zl9 m.Co fu hf
  rw [hc1,hc2]
  simp only [zbs]
  by_cases he:r.2=0
  ·obtain ⟨_,hg⟩:=hg he
   have b0:(r.2 != 0)=false:=by simpa using he
   simp only [b0,zfe,if_false]
   have hJ:=zjZ m
   have n64:=hg.n64
   have n1:=hg.n1
   have e1:mkLen (m.Co.length:Int) 256=some m.Co.length:=by
    unfold mkLen
    rw [if_pos (show 0<=(m.Co.length:Int)/\(m.Co.length:Int).toNat*256<=140737488355328 from ⟨Int.natCast_nonneg _,by rw [Int.toNat_natCast];omega⟩),Int.toNat_natCast]
   have e2:mkLen (m.Co.length:Int) 1=some m.Co.length:=by
    unfold mkLen
    rw [if_pos (show 0<=(m.Co.length:Int)/\(m.Co.length:Int).toNat*1<=140737488355328 from ⟨Int.natCast_nonneg _,by rw [Int.toNat_natCast];omega⟩),Int.toNat_natCast]
   have e3:idx (List.replicate m.Co.length false) 0=some false:=by
    unfold Go.Sx.idx
    rw [if_pos (by omega),show Int.toNat 0=0 from rfl,List.getElem?_replicate,if_pos (by omega)]
   simp only [e1,e2,zbs,zix hg,e3,show Int.toNat 0=0 from rfl]
   have hU:=zrH (m:=m) hg
   have hK:zkD fu m 0 ⟨m,List.replicate m.Co.length (fun _=>zci),(List.replicate m.Co.length false).set 0 true,lps m.Co m.Co.length⟩ [] (fun _ _=>none):=by
    refine ⟨rfl,fun p hp=>by omega,fun p hp=>by omega,fun p x hp=>by omega,fun q _ hq=> ?_⟩
    unfold cons
    by_cases h0:q=0
    ·subst h0
     rw [if_pos rfl]
     refine ⟨?_,fun c hc r _=> ?_,fun c rest heq=> ?_⟩
     ·show ((List.replicate m.Co.length false).set 0 true)[0]? =_
      rw [List.getElem?_set_self (by simp;omega)];rfl
     ·simp only [List.mem_singleton] at hc;subst hc;exact WT.zero
     ·simp only [List.cons.injEq] at heq
      obtain ⟨rfl,rfl⟩:=heq
      exact ⟨fun _=>zci,(by show (List.replicate m.Co.length (fun _=>zci:zfU))[0]? =_;rw [List.getElem?_replicate,if_pos (by omega)]),fun r _=>rfl⟩
    ·rw [if_neg h0]
     refine ⟨?_,fun c hc=>(by cases hc),fun c rest heq=>(by cases heq)⟩
     show ((List.replicate m.Co.length false).set 0 true)[q]? =_
     rw [List.getElem?_set_ne (by omega)];simp [hq]
   rcases zoN hf hg m.Co.length 0 _ _ _ (by omega) hU hK with ⟨p,e,h1,h2⟩ | ⟨j',k',h1,h2⟩
   ·refine ⟨none,[],p,e,?_,?_⟩
    ·show (qf (qc 1000) _ _ _ _).bind _=_
     rw [show (fun _=>zb.mk 0 (zc.mk 0 0) 0:zfU)=(fun _=>zci) from rfl,h1];rfl
    ·rw [h2];rfl
   ·refine ⟨some j',k',0,0,?_,?_⟩
    ·show (qf (qc 1000) _ _ _ _).bind _=_
     rw [show (fun _=>zb.mk 0 (zc.mk 0 0) 0:zfU)=(fun _=>zci) from rfl,h1];rfl
    ·rw [h2];rfl
  ·have b0:(r.2 != 0)=true:=by simpa using he
   simp only [b0,if_true]
   exact ⟨_,_,_,_,rfl,rfl⟩
theorem zmX {fu:Nat} (hf:100<=fu) (m:zg): ∃ zaC p e,xI 1000 m=some (p,e)/\xz fu m=some (zaC,p,e):=by
 obtain ⟨o,zaC,p,e,h1,h2⟩:=zoO hf m
 refine ⟨zaC,p,e,?_,h2⟩
 unfold xI
 rw [h1]
 cases o<;>rfl
end Go.Proofs.YtbmknhpfkpmigaaGreatDoor
namespace Go.Proofs.YtbmknhpfkpmigaaGreatDoor
open Go.Sx
def zrR (b:List Int) (r:Int×Int×Int):Prop:=0<=r.1/\0<=r.2.1/\r.2.1<=b.length
theorem zH {x:Int} (h: -9223372036854775808<=x) (h2:x<9223372036854775808):w64 x=x:=qN h (by omega)
theorem zpW {b:List Int} (hb:b.length<=140737488355328):OK (zeY b) (zrR b):=by
 unfold zeY
 refine OK.bind2 (OK.count (Q:=fun o=>match o with | .inl _=>True | .inr r=>zrR b r) (fun i s=>i<=9/\0<=s) ⟨by omega,by omega⟩ (fun i s again hi hI k=> ?_) (fun s hI=>trivial)) (fun o ho=> ?_)
 ·unfold zfn
  refine OK.getN hi (fun x hx=> ?_) |> OK.bind
  refine OK.ite (fun _=>OK.ret ⟨by simp,by simp,by simp⟩) (fun hc=> ?_)
  have h7:w64 (7*(i:Int))=7*(i:Int):=zH (by omega) (by omega)
  rw [h7,zdJ (by omega)]
  simp only [zbs]
  have hr:=zlK s (zgJ .u64 (jy (zex .u8 x 127)) (7*(i:Int)))
  refine OK.ite (fun hlt=>OK.ret ⟨hr.1,?_,?_⟩) (fun hge=>k _ ⟨?_,hr.1⟩)
  ·simp only
   rw [zH (by omega) (by omega)];omega
  ·simp only
   rw [zH (by omega) (by omega)];omega
  ·
   simp only [Bool.or_eq_false_iff,Bool.and_eq_false_iff,decide_eq_false_iff_not,beq_eq_false_iff_ne,ne_eq] at hc hge
   have:i ≠ 9:=by
    intro e
    subst e
    rcases hc.1 with h | h
    ·exact h rfl
    ·exact hge (by omega)
   omega
 ·cases o with
  | inl _=>exact OK.ret ⟨by simp,by simp,by simp⟩
  | inr r=>exact OK.ret ho
theorem zn2 {b:List Int} (hb:b.length<=140737488355328):OK (zcp b) (fun r=>0<=r.2.1/\r.2.1<=b.length):=by
 unfold zcp
 refine OK.bind2 (zpW hb) (fun r hr=>OK.ret ⟨hr.2.1,hr.2.2⟩)
structure RI (b:List Int) (r:zk):Prop where
 eb:r.b=b
 lo:0<=r.at_
 hi:r.at_<=b.length+1
 ok:r.e=0->r.at_<=b.length
theorem zf1 {b:List Int} {r:zk} (h:RI b r) {e:Int} (he:e ≠ 0):OK (zu r e) (fun r'=>RI b r'/\r'.e ≠ 0):=by
 unfold zu
 refine OK.ite (fun _=>OK.ret ⟨⟨h.eb,h.lo,h.hi,fun e0=>absurd e0 he⟩,he⟩) (fun hn=>OK.ret ⟨h,by simpa using hn⟩)
theorem zpm {b:List Int} (hb:b.length<=140737488355328):OK (qE 1000 ⟨b,0,0,0⟩) (RI b):=by
 unfold qE
 refine OK.bind2 (OK.rounds (Q:=RI b) (RI b) (fun s=>(3-s.at_).toNat) ?_ 1000 _ ⟨rfl,by simp,by simp;omega,fun _=>by simp⟩ (by simp)) (fun _ h=>OK.ret h)
 intro s again h k
 unfold zJ
 refine OK.ite (fun hc=> ?_) (fun _=>OK.ret h)
 simp only [zae,zdq,beq_iff_eq] at hc
 have h1:=h.lo
 have h2:=h.ok hc.2
 have hw:w64 (s.at_+1)=s.at_+1:=zH (by omega) (by omega)
 have hI:RI b ⟨s.b,s.at_,s.at_,s.e⟩:=⟨h.eb,h.lo,h.hi,h.ok⟩
 refine OK.bind2 (R:=fun o=>o.b=b/\o.at_=s.at_/\(o.e=0->s.at_<b.length)) ?_ (fun o ho=> ?_)
 ·refine OK.ite (fun hge=> ?_) (fun hlt=> ?_)
  ·unfold zu
   refine OK.bind2 (R:=fun o=>o.b=b/\o.at_=s.at_/\o.e ≠ 0) (OK.ite (fun _=>OK.ret ⟨h.eb,rfl,show (_:Int) ≠ 0 from (by simp)⟩) (fun hn=>OK.ret ⟨h.eb,rfl,by simpa using hn⟩)) (fun o ho=>OK.ret ⟨ho.1,ho.2.1,fun e=>absurd e ho.2.2⟩)
  ·have hlt':s.at_<b.length:=by
    have e:=h.eb
    simp [e] at hlt
    omega
   refine OK.bind (OK.get h1 (by rw [h.eb];exact hlt') (fun x hx=> ?_))
   have hs: ∃ c,zid (⟨[84,80,1].toArray⟩) s.at_=some c:=by
    have:s.at_=0\/s.at_=1\/s.at_=2:=by omega
    rcases this with e | e | e<;>rw [e]<;>exact ⟨_,rfl⟩
   obtain ⟨c,hs⟩:=hs
   rw [hs]
   simp only [zbs]
   refine OK.ite (fun _=> ?_) (fun _=>OK.ret ⟨h.eb,rfl,fun _=>hlt'⟩)
   unfold zu
   refine OK.bind2 (R:=fun o=>o.b=b/\o.at_=s.at_/\o.e ≠ 0) (OK.ite (fun _=>OK.ret ⟨h.eb,rfl,show (_:Int) ≠ 0 from (by simp)⟩) (fun hn=>OK.ret ⟨h.eb,rfl,by simpa using hn⟩)) (fun o ho=>OK.ret ⟨ho.1,ho.2.1,fun e=>absurd e ho.2.2⟩)
 ·obtain ⟨h3,h4,h5⟩:=ho
  rw [h4,hw]
  exact k _ ⟨h3,by simp;omega,by simp;omega,fun e=>by have:=h5 e;simp;omega⟩ (by simp;omega)
theorem zdL {b:List Int} (hb:b.length<=140737488355328) {r:zk} (h:RI b r) {m e:Int} (h0:0<=m) (hm:m<1000) (he:e ≠ 0):
  OK (zy r m e) (fun p=>RI b p.2/\0<=p.1/\p.1<=m):=by
 unfold zy
 refine OK.ite (fun hc=>OK.ret ⟨h,by simp,by simpa using h0⟩) (fun hc=> ?_)
 have e0:r.e=0:=by simpa using hc
 have h1:=h.lo
 have h2:=h.ok e0
 rw [h.eb]
 have hcut:cut b r.at_ (b.length:Int)=some (b.drop r.at_.toNat):=by
  unfold cut
  rw [if_pos ⟨h1,by omega,by omega⟩]
  simp
 rw [hcut]
 simp only [zbs]
 refine OK.bind2 (zpW (by simp;omega)) (fun g hg=> ?_)
 have hg2:=hg.2.2
 have hg1:=hg.2.1
 simp only [List.length_drop] at hg2
 have hw:w64 (r.at_+g.2.1)=r.at_+g.2.1:=zH (by omega) (by omega)
 rw [hw]
 have hI:RI b ⟨b,r.at_+g.2.1,r.at_,r.e⟩:=⟨rfl,by simp;omega,by simp;omega,fun _=>by simp;omega⟩
 refine OK.ite (fun hbad=> ?_) (fun _=>OK.ite (fun _=> ?_) (fun hle=>OK.ret ⟨hI,?_,?_⟩))
 ·refine OK.bind2 (zf1 hI (by simpa using hbad)) (fun q hq=>OK.ret ⟨hq.1,by simp,by simpa using h0⟩)
 ·refine OK.bind2 (zf1 hI he) (fun q hq=>OK.ret ⟨hq.1,by simp,by simpa using h0⟩)
 ·have:g.1<=m:=by simpa using hle
  rw [zH (by have:=hg.1;omega) (by omega)];exact hg.1
 ·have:g.1<=m:=by simpa using hle
  rw [zH (by have:=hg.1;omega) (by omega)];exact this
theorem zn3 (i:ze):OK (zby [i]) (fun _=>True):=by
 unfold zby
 refine OK.bind2 (OK.count (Q:=fun _=>True) (fun _ _=>True) trivial (fun j s again hj _ k=> ?_) (fun _ _=>trivial)) (fun o _=> ?_)
 ·unfold zcJ
  refine OK.bind (OK.getN hj (fun x hx=> ?_))
  rw [zaD]
  simp only [zbs]
  exact OK.ite (fun _=>OK.ret trivial) (fun _=>k _ trivial)
 ·cases o<;>exact OK.ret trivial
theorem zqY {b:List Int} (hb:b.length<=140737488355328) {r:zk} (h:RI b r):OK (jc r) (fun p=>RI b p.2):=by
 unfold jc
 refine OK.bind2 (zdL hb h (by decide) (by decide) (by decide)) (fun a ha=> ?_)
 refine OK.bind2 (zdL hb ha.1 (by decide) (by decide) (by decide)) (fun c hc=> ?_)
 refine OK.bind2 (zdL hb hc.1 (by decide) (by decide) (by decide)) (fun d hd=> ?_)
 refine OK.bind2 (zdL hb hd.1 (by decide) (by decide) (by decide)) (fun f hf=> ?_)
 have hF:=hf.1
 refine OK.ite (fun _=>OK.ret hF) (fun hc0=> ?_)
 have e0:f.2.e=0:=by simpa using hc0
 have h1:=hF.lo
 have h2:=hF.ok e0
 rw [hF.eb]
 have hcut:cut b f.2.at_ (b.length:Int)=some (b.drop f.2.at_.toNat):=by
  unfold cut
  rw [if_pos ⟨h1,by omega,by omega⟩]
  simp
 rw [hcut]
 simp only [zbs]
 refine OK.bind2 (zn2 (by simp;omega)) (fun g hg=> ?_)
 have hg2:=hg.2
 have hg1:=hg.1
 simp only [List.length_drop] at hg2
 have hw:w64 (f.2.at_+g.2.1)=f.2.at_+g.2.1:=zH (by omega) (by omega)
 rw [hw]
 have hI: ∀ q,RI b ⟨b,f.2.at_+g.2.1,q,f.2.e⟩:=fun q=>⟨rfl,by simp;omega,by simp;omega,fun _=>by simp;omega⟩
 refine OK.ite (fun hbad=> ?_) (fun _=>OK.bind2 (zn3 _) (fun t _=>OK.ite (fun _=> ?_) (fun _=>OK.ret (hI _))))
 ·exact OK.bind2 (zf1 (hI _) (by simpa using hbad)) (fun q hq=>OK.ret hq.1)
 ·exact OK.bind2 (zf1 (hI _) (by decide)) (fun q hq=>OK.ret hq.1)
theorem zn4 {b:List Int} (hb:b.length<=140737488355328):OK (xF 1000 b) (fun r=>r.2.2=0->zhJ r.1.Ms/\r.1.Co.length<=64):=by
 unfold xF
 refine OK.bind2 (zpm hb) (fun r0 h0=> ?_)
 refine OK.bind2 (zdL hb h0 (by decide) (by decide) (by decide)) (fun n hn=> ?_)
 refine OK.bind2 (OK.rounds (Q:=fun o=>RI b o.1/\(∀ x∈o.2,0<=x/\x<4)/\o.2.Nodup/\(o.2.length:Int)<=4)
  (fun s=>RI b s.1/\(∀ x∈s.2.1,0<=x/\x<4)/\s.2.1.Nodup/\s.2.2=s.2.1.length/\s.2.2<=n.1) (fun s=>(n.1-s.2.2).toNat) ?_ 1000 _ ?_ ?_) (fun o ho=> ?_)
 ·intro s again h k
  obtain ⟨h1,h2,h3,h4,h5⟩:=h
  unfold jT
  refine OK.ite (fun hc=> ?_) (fun _=>OK.ret ⟨h1,h2,h3,by simp;omega⟩)
  have hlt:s.2.2<n.1:=by simpa using hc
  refine OK.bind2 (zdL hb h1 (by decide) (by decide) (by decide)) (fun q hq=> ?_)
  rw [zhI]
  simp only [zbs]
  refine OK.bind2 (R:=fun o=>RI b o/\(o.e=0->q.1 ∉ s.2.1)) (OK.ite (fun hct=>OK.bind2 (zf1 hq.1 (by decide)) (fun z hz=>OK.ret ⟨hz.1,fun e=>absurd e hz.2⟩)) (fun hct=>OK.ret ⟨hq.1,fun _=>by simpa using hct⟩)) (fun o ho=> ?_)
  refine OK.ite (fun _=>OK.ret ⟨ho.1,h2,h3,by simp;omega⟩) (fun he=> ?_)
  have hnin:=ho.2 (by simpa using he)
  refine OK.bind (OK.hasRoom (by simp;omega) ?_)
  have hw:w64 (s.2.2+1)=s.2.2+1:=zH (by omega) (by omega)
  rw [hw]
  refine k _ ⟨ho.1,?_,?_,by simp;omega,by simp;omega⟩ (by simp;omega)
  ·intro x hx
   rcases List.mem_append.1 hx with hx | hx
   ·exact h2 x hx
   ·simp at hx;subst hx;exact ⟨hq.2.1,by have:=hq.2.2;omega⟩
  ·simp only
   rw [List.nodup_append]
   refine ⟨h3,by simp,fun a ha c hc e=> ?_⟩
   simp at hc
   subst hc;subst e
   exact hnin ha
 ·exact ⟨hn.1,by simp,by simp,by simp,hn.2.1⟩
 ·have:=hn.2.2;simp;omega
 refine OK.bind2 (zdL hb ho.1 (by decide) (by decide) (by decide)) (fun c hc=> ?_)
 refine OK.bind2 (R:=RI b) (OK.ite (fun _=>OK.bind2 (zf1 hc.1 (by decide)) (fun z hz=>OK.ret hz.1)) (fun _=>OK.ret hc.1)) (fun r2 h2=> ?_)
 refine OK.bind2 (OK.rounds (Q:=fun o=>RI b o.1/\(o.2.length:Int)<=64) (fun s=>RI b s.1/\s.2.2=s.2.1.length/\s.2.2<=c.1) (fun s=>(c.1-s.2.2).toNat) ?_ 1000 _ ?_ ?_) (fun o2 ho2=> ?_)
 ·intro s again h k
  obtain ⟨h1,h3,h4⟩:=h
  have hc2:=hc.2.2
  unfold qF
  refine OK.ite (fun hcc=> ?_) (fun _=>OK.ret ⟨h1,by simp;omega⟩)
  simp only [zae,zdq,beq_iff_eq] at hcc
  refine OK.bind2 (zqY hb h1) (fun q hq=> ?_)
  refine OK.bind (OK.hasRoom (by simp;omega) ?_)
  have hw:w64 (s.2.2+1)=s.2.2+1:=zH (by omega) (by omega)
  rw [hw]
  exact k _ ⟨hq,by simp;omega,by simp;omega⟩ (by simp;omega)
 ·exact ⟨h2,by simp,hc.2.1⟩
 ·have:=hc.2.2;simp;omega
 refine OK.bind2 (R:=fun _=>True) (OK.ite (fun hcc=>OK.bind2 (zf1 (b:=b) (r:=⟨o2.1.b,o2.1.at_,o2.1.at_,o2.1.e⟩) ⟨ho2.1.eb,ho2.1.lo,ho2.1.hi,ho2.1.ok⟩ (e:=13) (by decide)) (fun z hz=>OK.ret trivial)) (fun _=>OK.ret trivial)) (fun r3 _=> ?_)
 refine OK.ite (fun he=>OK.ret (fun h=> ?_)) (fun _=>OK.ret (fun _=>⟨⟨ho.2.1,ho.2.2.1,by have:=ho.2.2.2;simp;omega⟩,by have:=ho2.2;simp;omega⟩))
 exact absurd h (by simpa using he)
end Go.Proofs.YtbmknhpfkpmigaaGreatDoor
namespace Go.Proofs.YtbmknhpfkpmigaaGreatDoor
open Go.Sx
def zhh (k:Int) (ms:List Int):Prop:=ms.Nodup/\ ∀ m∈ms,0<=m/\m<k
theorem zhh.take {k:Int} {ms:List Int} (h:zhh k ms) (i:Nat):zhh k (ms.take i):=
 ⟨h.1.sublist (List.take_sublist _ _),fun m hm=>h.2 m (List.mem_of_mem_take hm)⟩
theorem zgP {k:Int} {ms:List Int} {x:Int} (h:zhh k (ms++ [x])):0<=x/\x<k/\x ∉ ms:=by
 have h2:=h.2 x (by simp)
 have h1:=List.nodup_append.1 h.1
 exact ⟨h2.1,h2.2,fun hx=>h1.2.2 x hx x (by simp) rfl⟩
theorem zcc {ms:List Int} {i:Nat} {x:Int} (h:ms[i]? =some x):ms.take (i+1)=ms.take i++ [x]:=by
 rw [List.take_add_one,h];rfl
theorem znr (p0:zw) (p2:List Int):OK (qf (zct p0 p2) (fun (s:Unit)=>(.inl ())) p2.length 0 ()) (fun o=>match o with | .inl _=>zhh p0.maps p2 | .inr r=>r=(2,p0)/\ ¬ zhh p0.maps p2):=by
 refine OK.count (fun i _=>zhh p0.maps (p2.take i)) ⟨by simp,by simp⟩ ?_ ?_
 ·intro i s again hi h k
  unfold zct
  refine OK.bind (OK.getN hi (fun x hx=> ?_))
  have bad:(zhh p0.maps (p2.take (i+1))->False)->OK (some (Sum.inr (2,p0):Unit ⊕ (Int×zw))) (fun o=>match o with | .inl _=>zhh p0.maps p2 | .inr r=>r=(2,p0)/\ ¬ zhh p0.maps p2):=
   fun hb=>OK.ret ⟨rfl,fun hg=>hb (hg.take _)⟩
  have ts:=zcc hx
  refine OK.bind (OK.ite (fun h1=>OK.ret ?_) (fun h1=>OK.ite (fun h2=>OK.ret ?_) (fun h2=> ?_)))
  ·simp only [if_true]
   refine bad (fun hg=> ?_)
   rw [ts] at hg
   have:=zgP hg
   simp at h1
   omega
  ·simp only [if_true]
   refine bad (fun hg=> ?_)
   rw [ts] at hg
   have:=zgP hg
   simp at h2
   omega
  ·rw [zi4 (by omega)]
   simp only [zbs,zaF]
   refine OK.ret ?_
   simp only [zdq]
   split
   ·rename_i hc
    refine bad (fun hg=> ?_)
    rw [ts] at hg
    exact (zgP hg).2.2 hc
   ·rename_i hc
    refine k _ ?_
    rw [ts]
    simp at h1 h2
    refine ⟨List.nodup_append.2 ⟨h.1,by simp,fun a ha b hb e=> ?_⟩,fun m hm=> ?_⟩
    ·simp at hb;subst hb;subst e;exact hc ha
    ·rcases List.mem_append.1 hm with hm | hm
     ·exact h.2 m hm
     ·simp at hm;subst hm;exact ⟨h1,h2⟩
 ·intro s h
  rw [List.take_length] at h
  exact h
theorem zi8 (xs:List Int) (h:xs.length*8<=140737488355328):jl xs=some xs:=by
 unfold jl room
 rw [if_pos (by simpa using h)]
 rfl
open Classical in
theorem zqy (p0:zw) (p:Int) (ms:List Int) (h:ms.length*8<=140737488355328):
  zbz p0 p ms=some (if zhh p0.maps ms then (if (qO p0.held p).isSome then (42,p0) else (0,⟨p0.maps,mput p0.held p ms⟩)) else (2,p0)):=by
 obtain ⟨o,h1,h2⟩:=znr p0 ms
 unfold zbz
 rw [h1]
 rcases o with u | r
 ·simp only [zbs,if_pos h2]
  by_cases hm:(qO p0.held p).isSome=true
  ·simp only [if_pos hm]
  ·simp only [if_neg hm,zi8 ms h,zbs]
 ·simp only [zbs,if_neg h2.2,h2.1]
theorem zmf (p0:zw) (m:Int) (h:p0.held.length*8<=140737488355328):xX p0 m=some ((holds m p0.held).mergeSort fun x y=>decide (x<=y)):=by
 have hl:(holds m p0.held).length<=p0.held.length:=by
  unfold holds
  rw [List.length_map]
  exact List.length_filter_le _ _
 unfold xX
 rw [zif,if_pos (.inr (by simp only [List.length_nil,Nat.zero_add];omega))]
 unfold qM qA
 simp only [List.nil_append]
 rw [if_pos (by omega)]
 rfl
theorem zo0 (p0:zw) (m:Int) (h:p0.held.length*8<=140737488355328) (h0:0<=m) (h1:m<p0.maps):vi p0 m=some (((holds m p0.held).length:Int),0):=by
 unfold vi
 rw [if_neg (by simp;omega),zmf p0 m h]
 simp [List.length_mergeSort]
def mdels {α:Type} (m:List (Int×α)):List Int->List (Int×α)
 | []=>m
 | p::r=>mdels (mdel m p) r
theorem zgQ {α:Type} (m:List (Int×α)) (l:List Int) (p:Int):mdels m (l++ [p])=mdel (mdels m l) p:=by
 induction l generalizing m with
 | nil=>rfl
 | cons q r ih=>exact ih _
theorem zqz (p0:zw) (ps:List Int):OK (qf (zcu p0 ps) (fun (s:Unit)=>(.inl ())) ps.length 0 ()) (fun o=>match o with | .inl _=>ps.Nodup | .inr r=>r=(2,p0)/\ ¬ ps.Nodup):=by
 refine OK.count (fun i _=>(ps.take i).Nodup) (by simp) ?_ ?_
 ·intro i s again hi h k
  unfold zcu
  refine OK.bind (OK.getN hi (fun x hx=> ?_))
  have ts:=zcc hx
  rw [zi4 (by omega)]
  simp only [zbs,zaF]
  refine OK.ite (fun hc=>OK.ret ⟨rfl,fun hn=> ?_⟩) (fun hc=>k _ ?_)
  ·have:=hn.sublist (List.take_sublist (i+1) ps)
   rw [ts] at this
   exact (List.nodup_append.1 this).2.2 x (by simpa using hc) x (by simp) rfl
  ·rw [ts]
   refine List.nodup_append.2 ⟨h,by simp,fun a ha b hb e=> ?_⟩
   simp at hb
   subst hb;subst e
   simp at hc
   exact hc ha
 ·intro s h
  rw [List.take_length] at h
  exact h
theorem zqA (p0:zw) (ps:List Int):OK (qf (zcv p0 ps) (fun (s:Unit)=>(.inl ())) ps.length 0 ()) (fun o=>match o with | .inl _=> ∀ p∈ps,(qO p0.held p).isSome=true | .inr r=>r=(41,p0)/\ ¬ ∀ p∈ps,(qO p0.held p).isSome=true):=by
 refine OK.count (fun i _=> ∀ p∈ps.take i,(qO p0.held p).isSome=true) (by simp) ?_ ?_
 ·intro i s again hi h k
  unfold zcv
  refine OK.bind (OK.getN hi (fun x hx=> ?_))
  refine OK.ite (fun hc=>OK.ret ⟨rfl,fun hn=> ?_⟩) (fun hc=>k _ ?_)
  ·have:=hn x (zmg hx)
   rw [this] at hc
   cases hc
  ·rw [zcc hx]
   intro p hp
   rcases List.mem_append.1 hp with hp | hp
   ·exact h p hp
   ·simp at hp
    subst hp
    simpa using hc
 ·intro s h
  rw [List.take_length] at h
  exact h
theorem zqB (ps:List Int) (p0:zw):qf (zcw ps) (fun (s:zw)=>s) ps.length 0 p0=some ⟨p0.maps,mdels p0.held ps⟩:=by
 refine OK.is (OK.count (fun i s=>s=⟨p0.maps,mdels p0.held (ps.take i)⟩) rfl ?_ ?_)
 ·rintro i s again hi rfl k
  unfold zcw
  refine OK.bind (OK.getN hi (fun x hx=>k _ ?_))
  rw [zcc hx,zgQ]
 ·rintro s rfl
  rw [List.take_length]
open Classical in
theorem zqC (p0:zw) (ps:List Int):vL p0 ps=some (if ps.Nodup then (if ∀ p∈ps,(qO p0.held p).isSome=true then (0,⟨p0.maps,mdels p0.held ps⟩) else (41,p0)) else (2,p0)):=by
 obtain ⟨o,h1,h2⟩:=zqz p0 ps
 unfold vL
 rw [h1]
 rcases o with u | r
 ·obtain ⟨o,h3,h4⟩:=zqA p0 ps
  simp only [zbs,if_pos h2,h3]
  rcases o with u | r
  ·simp only [zbs,if_pos h4,zqB]
  ·simp only [zbs,if_neg h4.2,h4.1]
 ·simp only [zbs,if_neg h2.2,h2.1]
theorem zhK {α:Type} (m:List (Int×α)) (k:Int) (x:α) (q:Int):qO (mput m k x) q=if k=q then some x else qO m q:=by
 induction m with
 | nil=>simp [mput,qO]
 | cons p m ih=>
  unfold mput
  by_cases h:p.1==k
  ·rw [if_pos h]
   have hk:p.1=k:=by simpa using h
   unfold qO
   simp only
   by_cases e:k=q
   ·simp [e]
   ·have:(p.1==q)=false:=by simp;omega
    simp [e,hk]
  ·rw [if_neg h]
   unfold qO
   have hk:p.1 ≠ k:=by simpa using h
   by_cases e:p.1==q
   ·have:p.1=q:=by simpa using e
    rw [if_pos e,if_pos e,if_neg (by omega)]
   ·rw [if_neg e,if_neg e,ih]
theorem zo1 {α:Type} (m:List (Int×α)) (k:Int):(mdel m k).length<=m.length:=by
 induction m with
 | nil=>simp [mdel]
 | cons p m ih=>
  unfold mdel
  split
  ·simp
  ·simp;omega
theorem zns {α:Type} (ps:List Int) (m:List (Int×α)):(mdels m ps).length<=m.length:=by
 induction ps generalizing m with
 | nil=>exact Nat.le_refl _
 | cons p r ih=>exact Nat.le_trans (ih _) (zo1 _ _)
theorem zo2 {α:Type} (m:List (Int×α)) (k:Int) (x:α):(mput m k x).length<=m.length+1:=by
 induction m with
 | nil=>simp [mput]
 | cons p m ih=>
  unfold mput
  split
  ·simp
  ·simp;omega
def zkt {α:Type} (m:List (Int×α)):Prop:=(m.map (·.1)).Nodup
theorem zj2 {α:Type} {m:List (Int×α)} {k:Int}:qO m k=none↔k ∉ m.map (·.1):=by
 induction m with
 | nil=>simp [qO]
 | cons p m ih=>
  unfold qO
  by_cases h:p.1==k
  ·have:p.1=k:=by simpa using h
   simp [h,this]
  ·have:p.1 ≠ k:=by simpa using h
   rw [if_neg h,ih]
   simp [Ne.symm this]
theorem zi9 {α:Type} {m:List (Int×α)} {k:Int} {x:α} (h:qO m k=none):mput m k x=m++ [(k,x)]:=zdO h
theorem zkt.mput {α:Type} {m:List (Int×α)} (h:zkt m) {k:Int} {x:α} (hn:qO m k=none):zkt (mput m k x):=by
 rw [zi9 hn]
 unfold zkt
 rw [List.map_append]
 refine List.nodup_append.2 ⟨h,by simp,fun a ha b hb e=> ?_⟩
 simp at hb
 subst hb;subst e
 exact zj2.1 hn ha
theorem znt {α:Type} (m:List (Int×α)) (k:Int):(mdel m k).Sublist m:=by
 induction m with
 | nil=>exact List.Sublist.refl _
 | cons p m ih=>
  unfold mdel
  split
  ·exact List.sublist_cons_self _ _
  ·exact ih.cons_cons _
theorem zkt.mdel {α:Type} {m:List (Int×α)} (h:zkt m) (k:Int):zkt (mdel m k):=h.sublist ((znt m k).map _)
theorem znu {α:Type} {m:List (Int×α)} (h:zkt m) (k q:Int):qO (mdel m k) q=if k=q then none else qO m q:=by
 induction m with
 | nil=>simp [Sx.mdel,qO]
 | cons p m ih=>
  have hn:=List.nodup_cons.1 (show (p.1::m.map (·.1)).Nodup from h)
  unfold Sx.mdel
  by_cases e:p.1==k
  ·have e':p.1=k:=by simpa using e
   rw [if_pos e]
   by_cases e2:k=q
   ·rw [if_pos e2]
    subst e2
    exact zj2.2 (by rw [<- e'];exact hn.1)
   ·rw [if_neg e2]
    have:(p.1==q)=false:=by simp;omega
    conv=>rhs;unfold qO
    simp [this]
  ·have e':p.1 ≠ k:=by simpa using e
   rw [if_neg e]
   unfold qO
   by_cases e3:p.1==q
   ·have:p.1=q:=by simpa using e3
    rw [if_pos e3,if_pos e3,if_neg (by omega)]
   ·rw [if_neg e3,if_neg e3]
    exact ih hn.2
end Go.Proofs.YtbmknhpfkpmigaaGreatDoor
namespace Go.Proofs.YtbmknhpfkpmigaaGreatDoor
open Go.Sx
theorem zj3 {α:Type} (m:List (Int×α)) (k:Int) (x:α) (q:Int):qO (zf7 m k x) q=if k=q/\(qO m k).isSome then some x else qO m q:=by
 induction m with
 | nil=>simp [zf7,zcE,qO]
 | cons p m ih=>
  by_cases h:p.1=k
  ·subst h
   have e:zf7 (p::m) p.1 x=(p.1,x)::m:=by simp [zf7,zcE]
   rw [e]
   by_cases h2:p.1=q
   ·subst h2;simp [qO]
   ·simp [qO,h2]
  ·have e:zf7 (p::m) k x=p::zf7 m k x:=by
    unfold zf7
    simp only [zcE,beq_iff_eq,h,if_false]
    cases zcE m k<;>simp
   rw [e]
   simp only [qO,beq_iff_eq,h,if_false]
   rw [ih]
   by_cases h2:p.1=q
   ·have: ¬ k=q:=by omega
    simp [h2,this]
   ·simp [h2]
theorem zlD {α:Type} (m:List (Int×α)) (k:Int) (x:α):(zf7 m k x).map (·.1)=m.map (·.1):=by
 induction m with
 | nil=>simp [zf7,zcE]
 | cons p m ih=>
  by_cases h:p.1=k
  ·subst h;simp [zf7,zcE]
  ·have e:zf7 (p::m) k x=p::zf7 m k x:=by
    unfold zf7
    simp only [zcE,beq_iff_eq,h,if_false]
    cases zcE m k<;>simp
   rw [e]
   simp [ih]
theorem zo3 {α:Type} (m:List (Int×α)) (k:Int) (x:α):(zf7 m k x).length=m.length:=by
 have:=congrArg List.length (zlD m k x)
 simpa using this
theorem znv {α β:Type} (f:α->β) (m:List (Int×α)) (k:Int) (x y:α) (h:qO m k=some y) (hf:f x=f y):(zf7 m k x).map (fun p=>(p.1,f p.2))=m.map (fun p=>(p.1,f p.2)):=by
 induction m with
 | nil=>simp [zf7,zcE]
 | cons p m ih=>
  by_cases hp:p.1=k
  ·subst hp
   simp [qO] at h
   subst h
   simp [zf7,zcE,hf]
  ·have e:zf7 (p::m) k x=p::zf7 m k x:=by
    unfold zf7
    simp only [zcE,beq_iff_eq,hp,if_false]
    cases zcE m k<;>simp
   rw [e]
   simp only [qO,beq_iff_eq,hp,if_false] at h
   simp [ih h]
theorem zo4 {α β:Type} (f:α->β) (m:List (Int×α)) (k:Int):(mdel m k).map (fun p=>(p.1,f p.2))=mdel (m.map (fun p=>(p.1,f p.2))) k:=by
 induction m with
 | nil=>rfl
 | cons p m ih=>
  by_cases h:p.1=k
  ·simp [mdel,h]
  ·simp [mdel,h,ih]
theorem zo5 {α β:Type} (f:α->β) (m:List (Int×α)) (k:Int):qO (m.map (fun p=>(p.1,f p.2))) k=(qO m k).map f:=by
 induction m with
 | nil=>rfl
 | cons p m ih=>
  by_cases h:p.1=k
  ·simp [qO,h]
  ·simp [qO,h,ih]
theorem zo6 {α:Type} {m:List (Int×α)} (h:zkt m) {p:Int×α} (hp:p∈m):qO m p.1=some p.2:=by
 induction m with
 | nil=>cases hp
 | cons q m ih=>
  have hk:q.1 ∉ m.map (·.1)/\zkt m:=by
   have:=List.nodup_cons.1 (show ((q::m).map (·.1)).Nodup from h)
   exact this
  rcases List.mem_cons.1 hp with rfl | hp
  ·simp [qO]
  ·have: ¬ q.1=p.1:=fun e=>hk.1 (by rw [e];exact List.mem_map_of_mem hp)
   simp [qO,this,ih hk.2 hp]
theorem zlE {α:Type} {m:List (Int×α)} {k:Int} {x:α} (h:qO m k=some x):(k,x)∈m:=by
 obtain ⟨j,_,h2⟩:=zce h
 exact zmg h2
structure zeQ (H M W:Nat) (n:Nat) (r:za):Prop where
 hooks:r.hooks=H
 hl:r.Table.hooks.length=H
 maps:r.maps=M
 rmaps:r.Refs.maps=M
 wk:r.Clock.in_.length=W
 small:H<=4/\M<=4/\W<=4
 bound:n<=1000
 given0:0<=r.given
 given:r.given<=n
 last0:0<=r.Table.Versions.last
 last:r.Table.Versions.last<=n
 now1:1<=r.Clock.now
 now:r.Clock.now<=n+1
 cin: ∀ e∈r.Clock.in_,0<=e/\e<=r.Clock.now
 keys:zkt r.progs
 len:r.progs.length<=16
 prog: ∀ p x,qO r.progs p=some x->1<=p/\p<=r.given/\zhJ x.mo.Ms/\(∀ m∈x.mo.Ms,m<M)/\x.mo.Co.length<=64/\0<=x.retiring/\x.retiring<=r.Clock.now
 held:r.Refs.held=r.progs.map (fun p=>(p.1,p.2.mo.Ms))
 wnd:r.waiting.Nodup
 wait: ∀ p,p∈r.waiting↔ ∃ x,qO r.progs p=some x/\0<x.retiring
theorem zeQ.mono {H M W n n':Nat} {r:za} (h:zeQ H M W n r) (hn:n<=n') (hb:n'<=1000):zeQ H M W n' r:=
 {h with bound:=hb,given:=by have:=h.given;omega,last:=by have:=h.last;omega,now:=by have:=h.now;omega}
theorem zeQ.wlen {H M W n:Nat} {r:za} (h:zeQ H M W n r):r.waiting.length<=r.progs.length:=by
 have hsub:r.waiting ⊆ r.progs.map (·.1):=fun p hp=>by
  obtain ⟨x,hx,_⟩:=(h.wait p).1 hp
  exact List.mem_map_of_mem (f:=fun (q:Int×zr)=>q.1) (zlE hx)
 have:=List.Nodup.length_le_of_subset h.wnd hsub
 simpa using this
theorem zrI {H M W:Nat} (hH:1<=H) (hH4:H<=4) (hM:M<=4) (hW:1<=W) (hW4:W<=4): ∃ r,qy H M W=some (some r,0)/\zeQ H M W 0 r/\r.given=0/\r.Table.Versions.last=0/\r.progs= []/\r.waiting= []/\r.Clock.in_=List.replicate W 0:=by
 have h1:zcI H=some (some ⟨⟨0⟩,List.replicate H ⟨0,0⟩⟩,0):=by
  unfold zcI
  rw [if_neg (by simp;omega)]
  have:mkLen (H:Int) 16=some H:=by unfold mkLen;rw [if_pos ⟨by omega,by simp;omega⟩];simp
  simp [this]
 have h2:zc8 M=some (some ⟨M,[]⟩,0):=by
  unfold zc8
  rw [if_neg (by simp;omega)]
 have h3:za4 W=some (some ⟨1,List.replicate W 0⟩,0):=by
  unfold za4
  rw [if_neg (by simp;omega)]
  have:mkLen (W:Int) 8=some W:=by unfold mkLen;rw [if_pos ⟨by omega,by simp;omega⟩];simp
  simp [this]
 refine ⟨_,by unfold qy;rw [h1,h2,h3];rfl,?_,rfl,rfl,rfl,rfl,rfl⟩
 exact {hooks:=rfl,hl:=by simp,maps:=rfl,rmaps:=rfl,wk:=by simp,small:=⟨hH4,hM,hW4⟩,bound:=by omega,given0:=by simp,given:=by simp,last0:=by simp,last:=by simp,now1:=by simp,now:=by simp,cin:=fun e he=>by simp at he;simp [he.2],keys:=List.nodup_nil,len:=by simp,prog:=fun p x hx=>by simp [qO] at hx,held:=rfl,wnd:=List.nodup_nil,wait:=fun p=>by simp [qO]}
theorem znw {h m w:Int} (hb: ¬ (1<=h/\h<=4/\0<=m/\m<=4/\1<=w/\w<=4)):qy h m w=some (none,2):=by
 unfold qy zcI zc8 za4
 by_cases h1:1<=h/\h<=4
 ·have e1:mkLen h 16=some h.toNat:=by unfold mkLen;rw [if_pos ⟨by omega,by omega⟩]
  rw [if_neg (by simp;omega),e1]
  by_cases h2:0<=m/\m<=4
  ·rw [if_neg (by simp;omega)]
   rw [if_pos (by simp;omega)]
   rfl
  ·rw [if_pos (by simp;omega)]
   by_cases h3:1<=w/\w<=4
   ·have e3:mkLen w 8=some w.toNat:=by unfold mkLen;rw [if_pos ⟨by omega,by omega⟩]
    rw [if_neg (by simp;omega),e3]
    rfl
   ·rw [if_pos (by simp;omega)]
    rfl
 ·rw [if_pos (by simp;omega)]
  by_cases h2:0<=m/\m<=4
  ·rw [if_neg (by simp;omega)]
   by_cases h3:1<=w/\w<=4
   ·have e3:mkLen w 8=some w.toNat:=by unfold mkLen;rw [if_pos ⟨by omega,by omega⟩]
    rw [if_neg (by simp;omega),e3]
    rfl
   ·rw [if_pos (by simp;omega)]
    rfl
  ·rw [if_pos (by simp;omega)]
   by_cases h3:1<=w/\w<=4
   ·have e3:mkLen w 8=some w.toNat:=by unfold mkLen;rw [if_pos ⟨by omega,by omega⟩]
    rw [if_neg (by simp;omega),e3]
    rfl
   ·rw [if_pos (by simp;omega)]
    rfl
end Go.Proofs.YtbmknhpfkpmigaaGreatDoor
