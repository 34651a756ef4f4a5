/- Texts Hole, Elem, Eng7, Eng8, Eng9, Sh, Str, StrB, EngS, Wk of this proof. -/
import Derived.Test.YtbmknhpfkpmigaaGreatDoorEng4
import Derived.Shelf.Small.Bits
import Derived.Shelf.Small.Wraps
import Derived.Shelf.Strconv.Itoa0
import Derived.Shelf.Sort.Plain
import Derived.Shelf.Bits.Mul64
import Derived.Shelf.Slices.Turned
import Derived.Ground.Names2Prog
import Derived.Shelf.Slices.Clone
import Derived.Shelf.Slices.SearchI
import Derived.Shelf.Slices.In.SortNone
import Derived.Ground.SlgnProg
import Derived.Shelf.SlicesE.Clone
import Derived.Test.YtbmknhpfkpmigaaGreatDoorProg
import Derived.Below
import Derived.Deep.Draws
import Derived.Sort.Grow
import Derived.Lib.FrozenHead
import Derived.Lib.OthersKept
import Derived.Lib.Join
import Derived.Lib.ItoaNum
import Derived.Lib.LaidTab
import Derived.Lib.Split
import Derived.Lib.IndexMore
import Derived.Lib.ParseIntB
import Derived.Lib.SplitLaws
import Derived.Lib.ConvBytes
import Derived.Lib.AtoiErrMem
import Derived.Stop.IfaceNil
import Derived.Lib.AppendStr
import Derived.Laws.BytesArg
set_option linter.unusedVariables false
set_option linter.unusedSimpArgs false
namespace Go.Sx
open Go.RowKit
section
variable {α:Type} {w w':World} {T:TypeId} {R:Rp α} {v:Value} {S:List Nat} {xs:List α} {ho:Option (Nat×List Value)} {css:List (List Value)} {Ss:List (List Nat)}
theorem zhk.appH {v':Value} {v2:Value} {S2:List Nat} {ys:List α} {css2:List (List Value)} {Ss2:List (List Nat)} {t:Nat} {cs0:List Value} (h:zhk w T R v S xs none css Ss) (h2:zhk w T R v2 S2 ys (some (t,cs0)) css2 Ss2) (hd: ∀ b∈S,b ∉ S2)
  (hw: ∀ b∈Ss.flatten++Ss2.flatten,w'.heap[b]? =w.heap[b]?) (hat:zbd v'=zbd v\/zbd v'=some w.heap.size) (hrow:zdn w' T R.sz v' (xs.length+ys.length) (vy (fit R.sz) css++vy (fit R.sz) css2)):
  zhk w' T R v' ((zbd v').toList++(Ss++Ss2).flatten) (xs++ys) (some (xs.length+t,cs0)) (css++css2) (Ss++Ss2):=by
 have hn:=h.nd
 rw [h.hS] at hn
 obtain ⟨n1,n2,n3⟩:=List.nodup_append.1 hn
 have hn2:=h2.nd
 rw [h2.hS] at hn2
 obtain ⟨m1,m2,m3⟩:=List.nodup_append.1 hn2
 have lc:=h.lc
 have ls:=h.ls
 have lc2:=h2.lc
 have ls2:=h2.ls
 refine ⟨by rw [zf3,List.length_append];exact hrow,by simp;omega,by simp;omega,rfl,?_,(fun t' cs' e=> ?_),fun i c S' z gho g2 g3 g4=> ?_⟩
 ·rw [List.flatten_append]
  refine List.nodup_append.2 ⟨zb1,List.nodup_append.2 ⟨n2,m2,fun a ha b hb e=> ?_⟩,fun a ha b hb e=> ?_⟩
  ·subst e;exact hd a (by rw [h.hS];exact zar _ ha) (by rw [h2.hS];exact zar _ hb)
  ·subst e
   rcases hat with hat | hat
   ·rw [hat] at ha
    rcases List.mem_append.1 hb with hb | hb
    ·exact n3 a ha a hb rfl
    ·exact hd a (by rw [h.hS];exact zal _ ha) (by rw [h2.hS];exact zar _ hb)
   ·rw [hat] at ha
    simp at ha
    have hlt:a<w.heap.size:=by
     rcases List.mem_append.1 hb with hb | hb
     ·exact h.lt a (by rw [h.hS];exact zar _ hb)
     ·exact h2.lt a (by rw [h2.hS];exact zar _ hb)
    omega
 ·simp only [Option.some.injEq,Prod.mk.injEq] at e
  obtain ⟨rfl,rfl⟩:=e
  obtain ⟨q1,q2,q3⟩:=h2.out t cs0 rfl
  refine ⟨q1,?_,?_⟩
  ·rw [List.getElem?_append_right (by omega),show xs.length+t-css.length=t by omega];exact q2
  ·rw [List.getElem?_append_right (by omega),show xs.length+t-Ss.length=t by omega];exact q3
 ·rcases xa g2 with ⟨l1,g2⟩ | ⟨l1,g2⟩
  ·rcases xa g3 with ⟨l2,g3⟩ | ⟨l2,g3⟩
   ·rcases xa g4 with ⟨l3,g4⟩ | ⟨l3,g4⟩
    ·exact R.loc w w' c S' z (fun b hb=>hw b (zal _ (List.mem_flatten.2 ⟨S',zmg g3,hb⟩))) (h.own i c S' z (by simp) g2 g3 g4)
    ·omega
   ·omega
  ·rcases xa g3 with ⟨l2,g3⟩ | ⟨l2,g3⟩
   ·omega
   ·rcases xa g4 with ⟨l3,g4⟩ | ⟨l3,g4⟩
    ·omega
    ·rw [show i-Ss.length=i-css.length by omega] at g3
     rw [show i-xs.length=i-css.length by omega] at g4
     exact R.loc w w' c S' z (fun b hb=>hw b (zar _ (List.mem_flatten.2 ⟨S',zmg g3,hb⟩))) (h2.own (i-css.length) c S' z (fun c' e=>by simp only [Option.some.injEq,Prod.mk.injEq] at e;exact gho cs0 (by rw [e.1,show xs.length+(i-css.length)=i by omega])) g2 g3 g4)
end
section
variable {P:Program} {N:Nat} {Q:Exit->Act->World->Prop} {fr fr':List (Nat×Value)} {w w0:World} {l:List Oper} {i:Nat} {o:Oper} {S0:List Nat} {L:List zz} {α:Type} {R:Rp α}
theorem OW.appNH {d t e:Nat} {x y:Operand} {ty:TypeId} {pos:String} {af:Array Edge} {gdd:Option (Nat×Bool)} {ats:List Nat} (hst:St w0 S0 w L) (k j:Nat) (hkj:Nat.beq k j=false) {v v2:Value} {S S2:List Nat} {xs ys:List α} {bytes:Nat} {t0:Nat} {cs0:List Value}
  (hk:L[k]? =some (nI e R v S xs none)) (hj:L[j]? =some (nI e R v2 S2 ys (some (t0,cs0)))) (hcs0:zec cs0=true)
  (hl:vg l i=some ⟨some d,.call ⟨.builtin .append,[x,y].toArray,ats.toArray⟩,ty,pos,af,gdd⟩) (ha:ats= [t,t]) (hg:gd l fr ⟨some d,.call ⟨.builtin .append,[x,y].toArray,ats.toArray⟩,ty,pos,af,gdd⟩=some true)
  (hN:Nat.blt d N=true) (hx:look fr x=some v) (hy:look fr y=some v2) (ht:P.underlying t=some (.slice e)) (hel:zmN P e R.sz bytes) (hb:(xs.length+ys.length)*bytes<=140737488355328) (hone: ∀ w cs S x,R.own w cs S x->zec cs=true)
  (h: ∀ v' S' w',St w0 S0 w' ((L.set k (nI e R v' S' (xs++ys) (some (xs.length+t0,cs0)))).set j nilI)->OW P l N Q (i+1) ((d,v')::fr) w'):OW P l N Q i fr w:=by
 subst ha
 obtain ⟨css,Ss,hr⟩:=hst.all k _ hk
 obtain ⟨css2,Ss2,hr2⟩:=hst.all j _ hj
 have hdis: ∀ b∈S,b ∉ S2:=hst.apart k j _ _ (Nat.ne_of_beq_eq_false hkj) hk hj
 obtain ⟨inf,z,hi,hz,hsz,hby,hzs⟩:=hel.info
 have exec: ∀ {v':Value} {w':World},(Builtin.append_ #[t,t] ty #[v,v2]).run P w= .ok v' w'-> ∀ a,Rep N fr a->
   (execOp a.eval ⟨some d,.call ⟨.builtin .append,[x,y].toArray,[t,t].toArray⟩,ty,pos,af,gdd⟩).run P w= .ok (.value v') w':=by
  intro v' w' hr a ha
  have e1:=ha.look hx
  have e2:=ha.look hy
  simp [execOp,resolve,invoke,builtin,e1,e2,hr]
 have hlk:k<L.length:=(zes.1 hk).1
 have key: ∀ {v':Value} {w':World},(Builtin.append_ #[t,t] ty #[v,v2]).run P w= .ok v' w'->w.grownBy w' (zbd v)->(zbd v'=zbd v\/zbd v'=some w.heap.size)->zdn w' e R.sz v' (xs.length+ys.length) (vy (fit R.sz) css++vy (fit R.sz) css2)->OW P l N Q i fr w:=by
  intro v' w' hrun hgr hat hown
  have hn:=hr.nd
  rw [hr.hS] at hn
  have hn3:=(List.nodup_append.1 hn).2.2
  have hchg:Chg (zbd v).toList w w':=Chg.grown hgr (fun b hb=>by simp [hb])
  have happ:=hr.appH (w':=w') hr2 hdis (fun b hb=>hchg.block b (by
   rcases List.mem_append.1 hb with hb | hb
   ·exact hr.lt b (by rw [hr.hS];exact zar _ hb)
   ·exact hr2.lt b (by rw [hr2.hS];exact zar _ hb)) (fun hv=>by
   rcases List.mem_append.1 hb with hb | hb
   ·exact hn3 b hv b hb rfl
   ·exact hdis b (by rw [hr.hS];exact zal _ hv) (by rw [hr2.hS];exact zar _ hb))) hat hown
  refine OW.op hl hg rfl hN (exec hrun) (h v' ((zbd v').toList++(Ss++Ss2).flatten) w' ?_)
  have hsub: ∀ b∈(zbd v).toList++(Ss++Ss2).flatten,b∈S\/b∈S2:=fun b hb=>by
   rw [List.flatten_append] at hb
   rcases List.mem_append.1 hb with hb | hb
   ·exact .inl (by rw [hr.hS];exact zal _ hb)
   ·rcases List.mem_append.1 hb with hb | hb
    ·exact .inl (by rw [hr.hS];exact zar _ hb)
    ·exact .inr (by rw [hr2.hS];exact zar _ hb)
  have hnd:((zbd v).toList++(Ss++Ss2).flatten).Nodup:=by
   have hn2:=hr2.nd
   rw [hr2.hS] at hn2
   have m:=List.nodup_append.1 hn2
   have n:=List.nodup_append.1 hn
   rw [List.flatten_append]
   refine List.nodup_append.2 ⟨n.1,List.nodup_append.2 ⟨n.2.1,m.2.1,fun a ha b hb e=>by subst e;exact hdis a (by rw [hr.hS];exact zar _ ha) (by rw [hr2.hS];exact zar _ hb)⟩,fun a ha b hb e=> ?_⟩
   subst e
   rcases List.mem_append.1 hb with hb | hb
   ·exact hn3 a ha a hb rfl
   ·exact hdis a (by rw [hr.hS];exact zal _ ha) (by rw [hr2.hS];exact zar _ hb)
  let A:zz:=⟨(zbd v).toList++(Ss++Ss2).flatten,fun w1=> ∀ b∈(zbd v).toList++(Ss++Ss2).flatten,b<w1.heap.size,fun w1 w2 hb hh b hb2=>by
   have h1:=hh b hb2
   have h2:=hb b hb2
   rw [Array.getElem?_eq_getElem h1] at h2
   exact (Array.getElem?_eq_some_iff.1 h2).1,fun w1 hh=>hh⟩
  have hA:St w0 S0 w ((L.set k A).set j nilI):=hst.fuse k j hkj hk hj (C:=A) (fun b hb=>by
   rcases hsub b hb with hb | hb
   ·exact hr.lt b hb
   ·exact hr2.lt b hb) hnd hsub
  have hkA:((L.set k A).set j nilI)[k]? =some A:=by
   rw [List.getElem?_set_ne (fun e=>Nat.ne_of_beq_eq_false hkj e.symm),List.getElem?_set_self hlk]
  have:=hA.upd k hkA (it':=nI e R v' ((zbd v').toList++(Ss++Ss2).flatten) (xs++ys) (some (xs.length+t0,cs0))) (hchg.mono (fun b hb=>zal _ hb)) ⟨_,_,happ⟩ (fun b hb=>by
   rcases List.mem_append.1 hb with hb | hb
   ·rcases hat with hat | hat
    ·exact .inl (zal _ (by rw [<- hat];exact hb))
    ·rw [hat] at hb;simp at hb;exact .inr (by omega)
   ·exact .inl (zar _ hb)) happ.nd
  rw [List.set_comm _ _ (fun e=>Nat.ne_of_beq_eq_false hkj e.symm),List.set_set] at this
  exact this
 have hlim:=(hst.nlen k hk).1
 have hrow2:Rd w [] v2 (fit R.sz) R.sz css2:=by
  have hrow:=hr2.row
  rw [<- hr2.lc] at hrow
  exact zdM (fun x=>zaj _ x) hrow (by simp)
 obtain ⟨hn2,a2,c2,hv2,_,hc2⟩:=hrow2
 have hlc2:=hr2.lc
 rcases Nat.eq_zero_or_pos ys.length with h0 | h0
 ·have hys:ys= []:=List.eq_nil_of_length_eq_zero h0
  have hcs:css2= []:=List.eq_nil_of_length_eq_zero (by omega)
  refine key (v':=v) (w':=w) ?_ ⟨rfl,rfl,rfl,Nat.le_refl _,fun _ _ _=>rfl⟩ (.inl rfl) ?_
  ·rw [hv2,hcs]
   exact zdN ht hel.size hr.row a2 c2
  ·rw [hcs,hys]
   simpa [vy] using hr.row
 ·obtain ⟨c0,hc0⟩: ∃ c0,css2[0]? =some c0:=⟨css2[0]'(by omega),zeg (by omega)⟩
  obtain ⟨u0,hu0⟩: ∃ u0,(fit R.sz c0)[0]? =some u0:=⟨(fit R.sz c0)[0]'(by rw [zaj];exact hel.pos),zeg (by rw [zaj];exact hel.pos)⟩
  obtain ⟨b,q,rfl,_,_⟩:=hc2 0 c0 0 u0 hc0 hu0
  have hcell: ∀ q' u,(vy (fit R.sz) css2)[q']? =some u->w.cell? ((⟨b,q,none⟩:Addr).add q')=some u:=by
   intro q' u hu
   rw [zcD]
   obtain ⟨t,f,x,hx,hf,hq⟩:=zew (fun x=>zaj R.sz x) hel.pos hu
   obtain ⟨b',k',hb',_,hcell⟩:=hc2 t x f u hx hf
   simp only [Option.some.injEq,Addr.mk.injEq,and_true] at hb'
   obtain ⟨rfl,rfl⟩:=hb'
   rw [hq,<- Nat.add_assoc]
   exact hcell
  have hones: ∀ u∈vy (fit R.sz) css2,u.oneCell'=true:=by
   intro u hu
   obtain ⟨q',hq',rfl⟩:=List.mem_iff_getElem.1 hu
   obtain ⟨t,f,c,hx,hf,_⟩:=zew (fun x=>zaj R.sz x) hel.pos (zeg hq')
   have ht:=(zes.1 hx).1
   have l1:t<Ss2.length:=by rw [hr2.ls];omega
   have l2:t<ys.length:=by omega
   by_cases e0:t0=t
   ·subst e0
    obtain ⟨q1,q2,_⟩:=hr2.out t0 cs0 rfl
    rw [q2] at hx
    cases hx
    rw [zhd q1] at hf
    exact zdc hcs0 _ (zmg hf)
   have hown:=hr2.own t c Ss2[t] ys[t] (fun c' e=>e0 (by simp only [Option.some.injEq,Prod.mk.injEq] at e;exact e.1)) hx (zeg l1) (zeg l2)
   rw [zhd (R.len _ _ _ _ hown)] at hf
   exact zdc (hone _ _ _ _ hown) _ (zmg hf)
  obtain ⟨v',w',hrun,hown,hgr,hat⟩:=zla (P:=P) w t ty e inf z R.sz bytes ht hi hz hsz hby hzs v xs.length (vy (fit R.sz) css) hr.row ⟨b,q,none⟩ ys.length c2 h0 (vy (fit R.sz) css2) (by rw [jZ (fun x=>zaj R.sz x),hlc2]) hcell hones
   (by have:=Nat.le_mul_of_pos_right (xs.length+ys.length) hel.bpos;simp only [maxLen];omega) hb
  refine key ?_ hgr hat hown
  rw [hv2,hlc2]
  exact hrun
theorem St.nOneH {T:TypeId} {v:Value} {sz:Nat} {cs:List Value} (h:St w0 S0 w L) (k:Nat) (R:Rp α) (x:α) (hs:sz=R.sz) (hk:L[k]? =some (zZ v T (fit sz) sz [cs])) (hl:cs.length=R.sz):St w0 S0 w (L.set k (nI T R v (zbd v).toList [x] (some (0,cs)))):=by
 subst hs
 have hrow:=h.all k _ hk
 refine h.turn k hk ⟨[cs],[[]],⟨hrow,rfl,rfl,by simp,zb1,fun t c e=> ?_,fun i c S' z hho hc hS hz=> ?_⟩⟩ rfl
 ·simp only [Option.some.injEq,Prod.mk.injEq] at e
  obtain ⟨rfl,rfl⟩:=e
  exact ⟨hl,rfl,rfl⟩
 ·cases i with
  | zero=>exact absurd (by simp at hc;rw [hc]) (hho cs)
  | succ i=>simp at hc
theorem zgj (xs:List α) (x:α):Sx.idx (xs++ [x]) ((xs.length:Nat):Int)=some x:=by
 unfold Sx.idx
 rw [if_pos (by omega),Int.toNat_natCast,List.getElem?_append_right (by omega)]
 simp
end
def apart (a b:Int):Option Unit:=if a.toNat=b.toNat then none else some ()
theorem zoJ {a b:Int} {u:Unit} (h:apart a b=some u):a.toNat ≠ b.toNat:=by
 unfold apart at h
 split at h
 ·cases h
 ·assumption
section
variable {w w0:World} {S0:List Nat} {L:List zz} {β:Type}
theorem St.nview {T e:TypeId} {enc:β->List Value} {sz:Nat} {he: ∀ x,(enc x).length=sz} {hp:0<sz} {S:List Nat} {xs:List (List β)} {ho:Option (Nat×List Value)} {hd:Value} (h:St w0 S0 w L) (j:Nat)
  (hj:L[j]? =some (nI T (zhc e enc sz he hp) hd S xs ho)) {q:Int} {x:List β} (hx:Sx.idx xs q=some x) (hne: ∀ t c,ho=some (t,c)->q.toNat ≠ t) {g o n cap:Nat} (hv:hd= .slice (some ⟨g,o,none⟩) n cap):
  ∃ v,w.cell? ⟨g,o+q.toNat*1,none⟩=some v/\ ∀ F,(∀ b∈S,b ∉ F)->Rd w F v enc sz x:=by
 obtain ⟨css,Ss,hr⟩:=h.all j _ hj
 have hx2:=(qB hx).2.2
 have hl:=(zes.1 hx2).1
 have a1:q.toNat<css.length:=by rw [hr.lc];exact hl
 have a2:q.toNat<Ss.length:=by rw [hr.ls];exact hl
 have hown:=hr.own q.toNat css[q.toNat] Ss[q.toNat] x (fun c e=>hne _ _ e rfl) (zeg a1) (zeg a2) hx2
 obtain ⟨v,hc,hS,hrow⟩:=hown
 refine ⟨v,?_,fun F hF=> ?_⟩
 ·have:=hr.cells (zeg a1) (by rw [hc];rfl) hv 0 v (by rw [hc];rfl)
  exact this
 ·refine zdM he hrow (fun b hb=>hF b ?_)
  rw [hr.hS]
  exact zar _ (List.mem_flatten.2 ⟨Ss[q.toNat],List.getElem_mem a2,by rw [hS];exact hb⟩)
end
end Go.Sx
namespace Go.Sx
open Go.RowKit
section
variable {P:Program} {N:Nat} {Q:Exit->Act->World->Prop} {fr fr':List (Nat×Value)} {w w0:World} {l:List Oper} {i:Nat} {o:Oper} {S0:List Nat} {L:List zz} {α:Type} {R:Rp α}
theorem zlX {xs ys:List Value} {k:Nat} (h:k+ys.length<=xs.length):(qk xs ys k).length=xs.length:=by
 simp [qk];omega
theorem OW.stH {t:TypeId} {x y:Operand} {ty:TypeId} {pos:String} {af:Array Edge} {gdd:Option (Nat×Bool)} (hst:St w0 S0 w L) (k:Nat) {hd:Value} {g o cap n:Nat} {T:TypeId} {S:List Nat} {xs:List α} {cs:List Value} {q:Int}
  (hk:L[k]? =some (nI T R hd S xs (some (q.toNat,cs)))) (hv:hd= .slice (some ⟨g,o,none⟩) n cap)
  (hl:vg l i=some ⟨none,.store t x y,ty,pos,af,gdd⟩) (hg:gd l fr ⟨none,.store t x y,ty,pos,af,gdd⟩=some true)
  {v:Value} {a:Nat} (f:Nat) (hx:look fr x=some (.pointer (some ⟨g,a,none⟩))) (ha:a=o+q.toNat*R.sz+f) (hy:look fr y=some v)
  (hs:zbw P (sizeOf t)=some v.cells.toList.length) (h1:zec v.cells.toList=true) (cs':List Value) (hfit:Nat.ble (f+v.cells.toList.length) cs.length=true) (hc:qk cs v.cells.toList f=cs')
  (h: ∀ w',St w0 S0 w' (L.set k (nI T R hd S xs (some (q.toNat,cs'))))->OW P l N Q (i+1) fr w'):OW P l N Q i fr w:=by
 obtain ⟨css,Ss,hr⟩:=hst.all k _ hk
 obtain ⟨o1,o2,o3⟩:=hr.out _ _ rfl
 have hfit:=Nat.le_of_ble_eq_true hfit
 have hlen':cs'.length=R.sz:=by rw [<- hc,zlX hfit,o1]
 have hrow:zdn w T R.sz hd css.length (vy (fit R.sz) css):=by rw [hr.lc];exact hr.row
 obtain ⟨cur,hgc,hft,hob,hnew⟩:=zdn.write hrow (fun x=>zaj _ x) hv (q:=q.toNat) (z:=cs) (z':=cs') o2 (f:=f) (k:=a) (vs:=v.cells.toList) ha (by rw [<- o1];exact hfit) (by rw [zhd o1,zhd hlen'];exact hc)
 refine OW.ops hl hg rfl (w':=w.setRow g (qk cur.toList v.cells.toList a).toArray) (fun b hb=> ?_) (h _ ?_)
 ·have e1:=hb.look hx
  have e2:=hb.look hy
  have:=zfy (P:=P) (w:=w) (T:=T) (g:=g) hs h1 hgc hft
  simp [execOp,e1,e2,this]
 ·have hchg:Chg [g] w (w.setRow g (qk cur.toList v.cells.toList a).toArray):=⟨rfl,rfl,rfl,by simp [World.setRow],fun q _ hn=>setRow_other w g q _ (by rintro rfl;exact hn (by simp))⟩
  have hgS:g∈S:=by rw [hr.hS];exact zal _ (by simp [hob])
  have hn:=hr.nd
  rw [hr.hS] at hn
  have hn3:=(List.nodup_append.1 hn).2.2
  have hlt:=hr.lt
  have hlc:=hr.lc
  refine hst.upd k hk (it':=nI T R hd S xs (some (q.toNat,cs'))) (hchg.mono (fun b hb=>by simp only [List.mem_singleton] at hb;subst hb;exact hgS)) ⟨css.set q.toNat cs',Ss,⟨by rw [<- hlc];exact hnew,by rw [List.length_set];exact hlc,hr.ls,hr.hS,hr.nd,fun t' c' e=> ?_,fun j c S' z hho hcj hSj hzj=> ?_⟩⟩ (fun b hb=> .inl hb) hr.nd
  ·simp only [Option.some.injEq,Prod.mk.injEq] at e
   obtain ⟨rfl,rfl⟩:=e
   exact ⟨hlen',by rw [List.getElem?_set_self (zes.1 o2).1],o3⟩
  ·have hne:q.toNat ≠ j:=fun e=>hho cs' (by rw [e])
   rw [List.getElem?_set_ne hne] at hcj
   refine R.loc _ _ _ _ _ (fun b hb=> ?_) (hr.own j c S' z (fun c' e=>by simp only [Option.some.injEq,Prod.mk.injEq] at e;exact hne e.1) hcj hSj hzj)
   have hbS:b∈Ss.flatten:=List.mem_flatten.2 ⟨S',zmg hSj,hb⟩
   exact hchg.block b (hlt b (by rw [hr.hS];exact zar _ hbS)) (by simp only [List.mem_singleton];rintro rfl;exact hn3 b (by simp [hob]) b hbS rfl)
end
end Go.Sx
namespace Go.Sx
open Go.RowKit
section
variable {ρ:Type} {h:LH} {hs hs' hs1 hs2:List H} {f:Option ρ} {r:ρ} {Fs Fs':List Fa} {L L':List zz} {fr:Fr} {P:Program} {B:Func} {N:Nat} {w0:World} {Z:List Nat} {c x y:Code} {Q:Exit->Act->World->Prop} {l:List Oper} {i:Nat} {e:Exit} {v:Value}
theorem Giv.dn {α:Type} {e:Nat} {v':Value} {R:Rp α} {xs:List α} {js:List Nat} {src:List Src} {Fin:List Fa} (he:nth Fs e=some (.rn v' R xs)) (hp:KR (Nat.blt 0 R.sz) true) (n:Giv src Fs L js Fin):Giv (.dn e::src) Fs L js (.rn v' R xs::Fin):=
 ⟨fun w0 Z w a s=>⟨RdN.give (by have:=hp.h;simpa [Nat.blt_eq] using this) (zA a he) s js,n.g w0 Z w a s⟩⟩
theorem Giv.oN {α:Type} {j:Nat} {T:TypeId} {v':Value} {R:Rp α} {S:List Nat} {xs xs':List α} {js:List Nat} {src:List Src} {Fin:List Fa} (he:nth L j=some (nI T R v' S xs' none)) (hn:KR (mem? j js) false) (hxx:KR xs' xs) (n:Giv src Fs L js Fin):
  Giv (.oN j::src) Fs L js (.rn v' R xs::Fin):=
 ⟨fun w0 Z w a s=>by
  have hj:L[j]? =some (nI T R v' S xs none):=by rw [<- zD,<- hxx.h];exact he
  exact ⟨s.seeN j hj js hn.h,n.g w0 Z w a s⟩⟩
theorem GO.co {σ κ ι0 ι1:Type} {S:Prop} {js rest:List Nat} {src:List Src} {kf:FuncId} {args:List Value} {o:Option σ} {sel:σ->Option κ} {A:σ->Option ρ} {Bk:σ->κ->Option ρ} {post0:σ->ι0->Value×List zz} {post1:σ->κ->ι1->Value×List zz} {Fin:List Fa} {Lin Lq Bq:List zz} {L0:σ->ι0->List zz} {L1:σ->κ->ι1->List zz} [C:HasC o S]
  (hS:S->zrj P kf args Fin Lin o sel post0 post1) (hL:zdT L js []=some Lq) (hM:Sim Lq Lin) (hg:Giv src Fs L js Fin) (hp:KR (pcC P l N fr i) (some (kf,args))) (hB:zdT L rest []=some Bq) (hJ0: ∀ x q,zg0 (post0 x q).2 Bq=some (L0 x q)) (hJ1: ∀ x k q,zg0 (post1 x k q).2 Bq=some (L1 x k q))
  (hd:KR (zB (js++rest)) true) (n0: ∀ x q,GO hs1 (A x) r Fs (L0 x q) ((dst l i,(post0 x q).1)::fr) P B N w0 Z l (i+1) Q) (n1: ∀ x k q,GO hs2 (Bk x k) r Fs (L1 x k q) ((dst l i,(post1 x k q).1)::fr) P B N w0 Z l (i+1) Q):
  GO (.co js src rest hs2 hs1::hs) (o.bind fun x=>zdV (sel x) (A x) (Bk x)) r Fs L fr P B N w0 Z l i Q:=⟨fun w a s q=>by
 obtain ⟨x,hx,hk⟩:=zq q
 have hp:=hp.h
 unfold pcC at hp
 cases ho:okO l N fr i with
 | none=>rw [ho] at hp;cases hp
 | some op=>
  rw [ho] at hp
  obtain ⟨d,hl,hg',hdd,hN⟩:=jo ho
  have e1:=vh hL
  have e2:=vh hB
  rw [hM.e] at e1
  rw [List.append_nil] at e1 e2
  subst e1 e2
  refine OW.fn hl hg' hdd hN hp ((hS C.c).h.c w x (hg.g w0 Z w a s) (s.part js (by have:=hd.h;exact zc7 this)) hx) ?_
  intro e w' hR
  unfold RO at hR
  cases hs:sel x with
  | none=>
   rw [hs] at hR
   obtain ⟨i',rfl,s'⟩:=hR
   refine ⟨_,rfl,?_⟩
   have h3:=(n0 x i').o w' a (by rw [zcU (hJ0 x i')];exact s.join hd.h s') (ziM hk hs)
   rw [vN hl hdd] at h3
   exact h3
  | some k=>
   rw [hs] at hR
   obtain ⟨i',rfl,s'⟩:=hR
   refine ⟨_,rfl,?_⟩
   have h3:=(n1 x k i').o w' a (by rw [zcU (hJ1 x k i')];exact s.join hd.h s') (ziN hk hs)
   rw [vN hl hdd] at h3
   exact h3⟩
structure zsC {σ ι:Type} (S:Prop) (P:Program) (k:FuncId) (args:List Value) (Fin:World->List Nat->List Fa) (L:List zz) (f:Option σ) (post:σ->ι->Value×List zz):Prop where
 h:S-> ∀ wb Sb,Ctr P k args (Fin wb Sb) L f post
structure zks (src:List Src) (Fs:List Fa) (L:List zz) (js:List Nat) (Fin:World->List Nat->List Fa):Prop where
 g: ∀ w0 Z w,zbG w0 Z Fs->St w0 Z w L->zbG w (fp (sel L js)) (Fin w (fp (sel L js)))
theorem zks.nil {js:List Nat}:zks [] Fs L js (fun _ _=> []):=⟨fun _ _ _ _ _=>trivial⟩
theorem zks.b {e:Nat} {js:List Nat} {src:List Src} {Fin:World->List Nat->List Fa} (n:zks src Fs L js Fin):zks (.b e::src) Fs L js (fun wb Sb=> .bo wb Sb::Fin wb Sb):=
 ⟨fun w0 Z w a s=>⟨Bor.refl _ _,n.g w0 Z w a s⟩⟩
theorem zks.p {α:Type} {sr:Src} {sz:Nat} {v':Value} {enc:α->List Value} {xs:List α} {js:List Nat} {src:List Src} {Fin:World->List Nat->List Fa} (h1:Giv [sr] Fs L js [.rd v' enc sz xs]) (n:zks src Fs L js Fin):
  zks (sr::src) Fs L js (fun wb Sb=> .rb wb Sb v' enc sz xs:: .rd v' enc sz xs::Fin wb Sb):=
 ⟨fun w0 Z w a s=>⟨(h1.g w0 Z w a s).1,(h1.g w0 Z w a s).1,n.g w0 Z w a s⟩⟩
theorem zks.t {α:Type} {e sz:Nat} {v':Value} {enc:α->List Value} {xs:List α} {js:List Nat} {src:List Src} {Fin:World->List Nat->List Fa} (h1:Giv [.f e] Fs L js [.rd v' enc sz xs]) (n:zks src Fs L js Fin):
  zks (.c e::src) Fs L js (fun wb Sb=> .rd v' enc sz xs::Fin wb Sb):=
 ⟨fun w0 Z w a s=>⟨(h1.g w0 Z w a s).1,n.g w0 Z w a s⟩⟩
theorem GO.cn {σ ι:Type} {S:Prop} {js rest:List Nat} {src:List Src} {kf:FuncId} {args:List Value} {o:Option σ} {k:σ->Option ρ} {post:σ->ι->Value×List zz} {Fin:World->List Nat->List Fa} {Lin Lq Bq:List zz} {L1:σ->ι->List zz} [C:HasC o S]
  (hS:zsC S P kf args Fin Lin o post) (hL:zdT L js []=some Lq) (hM:Sim Lq Lin) (hg:zks src Fs L js Fin) (hp:KR (pcC P l N fr i) (some (kf,args))) (hB:zdT L rest []=some Bq) (hJ: ∀ x q,zg0 (post x q).2 Bq=some (L1 x q))
  (hd:KR (zB (js++rest)) true) (n: ∀ x q,GO hs (k x) r Fs (L1 x q) ((dst l i,(post x q).1)::fr) P B N w0 Z l (i+1) Q):GO (.cn js src rest::hs) (o.bind k) r Fs L fr P B N w0 Z l i Q:=⟨fun w a s q=>by
 obtain ⟨x,hx,hk⟩:=zq q
 have hp:=hp.h
 unfold pcC at hp
 cases ho:okO l N fr i with
 | none=>rw [ho] at hp;cases hp
 | some op=>
  rw [ho] at hp
  obtain ⟨d,hl,hg',hdd,hN⟩:=jo ho
  have e1:=vh hL
  have e2:=vh hB
  rw [hM.e] at e1
  rw [List.append_nil] at e1 e2
  subst e1 e2
  refine OW.fn hl hg' hdd hN hp ((hS.h C.c w (fp (sel L js))).c w x (hg.g w0 Z w a s) (s.part js (by have:=hd.h;exact zc7 this)) hx) ?_
  rintro e w' ⟨i',rfl,s'⟩
  refine ⟨_,rfl,?_⟩
  have h3:=(n x i').o w' a (by rw [zcU (hJ x i')];exact s.join hd.h s') hk
  rw [vN hl hdd] at h3
  exact h3⟩
def IQ (P:Program) (l:List Oper) (N:Nat) (Q:Exit->Act->World->Prop) (i:Nat) (fr:Fr) (B:Func):Ending->World->Prop:=fun e w=> ∃ v,e= .returned v/\OW P l N Q (i+1) ((dst l i,v)::fr) w
def pcA (P:Program) (l:List Oper) (N:Nat) (fr:Fr) (i:Nat):List Value:=match pcC P l N fr i with
 | some p=>p.2
 | none=> []
theorem GO.il {k:FuncId} {fn:Func} {M:Nat} {hf:P.funcs[k]? =some fn} (hb:fn.body=some c) (hM:fn.ntmps=M) (hp:KR ((pcC P l N fr i).map (·.1)) (some k)) (hz:KR (Nat.ble (pcA P l N fr i).length M) true)
  (n:GC hs f r Fs L (zha 0 (pcA P l N fr i)) P fn M w0 Z c (bodyPost P fn (IQ P l N Q i fr B))):GO (.il hf::hs) f r Fs L fr P B N w0 Z l i Q:=⟨fun w a s q=>by
 have hp:=hp.h
 have hz:=hz.h
 have hn:=n.o w a s q
 unfold pcA at hz hn
 cases hc:pcC P l N fr i with
 | none=>rw [hc] at hp;cases hp
 | some p=>
  rw [hc] at hp hz hn
  simp only [Option.map_some,Option.some.injEq] at hp
  subst hp
  have hc0:=hc
  unfold pcC at hc
  cases ho:okO l N fr i with
  | none=>rw [ho] at hc;cases hc
  | some op=>
   rw [ho] at hc
   obtain ⟨d,hl,hg',hdd,hN⟩:=jo ho
   unfold IQ at hn
   rw [vN hl hdd] at hn
   exact OW.inl hl hg' hdd hN hc hf hb hM hz hn⟩
def zsD (fn:Func) (fr:Fr):Value:=(zra fn fr).getD undef
theorem GQ.ri {M:Nat} {fn:Func} {fr':Fr} {B0:Func} (hr:KR (zra fn fr').isSome true) (n:GO hs f r Fs L ((dst l i,zsD fn fr')::fr) P B N w0 Z l (i+1) Q):
  GQ (.ri::hs) f r Fs L fr' P B0 M w0 Z .ret (bodyPost P fn (IQ P l N Q i fr B)):=⟨fun w a s q=>by
 have hn:=n.o w a s q
 have hr:=hr.h
 unfold zsD at hn
 have hl: ∀ {l},fn.results.toList=l->fn.results=l.toArray:=fun h=>by rw [<- h]
 cases hc:zra fn fr' with
 | none=>rw [hc] at hr;cases hr
 | some u=>
  rw [hc] at hn
  simp only [Option.getD_some] at hn
  unfold zra at hc
  split at hc
  ·rename_i a' e'
   exact QW.ret1 (hl e') hc ⟨_,rfl,hn⟩
  ·rename_i a' b' e'
   split at hc
   ·rename_i x y h1 h2
    cases hc
    exact QW.ret2 (hl e') h1 h2 ⟨_,rfl,hn⟩
   ·cases hc
  ·rename_i a' b' c' e'
   split at hc
   ·rename_i x y z h1 h2 h4
    cases hc
    exact QW.ret3 (hl e') h1 h2 h4 ⟨_,rfl,hn⟩
   ·cases hc
  ·cases hc⟩
end
section
variable {h:LH} {Fs Fs':List Fa} {L L':List zz} {w0:World} {Z:List Nat} {v:Value}
theorem Cel.ce {e ff g o:Nat} {cs:List Value} {u:Value} (he:nth Fs e=some (.ce g o cs)) (hu:nth cs ff=some u):Cel Fs L w0 Z (.ce e ff) ⟨g,o+ff,none⟩ u:=
 ⟨fun w a s=>(zA a he:Fa.ok w0 Z (.ce g o cs)) w L s ff u (by rw [<- zD];exact hu)⟩
theorem zhy.ce {e ff n g o:Nat} {cs us:List Value} (he:nth Fs e=some (.ce g o cs)) (hu:zoo cs ff n=some us):zhy Fs L w0 Z (.cE e ff n) g (o+ff) us:=⟨fun w a s j u hj=>by
 rw [Nat.add_assoc]
 exact (zA a he:Fa.ok w0 Z (.ce g o cs)) w L s (ff+j) u ((zdX hu).2 j u hj)⟩
theorem Cel.nh {α:Type} {j q ff n g o:Nat} {T:TypeId} {R:Rp α} {v':Value} {S:List Nat} {xs xs':List α} {cs:List Value} {t:Int} {x:α} {u:Value} (hj:nth L j=some (nI T R v' S xs' (some (n,cs)))) (hq:nth Fs q=some (.el v' g o t xs x)) (hn:KR n t.toNat) (hu:nth cs ff=some u):
  Cel Fs L w0 Z (.nh j q ff) ⟨g,o+t.toNat*R.sz+ff,none⟩ u:=⟨fun w a s=>by
 obtain ⟨_,c,h2⟩:=zA a hq
 have hj:=hj
 rw [hn.h] at hj
 exact s.nhole j (by rw [<- zD];exact hj) h2 ff u (by rw [<- zD];exact hu)⟩
theorem zhy.nH {α:Type} {j q ff m n g o:Nat} {T:TypeId} {R:Rp α} {v':Value} {S:List Nat} {xs xs':List α} {cs us:List Value} {t:Int} {x:α} (hj:nth L j=some (nI T R v' S xs' (some (n,cs)))) (hq:nth Fs q=some (.el v' g o t xs x)) (hn:KR n t.toNat) (hu:zoo cs ff m=some us):
  zhy Fs L w0 Z (.nH j q ff m) g (o+t.toNat*R.sz+ff) us:=⟨fun w a s k u hk=>by
 obtain ⟨_,c,h2⟩:=zA a hq
 have hj:=hj
 rw [hn.h] at hj
 rw [Nat.add_assoc]
 exact s.nhole j (by rw [<- zD];exact hj) h2 (ff+k) u ((zdX hu).2 k u hk)⟩
end
structure ziV {β ι:Type} (ks:List Nat) (A:Rp β) (vs:ι->β->List Value) (fcs:ι->β->List Fa):Prop where
 o: ∀ w Z cs y,A.rd w Z y cs-> ∃ i,cs=vs i y/\zbG w Z (fcs i y)
section
variable {β γ:Type}
theorem ziV.row {T:TypeId} {enc:β->List Value} {sz:Nat} {he: ∀ x,(enc x).length=sz} {hp:0<sz}:
  ziV [1] (zhc T enc sz he hp) (fun (i:Option Addr×Nat) y=> [.slice i.1 y.length i.2]) (fun i y=> [.rd (.slice i.1 y.length i.2) enc sz y]):=⟨by
 rintro w Z cs y ⟨v,rfl,h⟩
 obtain ⟨_,a,c,rfl⟩:=Rd.len h
 exact ⟨(a,c),rfl,h,trivial⟩⟩
theorem ziV.st {ι:Type} {ks:List Nat} {ff:γ->List Value->List Value} {sz:Nat} {hl: ∀ x vs,(ff x vs).length=sz} {g:γ->β} {A:Rp β} {vs:ι->β->List Value} {fcs:ι->β->List Fa} (h:ziV ks A vs fcs):
  ziV (3::ks) (qU ff sz hl g A) (fun (i:ι) x=>ff x (vs i (g x))) (fun i x=>fcs i (g x)):=⟨by
 rintro w Z cs x ⟨us,rfl,h2⟩
 obtain ⟨i,rfl,f1⟩:=h.o w Z _ _ h2
 exact ⟨i,rfl,f1⟩⟩
end
section
variable {ρ:Type} {h:LH} {hs hs' hs1 hs2:List H} {f:Option ρ} {r:ρ} {Fs Fs':List Fa} {L L':List zz} {fr:Fr} {P:Program} {B:Func} {N:Nat} {w0:World} {Z:List Nat} {c x y:Code} {Q:Exit->Act->World->Prop} {l:List Oper} {i:Nat} {e:Exit} {v:Value}
theorem zsf {α ι:Type} {e:Nat} {v':Value} {R:Rp α} {ks:List Nat} {vs:ι->α->List Value} {fcs:ι->α->List Fa} {xs:List α} {t:Int} {x:α} {Fs1:α->Nat->Nat->ι->List Fa} (he:nth Fs e=some (.rn v' R xs)) (hO:ziV ks R vs fcs)
  (hF: ∀ x g o q,zg0 Fs (.el v' g o t xs x:: .ce g (o+t.toNat*R.sz) (vs q x)::fcs q x)=some (Fs1 x g o q)) (a:zbG w0 Z Fs) (hx:idx xs t=some x): ∃ g o q,zbG w0 Z (Fs1 x g o q):=by
 have hr:RdN w0 Z v' R.rd R.sz xs:=zA a he
 obtain ⟨g,o,c,cs,hv,hd,hc⟩:=hr.formv hx
 obtain ⟨q,rfl,f1⟩:=hO.o w0 Z _ _ hd
 exact ⟨g,o,q,zg1 (hF x g o q) a ⟨⟨hx,c,hv⟩,fun w' L' s' k u hu=>hc k u hu w' L' s',f1⟩⟩
theorem GO.bd {α ι:Type} {e:Nat} {v':Value} {R:Rp α} {ks:List Nat} {vs:ι->α->List Value} {fcs:ι->α->List Fa} {xs:List α} {t:Int} {k:α->Option ρ} {Fs1:α->Nat->Nat->ι->List Fa} (he:nth Fs e=some (.rn v' R xs)) (hO:ziV ks R vs fcs)
  (hF: ∀ x g o q,zg0 Fs (.el v' g o t xs x:: .ce g (o+t.toNat*R.sz) (vs q x)::fcs q x)=some (Fs1 x g o q)) (n: ∀ x g o q,GO hs (k x) r (Fs1 x g o q) L fr P B N w0 Z l i Q):GO (.bd e ks::hs) ((idx xs t).bind k) r Fs L fr P B N w0 Z l i Q:=⟨fun w a s q=>by
 obtain ⟨x,hx,hk⟩:=zq q
 obtain ⟨g,o,j,a'⟩:=zsf he hO hF a hx
 exact (n x g o j).o w a' s hk⟩
theorem zp6 {α:Type} {w:World} {j:Nat} {T:TypeId} {R:Rp α} {S:List Nat} {ho:Option (Nat×List Value)} {v':Value} {xs xs':List α} {t:Int} {x:α} (he:nth L j=some (nI T R v' S xs' ho)) (hxx:KR xs' xs) (s:St w0 Z w L) (hx:idx xs t=some x): ∃ g o,(Fa.el v' g o t xs x).ok w0 Z:=by
 have he:=he
 rw [hxx.h] at he
 obtain ⟨g,o,c,h1⟩:=s.nrowv j (by rw [<- zD];exact he) hx
 exact ⟨g,o,hx,c,h1⟩
theorem GO.bn {α:Type} {j:Nat} {T:TypeId} {R:Rp α} {S:List Nat} {ho:Option (Nat×List Value)} {v':Value} {xs xs':List α} {t:Int} {k:α->Option ρ} {Fs1:α->Nat->Nat->List Fa} (he:nth L j=some (nI T R v' S xs' ho)) (hxx:KR xs' xs)
  (hF: ∀ x g o,vA Fs (.el v' g o t xs x)=some (Fs1 x g o)) (n: ∀ x g o,GO hs (k x) r (Fs1 x g o) L fr P B N w0 Z l i Q):GO (.bn j::hs) ((idx xs t).bind k) r Fs L fr P B N w0 Z l i Q:=⟨fun w a s q=>by
 obtain ⟨x,hx,hk⟩:=zq q
 obtain ⟨g,o,h1⟩:=zp6 he hxx s hx
 exact (n x g o).o w (qV a h1 (hF x g o)) s hk⟩
theorem GS.bn {α:Type} {cc:Nat} {m:Bool} {j:Nat} {T:TypeId} {R:Rp α} {S:List Nat} {ho:Option (Nat×List Value)} {v':Value} {xs xs':List α} {t:Int} {k:α->Option ρ} {Fs1:α->Nat->Nat->List Fa} (he:nth L j=some (nI T R v' S xs' ho)) (hxx:KR xs' xs)
  (hF: ∀ x g o,vA Fs (.el v' g o t xs x)=some (Fs1 x g o)) (n: ∀ x g o,GS hs (k x) r (Fs1 x g o) L fr P B N w0 Z l i cc m Q):GS (.bn j::hs) ((idx xs t).bind k) r Fs L fr P B N w0 Z l i cc m Q:=⟨fun w a s q=>by
 obtain ⟨x,hx,hk⟩:=zq q
 obtain ⟨g,o,h1⟩:=zp6 he hxx s hx
 exact (n x g o).o w (qV a h1 (hF x g o)) s hk⟩
theorem GP.bn {α:Type} {done eff:List Nat} {pd:List (Nat×Pn)} {j:Nat} {T:TypeId} {R:Rp α} {S:List Nat} {ho:Option (Nat×List Value)} {v':Value} {xs xs':List α} {t:Int} {k:α->Option ρ} {Fs1:α->Nat->Nat->List Fa} (he:nth L j=some (nI T R v' S xs' ho)) (hxx:KR xs' xs)
  (hF: ∀ x g o,vA Fs (.el v' g o t xs x)=some (Fs1 x g o)) (n: ∀ x g o,GP hs (k x) r (Fs1 x g o) L fr P B N w0 Z l done eff pd Q):GP (.bn j::hs) ((idx xs t).bind k) r Fs L fr P B N w0 Z l done eff pd Q:=⟨fun w a s q=>by
 obtain ⟨x,hx,hk⟩:=zq q
 obtain ⟨g,o,h1⟩:=zp6 he hxx s hx
 exact (n x g o).o w (qV a h1 (hF x g o)) s hk⟩
end
theorem St.spread {w0 w:World} {Z:List Nat} {L B:List zz} {A:zz} (h:St w0 Z w (L++ [A])) (hB:zam w A.S B):St w0 Z w (L++B):=by
 have hA:(L++ [A])[L.length]? =some A:=by simp
 refine h.repart (fun i it hi=> ?_) (fun i j a b hij hi hj=> ?_)
 ·rcases xa hi with ⟨h1,h2⟩ | ⟨h1,h2⟩
  ·have h3:(L++ [A])[i]? =some it:=by rw [List.getElem?_append_left h1];exact h2
   exact ⟨h.all i it h3,h.nd i it h3,fun x hx=>zai.2 ⟨i,it,h3,hx⟩⟩
  ·obtain ⟨p,q,t⟩:=hB.1 _ _ h2
   exact ⟨p,q,fun x hx=>zai.2 ⟨L.length,A,hA,t x hx⟩⟩
 ·have key: ∀ (i:Nat) (a:zz),i<L.length->L[i]? =some a-> ∀ x∈a.S,x ∉ A.S:=fun i a h1 h2 x hx=>by
   have h3:(L++ [A])[i]? =some a:=by rw [List.getElem?_append_left h1];exact h2
   exact h.apart i L.length a A (by omega) h3 hA x hx
  intro x hx hy
  rcases xa hi with ⟨h1,h2⟩ | ⟨h1,h2⟩<;>rcases xa hj with ⟨h3,h4⟩ | ⟨h3,h4⟩
  ·exact h.apart i j a b hij (by rw [List.getElem?_append_left h1];exact h2) (by rw [List.getElem?_append_left h3];exact h4) x hx hy
  ·exact key i a h1 h2 x hx ((hB.1 _ _ h4).2.2 x hy)
  ·exact key j b h3 h4 x hy ((hB.1 _ _ h2).2.2 x hx)
  ·exact hB.2 _ _ a b (by omega) h2 h4 x hx hy
section
variable {β γ:Type} {q:Nat} {Fs:List Fa} {L:List zz}
theorem zb6.st {ι:Type} {ks:List Nat} {ff:γ->List Value->List Value} {sz:Nat} {hl: ∀ x vs,(ff x vs).length=sz} {g:γ->β} {A:Rp β} {vs:ι->β->List Value} {its:ι->β->List zz} {fcs:ι->β->List Fa} (h:zb6 ks q Fs A vs its fcs):
  zb6 (7::ks) q Fs (qU ff sz hl g A) (fun (i:ι) x=>ff x (vs i (g x))) (fun i x=>its i (g x)) (fun i x=>fcs i (g x)):=⟨by
 rintro w0 Z w cs S x a ⟨us,rfl,h2⟩
 obtain ⟨i,rfl,p1,f1⟩:=h.o w0 Z w _ _ _ a h2
 exact ⟨i,rfl,p1,f1⟩⟩
theorem xj.st {ks:List Pa} {js:List Nat} {us vs:List Value} {ff:γ->List Value->List Value} {sz:Nat} {hl: ∀ x vs,(ff x vs).length=sz} {g:γ->β} {A:Rp β} {x:γ} {y:β} (h:xj ks Fs L A js us y) (hx:KR vs (ff x us)) (hy:KR (g x) y):xj (.s::ks) Fs L (qU ff sz hl g A) js vs x:=⟨fun w0 Z w hd a s=>by
 obtain ⟨S,o1,n1,f1⟩:=h.o w0 Z w hd a s
 exact ⟨S,⟨us,hx.h,by rw [hy.h];exact o1⟩,n1,f1⟩⟩
end
section
variable {ρ:Type} {h:LH} {hs hs' hs1 hs2:List H} {f:Option ρ} {r:ρ} {Fs Fs':List Fa} {L L':List zz} {fr:Fr} {P:Program} {B:Func} {N:Nat} {w0:World} {Z:List Nat} {c x y:Code} {Q:Exit->Act->World->Prop} {l:List Oper} {i:Nat} {e:Exit} {v:Value}
theorem zp7 {a b:Nat} (h:a ≠ b):Nat.beq a b=false:=by
 cases hb:Nat.beq a b with
 | false=>rfl
 | true=>exact absurd (Nat.eq_of_beq_eq_true hb) h
theorem zgL {α:Type} {L:List α} {j:Nat} {x y:α} {B:List α} (h:L[j]? =some y):(L++B).set j x=L.set j x++B:=by
 rw [List.set_append_left]
 exact (zes.1 h).1
theorem Adm.no {α ι:Type} {j q e g o:Nat} {ks:List Nat} {T:TypeId} {R:Rp α} {v':Value} {S:List Nat} {xs xs':List α} {t:Int} {x:α} {vs:ι->α->List Value} {its:ι->α->List zz} {fcs:ι->α->List Fa} {Lq L1:ι×List Nat->List zz} {Fs1:ι×List Nat->List Fa}
  (hq:nth Fs q=some (.el v' g o t xs x)) (hj:nth L j=some (nI T R v' S xs' none)) (hxx:KR xs' xs) (hO:zb6 ks e Fs R vs its fcs) (hN: ∀ p,zch L j (nI T R v' p.2 xs' (some (t.toNat,vs p.1 x)))=some (Lq p)) (hA: ∀ p,zg0 (Lq p) (its p.1 x)=some (L1 p)) (hF: ∀ p,zg0 Fs (fcs p.1 x)=some (Fs1 p)):
  Adm (.no j q e ks) Fs L L1 Fs1:=⟨fun w0 Z w a s=>by
 obtain ⟨hx,c,hv⟩:=zA a hq
 have hxx:=hxx.h
 subst hxx
 have hj':L[j]? =some (nI T R v' S xs' none):=by rw [<- zD];exact hj
 obtain ⟨cs,S1,S2,hl,hce,s2⟩:=s.nout j hj' hx hv
 have ho:R.own w cs S2 x:=s2.all L.length (itI R cs S2 x) (by simp)
 obtain ⟨k,rfl,hp,hf⟩:=hO.o w0 Z w _ _ _ a ho
 refine ⟨(k,S1),?_,zg1 (hF (k,S1)) a hf⟩
 rw [zcU (hA (k,S1)),qT (hN (k,S1))]
 exact s2.spread hp⟩
theorem zdi {α:Type} {ks:List Pa} {js rest:List Nat} {R:Rp α} {vs:List Value} {y:α} {Lr:List zz} (hS:xj ks Fs L R js vs y) (hr:zdT L rest []=some Lr) (hd:zB (js++rest)=true) {w:World} (a:zbG w0 Z Fs) (s:St w0 Z w L): ∃ S,St w0 Z w (Lr++ [itI R vs S y]):=by
 obtain ⟨S,o1,n1,f1⟩:=hS.o w0 Z w (zc7 hd) a s
 have:=vh hr
 rw [List.append_nil] at this
 subst this
 exact ⟨S,s.gather js rest hd (C:=itI R vs S y) o1 n1 f1⟩
theorem zek {w:World} {A:zz} (h:St w0 Z w (L++ [A])):St w0 Z w L:=by
 have:=h.spread (B:= []) zam.nil
 simpa using this
theorem Adm.nb {α:Type} {k q g o n:Nat} {rest js:List Nat} {ks:List Pa} {T:TypeId} {R:Rp α} {v' v'':Value} {S:List Nat} {xs xs':List α} {t:Int} {x y:α} {cs vs:List Value} {Lr:List zz} {L1:List Nat->List zz}
  (hq:nth Fs q=some (.el v'' g o t xs x)) (hr:zdT L rest []=some Lr) (hk:nth Lr k=some (nI T R v' S xs' (some (n,cs)))) (hS:xj ks Fs L R js vs y) (hxx:KR xs' xs) (hn:KR n t.toNat) (hc:KR cs vs) (hd:KR (zB (js++rest)) true)
  (hL: ∀ S',zch Lr k (nI T R v' S' (xs'.set n y) none)=some (L1 S')):Adm (.nb k q rest ks) Fs L L1 (fun _=>Fs):=⟨fun w0 Z w a s=>by
 obtain ⟨hx,_⟩:=zA a hq
 obtain ⟨S2,s2⟩:=zdi hS hr hd.h a s
 have hk':Lr[k]? =some (nI T R v' S xs' (some (n,cs))):=by rw [<- zD];exact hk
 have hlt:k<Lr.length:=(zes.1 hk').1
 obtain ⟨S',s3⟩:=s2.nback k Lr.length (S2:=S2) (zp7 (Nat.ne_of_lt hlt)) (t:=t) (cs:=vs) (x:=x) (y:=y) (by rw [List.getElem?_append_left hlt,hk',hn.h,hc.h]) (by simp) (by rw [hxx.h];exact hx)
 refine ⟨S',?_,a⟩
 rw [qT (hL S'),hn.h]
 rw [zgL hk',List.set_append_right _ _ (by simp)] at s3
 simp at s3
 exact zek s3⟩
theorem Adm.nb0 {α:Type} {k q g o n:Nat} {rest js:List Nat} {ks:List Pa} {T:TypeId} {R:Rp α} {v' v'':Value} {S:List Nat} {xs xs':List α} {t:Int} {x y:α} {cs vs:List Value} {Lr:List zz} {L1:List Nat->List zz}
  (hq:nth Fs q=some (.el v'' g o t xs x)) (hr:zdT L rest []=some Lr) (hk:nth Lr k=some (nI T R v' S xs' (some (n,cs)))) (hS:xj ks Fs L R js vs y) (hxx:KR xs' xs) (hn:KR n t.toNat) (hc:KR cs vs) (hy:KR y x) (hd:KR (zB (js++rest)) true)
  (hL: ∀ S',zch Lr k (nI T R v' S' xs' none)=some (L1 S')):Adm (.nb0 k q rest ks) Fs L L1 (fun _=>Fs):=⟨fun w0 Z w a s=>by
 obtain ⟨hx,_⟩:=zA a hq
 obtain ⟨S2,s2⟩:=zdi hS hr hd.h a s
 have hk':Lr[k]? =some (nI T R v' S xs' (some (n,cs))):=by rw [<- zD];exact hk
 have hlt:k<Lr.length:=(zes.1 hk').1
 obtain ⟨S',s3⟩:=s2.nback0 k Lr.length (S2:=S2) (zp7 (Nat.ne_of_lt hlt)) (t:=t) (cs:=vs) (x:=y) (by rw [List.getElem?_append_left hlt,hk',hn.h,hc.h]) (by simp) (by rw [hxx.h,hy.h];exact hx)
 refine ⟨S',?_,a⟩
 rw [qT (hL S')]
 rw [zgL hk',List.set_append_right _ _ (by simp)] at s3
 simp at s3
 exact zek s3⟩
theorem GO.snG {α:Type} {hh:H} {k q m g o:Nat} {rest js:List Nat} {ks:List Pa} {T:TypeId} {R:Rp α} {v':Value} {S:List Nat} {xs xs':List α} {ho:Option (Nat×List Value)} {t:Int} {x y:α} {vs:List Value} {Lr:List zz} {L1:List Nat->List zz}
  (hho: ∀ i c,ho=some (i,c)->i=t.toNat) (hq:nth Fs q=some (.el v' g o t xs x)) (hr:zdT L rest []=some Lr) (hk:nth Lr k=some (nI T R v' S xs' ho)) (hS:xj ks Fs L R js vs y) (hxx:KR xs' xs) (hm:KR vs.length m) (h1:KR (zec vs) true)
  (hw:KR (zcX (stV l fr i)) (some vs)) (hc:KR (stC P l fr i m) (some ⟨g,o+t.toNat*R.sz,none⟩)) (hd:KR (zB (js++rest)) true) (hL: ∀ S',zch Lr k (nI T R v' S' (xs'.set t.toNat y) none)=some (L1 S'))
  (n: ∀ S',GO hs f r Fs (L1 S') fr P B N w0 Z l (i+1) Q):GO (hh::hs) f r Fs L fr P B N w0 Z l i Q:=⟨fun w a s e=>by
 obtain ⟨hx,cp,hv⟩:=zA a hq
 have hxx:=hxx.h
 subst hxx
 obtain ⟨S2,s2⟩:=zdi hS hr hd.h a s
 have hk':Lr[k]? =some (nI T R v' S xs' ho):=by rw [<- zD];exact hk
 have hlt:k<Lr.length:=(zes.1 hk').1
 obtain ⟨t',x',y',ty,pos,af,g',u,hl,hg,hxl,hyl,hcv,hsz⟩:=zez hc.h hw.h hm.h
 refine OW.stN (S2:=S2) (u:=y) (cs:=vs) s2 k Lr.length (zp7 (Nat.ne_of_lt hlt)) (by rw [List.getElem?_append_left hlt,hk']) hho (by simp) hv hl hg hx hxl rfl hyl hcv hsz (by rw [hcv];exact h1.h) fun S' w' s3=> ?_
 rw [zgL hk',List.set_append_right _ _ (by simp)] at s3
 simp at s3
 exact (n S').o w' a (by rw [qT (hL S')];exact zek s3) e⟩
theorem GO.sm {α:Type} {k q m g o n':Nat} {rest js:List Nat} {ks:List Pa} {T:TypeId} {R:Rp α} {v':Value} {S:List Nat} {xs xs':List α} {cs:List Value} {t:Int} {x y:α} {vs:List Value} {Lr:List zz} {L1:List Nat->List zz}
 (hq:nth Fs q=some (.el v' g o t xs x)) (hr:zdT L rest []=some Lr) (hk:nth Lr k=some (nI T R v' S xs' (some (n',cs)))) (hn:KR n' t.toNat) (hS:xj ks Fs L R js vs y) (hxx:KR xs' xs) (hm:vs.length=m) (h1:KR (zec vs) true)
 (hw:KR (zcX (stV l fr i)) (some vs)) (hc:KR (stC P l fr i m) (some ⟨g,o+t.toNat*R.sz,none⟩)) (hd:KR (zB (js++rest)) true) (hL: ∀ S',zch Lr k (nI T R v' S' (xs'.set t.toNat y) none)=some (L1 S'))
 (n: ∀ S',GO hs f r Fs (L1 S') fr P B N w0 Z l (i+1) Q):GO (.sm k q rest ks::hs) f r Fs L fr P B N w0 Z l i Q:=GO.snG (fun _ _ e=>by cases e;exact hn.h) hq hr hk hS hxx ⟨hm⟩ h1 hw hc hd hL n
end
end Go.Sx
namespace Go.Sx
open Go.RowKit
section
variable {ρ:Type} {h:LH} {hs hs' hs1 hs2:List H} {f:Option ρ} {r:ρ} {Fs Fs':List Fa} {L L':List zz} {fr:Fr} {P:Program} {B:Func} {N:Nat} {w0:World} {Z:List Nat} {c x y:Code} {Q:Exit->Act->World->Prop} {l:List Oper} {i:Nat} {e:Exit} {v:Value}
def zge (j:Nat):Nat->Nat->List Nat
 | 0,_=> []
 | m+1,q=>match Nat.beq q j with
  | true=>zge j m (q+1)
  | false=>q::zge j m (q+1)
theorem GO.an {α:Type} {k j bytes:Nat} {T:TypeId} {R:Rp α} {one: ∀ w cs S x,R.own w cs S x->zec cs=true} {v1 v2:Value} {S S2:List Nat} {xs ys xs' ys':List α} {q:Nat} {u:Unit} {Lq:Option Addr->Nat->List Nat->List zz} {L1:Option Addr->Nat->List Nat->List zz}
  (hq:nth Fs q=some (.oe (room (xs.length+ys.length) bytes) u)) (hk:nth L k=some (nI T R v1 S xs' none)) (hj:nth L j=some (nI T R v2 S2 ys' none)) (hxx:KR xs' xs) (hyy:KR ys' ys) (hkj:KR (Nat.beq k j) false)
  (hc:KR (apC P l N fr i) (some (v1,v2,T))) (hel:KR (elB P T R.sz) (some bytes)) (hL: ∀ a c S',zch L k (nI T R (.slice a (xs++ys).length c) S' (xs++ys) none)=some (Lq a c S')) (hL2: ∀ a c S',zdT (Lq a c S') (zge j L.length 0) []=some (L1 a c S')) (hd:KR (zB (zge j L.length 0)) true)
  (n: ∀ a c S',GO hs f r Fs (L1 a c S') ((dst l i,.slice a (xs++ys).length c)::fr) P B N w0 Z l (i+1) Q):GO (.an q k j one::hs) f r Fs L fr P B N w0 Z l i Q:=⟨fun w a s hk'=>by
 have hu:room (xs.length+ys.length) bytes=some u:=zA a hq
 have hxx:=hxx.h
 have hyy:=hyy.h
 subst hxx hyy
 have hc:=hc.h
 unfold apC at hc
 split at hc
 ·rename_i d' x' y' t t' _ _ _ _ hok
  split at hc
  ·rename_i u' v' e' hb hx hy ht
   cases hc
   have hb:=Nat.eq_of_beq_eq_true hb
   subst hb
   obtain ⟨d,hl,hg,hd',hN⟩:=jo hok
   simp only at hd'
   subst hd'
   refine OW.appN s k j hkj.h (by rw [<- zD];exact hk) (by rw [<- zD];exact hj) hl rfl hg hN hx hy ht (zhn hel.h) (zf4 hu) one fun v' S' w' s'=> ?_
   have hlt:k<L.length:=(zes.1 (by rw [<- zD];exact hk)).1
   have hkj':=Nat.ne_of_beq_eq_false hkj.h
   have hget:((L.set k (nI T R v' S' (xs'++ys') none)).set j nilI)[k]? =some (nI T R v' S' (xs'++ys') none):=by
    rw [List.getElem?_set_ne (Ne.symm hkj')]
    simp [hlt]
   obtain ⟨_,pa,pc,rfl⟩:=s'.nlen k hget
   have s2:=s'.keep (zge j L.length 0) hd.h
   have e3:sel ((L.set k (nI T R (.slice pa (xs'++ys').length pc) S' (xs'++ys') none)).set j nilI) (zge j L.length 0)=L1 pa pc S':=by
    have h2:=vh (hL2 pa pc S')
    rw [List.append_nil,qT (hL pa pc S')] at h2
    rw [h2]
    have: ∀ (ids:List Nat),j ∉ ids->sel ((L.set k (nI T R (.slice pa (xs'++ys').length pc) S' (xs'++ys') none)).set j nilI) ids=sel (L.set k (nI T R (.slice pa (xs'++ys').length pc) S' (xs'++ys') none)) ids:=by
     intro ids
     induction ids with
     | nil=>intro _;rfl
     | cons z ids ih=>
      intro hz
      simp only [List.mem_cons,not_or] at hz
      simp only [sel]
      rw [ih hz.2]
      simp only [List.getD_eq_getElem?_getD]
      rw [List.getElem?_set_ne hz.1]
    refine this _ ?_
    have: ∀ m q,j ∉ zge j m q:=by
     intro m
     induction m with
     | zero=>intro q;simp [zge]
     | succ m ih=>
      intro q
      unfold zge
      split
      ·exact ih _
      ·rename_i hne
       simp only [List.mem_cons,not_or]
       exact ⟨fun e=>by rw [e] at hne;simp at hne,ih _⟩
    exact this _ _
   rw [e3] at s2
   have h1:=(n pa pc S').o w' a s2 hk'
   rw [vN hl rfl] at h1
   exact h1
  ·cases hc
 ·cases hc⟩
structure zlm {α:Type} (kss:List (List Pa)) (Fs:List Fa) (L:List zz) (R:Rp α) (js:List Nat) (css:List (List Value)) (ys:List α):Prop where
 o: ∀ w0 Z w,zB js=true->zbG w0 Z Fs->St w0 Z w L-> ∃ Ss:List (List Nat),(zrw R css Ss ys).Φ w/\Ss.flatten.Nodup/\ ∀ b∈Ss.flatten,b∈fp (sel L js)
theorem zlm.nil {α:Type} {R:Rp α}:zlm [] Fs L R [] [] ([]:List α):=⟨fun w0 Z w hd a s=>⟨[],⟨rfl,rfl,fun i cs S x h=>by simp at h⟩,List.nodup_nil,by simp⟩⟩
theorem zlm.cons {α:Type} {ks:List Pa} {kss:List (List Pa)} {R:Rp α} {j1 j2:List Nat} {cs:List Value} {css:List (List Value)} {y:α} {ys:List α} (h1:xj ks Fs L R j1 cs y) (h2:zlm kss Fs L R j2 css ys):zlm (ks::kss) Fs L R (j1++j2) (cs::css) (y::ys):=⟨fun w0 Z w hd a s=>by
 obtain ⟨S1,o1,n1,f1⟩:=h1.o w0 Z w (zc7 hd) a s
 obtain ⟨Ss,⟨e1,e2,e3⟩,n2,f2⟩:=h2.o w0 Z w (zgd hd) a s
 refine ⟨S1::Ss,⟨by simp [e1],by simp [e2],fun k c S x hc hS hx=> ?_⟩,?_,fun b hb=> ?_⟩
 ·cases k with
  | zero=>
   simp only [List.getElem?_cons_zero,Option.some.injEq] at hc hS hx
   subst hc hS hx
   exact o1
  | succ k=>exact e3 k c S x (by simpa using hc) (by simpa using hS) (by simpa using hx)
 ·rw [List.flatten_cons]
  exact List.nodup_append.2 ⟨n1,n2,fun a ha b hb e=>by subst e;exact ziU s hd a (f1 a ha) (f2 a hb)⟩
 ·rw [zkx,zpC]
  rw [List.flatten_cons] at hb
  rcases List.mem_append.1 hb with hb | hb
  ·exact .inl (f1 b hb)
  ·exact .inr (f2 b hb)⟩
theorem GO.ly {α:Type} {T:TypeId} {R:Rp α} {rest js:List Nat} {kss:List (List Pa)} {css:List (List Value)} {ys:List α} {Lr:List zz} {L1:Nat->List Nat->List zz} (hS:zlm kss Fs L R js css ys) (hr:zdT L rest []=some Lr) (hc:KR (rwC l N fr i) (some ys.length)) (hm:KR css.length ys.length) (hb:KR (Nat.ble ys.length 9223372036854775807) true)
  (hs:KR (zcy fr ((rwP l i).map (·.2))) true) (hv: ∀ w,KR ((Instr.buildSlice (rwT l i) ys.length ((rwP l i).toArray.map fun (i,x)=>(i,rho fr x))).run P w) (.ok (.slice (some ⟨w.heap.size,0,none⟩) ys.length ys.length) (w.alloc (.cells (vy (fit R.sz) css).toArray T))))
  (hd:KR (zB (js++rest)) true) (hL: ∀ g S',vA Lr (nI T R (.slice (some ⟨g,0,none⟩) ys.length ys.length) S' ys none)=some (L1 g S')) (n: ∀ g S',GO hs' f r Fs (L1 g S') ((dst l i,.slice (some ⟨g,0,none⟩) ys.length ys.length)::fr) P B N w0 Z l (i+1) Q):GO (.ly T R rest kss::hs') f r Fs L fr P B N w0 Z l i Q:=⟨fun w a s e=>by
 obtain ⟨Ss,o1,n1,f1⟩:=hS.o w0 Z w (zc7 hd.h) a s
 have e0:=vh hr
 rw [List.append_nil] at e0
 subst e0
 have s2:=s.gather js rest hd.h (C:=zrw R css Ss ys) o1 n1 f1
 have hc:=hc.h
 unfold rwC at hc
 split at hc
 ·rename_i d' t' n' ps _ _ _ _ ho
  obtain ⟨d,hl,hg,hd',hN⟩:=jo ho
  simp only at hd'
  subst hd'
  have hnn:n'=ys.length:=by simpa using hc
  subst hnn
  have e1:rwP l i=ps:=by simp [rwP,hl]
  have e2:rwT l i=t':=by simp [rwT,hl]
  rw [e1] at hs hv
  rw [e2] at hv
  refine OW.row (α:=List Value) (enc:=fit R.sz) (sz:=R.sz) (ps:=ps) s2 hl hg hN css hm.h (fun x=>zaj _ _) hb.h hs.h (fun w=>(hv w).h) fun g w' s'=> ?_
  have hlen:(sel L rest++ [zrw R css Ss ys]).length=(sel L rest).length+1:=by simp
  obtain ⟨S',s3⟩:=s'.nOf (k:=(sel L rest).length+1) (j:=(sel L rest).length) (sz:=R.sz) (T:=T) (R:=R) (v:= .slice (some ⟨g,0,none⟩) ys.length ys.length) (css:=css) (Ss:=Ss) (xs:=ys) (zp7 (by omega)) rfl (by rw [List.append_assoc,List.getElem?_append_right (by omega)];simp) (by rw [List.append_assoc,List.getElem?_append_right (by omega)];simp)
  have e4:((sel L rest++ [zrw R css Ss ys]++ [zZ (.slice (some ⟨g,0,none⟩) ys.length ys.length) T (fit R.sz) R.sz css]).set ((sel L rest).length+1) (nI T R (.slice (some ⟨g,0,none⟩) ys.length ys.length) S' ys none)).set (sel L rest).length nilI=sel L rest++ [nilI,nI T R (.slice (some ⟨g,0,none⟩) ys.length ys.length) S' ys none]:=by
   rw [List.append_assoc,List.set_append_right _ _ (by omega),List.set_append_right _ _ (by omega)]
   simp
  rw [e4] at s3
  have s4:St w0 Z w' (sel L rest++ [nI T R (.slice (some ⟨g,0,none⟩) ys.length ys.length) S' ys none]):=by
   refine s3.repart (fun k it hi=> ?_) (fun p q A B hpq hp hq=> ?_)
   ·rcases xa hi with ⟨h1,h2⟩ | ⟨h1,h2⟩
    ·have h3:(sel L rest++ [nilI,nI T R (.slice (some ⟨g,0,none⟩) ys.length ys.length) S' ys none])[k]? =some it:=by rw [List.getElem?_append_left h1];exact h2
     exact ⟨s3.all k it h3,s3.nd k it h3,fun x hx=>zai.2 ⟨k,it,h3,hx⟩⟩
    ·have h3:(sel L rest++ [nilI,nI T R (.slice (some ⟨g,0,none⟩) ys.length ys.length) S' ys none])[(sel L rest).length+1]? =some it:=by
      rw [List.getElem?_append_right (by omega)]
      have hk0:k-(sel L rest).length=0:=by
       have:=(zes.1 h2).1
       simp at this
       omega
      rw [hk0] at h2
      simp at h2 |-
      exact h2
     exact ⟨s3.all _ it h3,s3.nd _ it h3,fun x hx=>zai.2 ⟨_,it,h3,hx⟩⟩
   ·have key: ∀ (p:Nat) (A:zz),(sel L rest++ [nI T R (.slice (some ⟨g,0,none⟩) ys.length ys.length) S' ys none])[p]? =some A->(sel L rest++ [nilI,nI T R (.slice (some ⟨g,0,none⟩) ys.length ys.length) S' ys none])[if p<(sel L rest).length then p else p+1]? =some A:=by
     intro p A hp
     rcases xa hp with ⟨h1,h2⟩ | ⟨h1,h2⟩
     ·rw [if_pos h1,List.getElem?_append_left h1];exact h2
     ·rw [if_neg (by omega),List.getElem?_append_right (by omega)]
      have:=(zes.1 h2).1
      simp at this
      have e5:p+1-(sel L rest).length=1:=by omega
      have e6:p-(sel L rest).length=0:=by omega
      rw [e6] at h2
      rw [e5]
      simpa using h2
    refine s3.apart _ _ A B ?_ (key p A hp) (key q B hq)
    split<;>split<;>omega
  have h1:=(n g S').o w' a (by rw [zaq (hL g S')];exact s4) e
  rw [vN hl rfl] at h1
  exact h1
 ·cases hc⟩
theorem GO.mN {α:Type} {bytes:Nat} {R:Rp α} {cs:List Value} {x:α} {hx: ∀ w,R.own w cs [] x} {nn:Int} {q m:Nat} {L1:Nat->List Nat->List zz} (hq:nth Fs q=some (.oe (mkLen nn bytes) m)) (hc:KR (mkC P l N fr i) (some (nn,nn))) (ht:KR (zrZ P l i) true) (hel:KR (elB P (mkT P l i) R.sz) (some bytes)) (h0:KR ((zbw P (zeroValue (mkT P l i))).map (·.cells.toList)) (some (fit R.sz cs)))
  (hL: ∀ g S',vA L (nI (mkT P l i) R (.slice (some ⟨g,0,none⟩) m m) S' (List.replicate m x) none)=some (L1 g S'))
  (n: ∀ g S',GO hs f r Fs (L1 g S') ((dst l i,.slice (some ⟨g,0,none⟩) m m)::fr) P B N w0 Z l (i+1) Q):GO (.mN q R cs x hx::hs) f r Fs L fr P B N w0 Z l i Q:=⟨fun w a s hk=>by
 have hm:mkLen nn bytes=some m:=zA a hq
 have hc:=hc.h
 unfold mkC at hc
 split at hc
 ·rename_i d' t x' y' _ _ _ _ hok
  split at hc
  ·rename_i k1 a1 k2 b1 hx' hy'
   simp only [Option.some.injEq,Prod.mk.injEq] at hc
   obtain ⟨rfl,rfl⟩:=hc
   obtain ⟨d,hl,hg,hd,hN⟩:=jo hok
   simp only at hd
   subst hd
   have ht:=ht.h
   unfold zrZ at ht
   rw [hl] at ht
   simp only at ht
   split at ht
   ·rename_i e' hu
    have e2:mkT P l i=e':=by simp [mkT,hl,hu]
    rw [e2] at hel h0 hL
    refine OW.make (α:=List Value) (enc:=fit R.sz) (sz:=R.sz) s hl hg hN hx' hy' hu (zhn hel.h) cs h0.h (fun x=>zaj _ _) hm fun g w' s'=> ?_
    have s2:=s'.nNew (n:=m) (cs:=cs) (v:= .slice (some ⟨g,0,none⟩) m m) (T:=e') L.length R rfl (by simp) x hx
    rw [List.set_append_right _ _ (by simp)] at s2
    simp at s2
    have h1:=(n g _).o w' a (by rw [zaq (hL g _)];exact s2) hk
    rw [vN hl rfl] at h1
    exact h1
   ·cases ht
  ·cases hc
 ·cases hc⟩
def srC (P:Program) (l:List Oper) (N:Nat) (fr:Fr) (i:Nat):Option ByteArray:=match okO l N fr i with
 | some ⟨_,.range t x,_,_,_,_⟩=>match P.underlying t,look fr x with
  | some .string,some (.string s)=>some s
  | _,_=>none
 | _=>none
theorem GO.sg {L1:Nat->List zz} (hc:KR (srC P l N fr i).isSome true) (hL: ∀ it,vA L (zmK it ((srC P l N fr i).getD ByteArray.empty) 0)=some (L1 it)) (n: ∀ it,GO hs f r Fs (L1 it) ((dst l i,.pointer (some ⟨it,0,none⟩))::fr) P B N w0 Z l (i+1) Q):GO (.sg::hs) f r Fs L fr P B N w0 Z l i Q:=⟨fun w a st q=>by
 have hc:=hc.h
 cases hb:srC P l N fr i with
 | none=>rw [hb] at hc;cases hc
 | some s'=>
  rw [hb] at hL
  unfold srC at hb
  split at hb
  ·rename_i ho
   split at hb
   ·rename_i h1 h2
    cases hb
    obtain ⟨d,hl,hg,hd,hN⟩:=jo ho
    simp only at hd
    subst hd
    refine OW.srange st hl hg hN h2 h1 fun it w' s2=> ?_
    have h3:=(n it).o w' a (by rw [zaq (hL it)];exact s2) q
    rw [vN hl rfl] at h3
    exact h3
   ·cases hb
  ·cases hb⟩
def snC (l:List Oper) (N:Nat) (fr:Fr) (i:Nat):Option Nat:=match okO l N fr i with
 | some ⟨_,.next x true,_,_,_,_⟩=>match look fr x with
  | some (.pointer (some ⟨it,0,none⟩))=>some it
  | _=>none
 | _=>none
theorem GO.sx {j it p:Nat} {s:ByteArray} {A A':Option ρ} {L1:List zz} (hj:nth L j=some (zmK it s p)) (hc:KR (snC l N fr i) (some it)) (hL:zch L j (zmK it s (zfQ s p))=some L1)
  (n1:GO hs1 A r Fs L1 ((dst l i,.tuple [.bool true,.int .i64 (p:Int),.int .i32 (zjr s p)].toArray)::fr) P B N w0 Z l (i+1) Q) (n2:GO hs2 A' r Fs L ((dst l i,.tuple [.bool false].toArray)::fr) P B N w0 Z l (i+1) Q):
  GO (.sx j hs1 hs2::hs) (@ite _ (decide (p<s.size)=true) (instDecidableEqBool (decide (p<s.size)) true) A A') r Fs L fr P B N w0 Z l i Q:=⟨fun w a st q=>by
 have hc:=hc.h
 unfold snC at hc
 split at hc
 ·rename_i ho
  split at hc
  ·rename_i hx
   cases hc
   obtain ⟨d,hl,hg,hd,hN⟩:=jo ho
   simp only at hd
   subst hd
   refine OW.snext st j (by rw [<- zD];exact hj) hl hg hN hx (fun hp w' s2=> ?_) (fun hp=> ?_)
   ·have h3:=n1.o w' a (by rw [qT hL];exact s2) (zed q hp)
    rw [vN hl rfl] at h3
    exact h3
   ·have h3:=n2.o w a st (zee q hp)
    rw [vN hl rfl] at h3
    exact h3
  ·cases hc
 ·cases hc⟩
theorem Sim.sit {A B:List zz} {it:Nat} {s s':ByteArray} {p p':Nat} (h1:KR s s') (h2:KR p p') (n:Sim A B):Sim (zmK it s p::A) (zmK it s' p'::B):=⟨by rw [h1.h,h2.h,n.e]⟩
def clC (P:Program) (l:List Oper) (fr:Fr) (i:Nat):Option (Nat×Nat×Nat×List Value):=match vg l i with
 | some ⟨none,.call ⟨.builtin .clear,⟨[x]⟩,⟨t::ts⟩⟩,ty,pos,af,g⟩=>match gd l fr ⟨none,.call ⟨.builtin .clear,⟨[x]⟩,⟨t::ts⟩⟩,ty,pos,af,g⟩,look fr x,P.underlying t with
  | some true,some (.slice (some ⟨b,k,none⟩) (n+1) _),some (.slice e)=>match zbw P (zeroValue e) with
   | some z=>some (b,k,n+1,(Builtin.zeroCells z.cells (n+1)).toList)
   | none=>none
  | _,_,_=>none
 | _=>none
def zs (P:Program) (l:List Oper) (fr:Fr) (i:Nat):Nat->Option (List Value)
 | 0=>some []
 | n+1=>match zs P l fr i n with
  | some q=>some ((match clC P l fr i with
   | some (_,_,_,v::_)=>v
   | _=>undef)::q)
  | none=>none
theorem GO.bxe {T:TypeId} {cs:List Value} {L1:Nat->List zz} (hT:KR (opT l i) T) (hc:KR (zcX (bxC l N fr i)) (some cs)) (hL: ∀ b,vA L (jF b T cs)=some (L1 b))
  (n: ∀ b,GO hs f r Fs (L1 b) ((dst l i,.pointer (some ⟨b,0,none⟩))::fr) P B N w0 Z l (i+1) Q):GO (.bxe T cs::hs) f r Fs L fr P B N w0 Z l i Q:=⟨fun w a s q=>by
 obtain ⟨u,hu,hcs⟩:=zeV hc.h
 unfold bxC at hu
 split at hu
 ·rename_i o' e' x' _ _ _ _ ho
  obtain ⟨d,hl,hg,hd,hN⟩:=jo ho
  simp only at hd
  subst hd
  refine OW.box s hl hg hN hu cs hcs fun b w' s'=> ?_
  have h1:=(n b).o w' a (by
   rw [zaq (hL b)]
   have:opT l i=e':=by simp [opT,hl]
   rw [<- hT.h,this];exact s') q
  rw [vN hl rfl] at h1
  exact h1
 ·cases hu⟩
theorem GO.ste {j k b m:Nat} {T:TypeId} {cs us cs':List Value} {L1:List zz} (hj:nth L j=some (jF b T cs)) (hs':zcV cs us k=some cs') (hm:us.length=m) (hw:KR (zcX (stV l fr i)) (some us)) (hc:KR (stC P l fr i m) (some ⟨b,k,none⟩))
  (h1:KR (zec us) true) (h0:KR (zmM us) true) (hL:zch L j (jF b T cs')=some L1) (n:GO hs f r Fs L1 fr P B N w0 Z l (i+1) Q):GO (.ste j k us::hs) f r Fs L fr P B N w0 Z l i Q:=⟨fun w a s q=>by
 obtain ⟨t,x',y',ty,pos,af,g,u,hl,hg,hx,hy,hcv,hsz⟩:=zez hc.h hw.h hm
 obtain ⟨e3,e4⟩:=zbh hs' (by intro e5;have:=h0.h;rw [e5] at this;cases this)
 refine OW.stB s j (by rw [<- zD];exact hj) hl hg hx hy hsz (by rw [hcv];exact h1.h) (by rw [hcv];exact Nat.ble_eq_true_of_le e4) cs' (by rw [hcv];exact e3) fun w' s'=> ?_
 exact n.o w' a (by rw [qT hL];exact s') q⟩
def reh (v:Value):List Nat->Fr->Fr
 | [],fr=>fr
 | q::r,fr=>(q,v)::reh v r fr
def zlZ (fr:Fr):List Nat->List (Option Value)
 | []=> []
 | q::r=>zeu fr q::zlZ fr r
def zl0 (v:Value):List Nat->List (Option Value)
 | []=> []
 | _::r=>some v::zl0 v r
theorem zln {v:Value} {a:Act} (h:Rep N fr a): ∀ {qs:List Nat},zlZ fr qs=zl0 v qs->Rep N (reh v qs fr) a
 | [],_=>h
 | q::r,e=>by
  simp only [zlZ,zl0,List.cons.injEq] at e
  have ih:=zln h e.2
  refine ⟨ih.size,ih.defers,fun i u hi=> ?_⟩
  simp only [reh] at hi
  rw [zaO] at hi
  split at hi
  ·rename_i hq
   subst hq
   cases hi
   exact h.get _ _ e.1
  ·exact ih.get i u hi
theorem _root_.Go.Sx.St.rlen {α:Type} {w:World} {j m c sz:Nat} {a:Option Addr} {T:TypeId} {enc:α->List Value} {xs:List α} (s:St w0 Z w L) (hj:nth L j=some (zZ (.slice a m c) T enc sz xs)):m=xs.length:=by
 obtain ⟨_,a',c',e⟩:=s.len j (by rw [<- zD];exact hj)
 cases e;rfl
theorem _root_.Go.Sx.St.nlen' {α:Type} {w:World} {j m c:Nat} {a:Option Addr} {T:TypeId} {R:Rp α} {S:List Nat} {ho:Option (Nat×List Value)} {xs:List α} (s:St w0 Z w L) (hj:nth L j=some (nI T R (.slice a m c) S xs ho)):m=xs.length:=by
 obtain ⟨_,a',c',e⟩:=s.nlen j (by rw [<- zD];exact hj)
 cases e;rfl
theorem zhp {α:Type} {L L1:List α} {j:Nat} {x:α} (h:L[j]? =some x) (hL:zch L j x=some L1):L1=L:=by
 rw [qT hL]
 apply List.ext_getElem?
 intro k
 by_cases hk:j=k
 ·subst hk;rw [List.getElem?_set_self (zes.1 h).1,h]
 ·rw [List.getElem?_set_ne hk]
theorem Adm.nc {α:Type} {jb k j b m c sz:Nat} {a:Option Addr} {T T':TypeId} {enc:α->List Value} {xs:List α} {cs cs':List Value} {L1:List zz} (hj:nth L j=some (zZ (.slice a m c) T' enc sz xs)) (hb:nth L jb=some (jF b T cs)) (hk:KR (nth cs k) (some (.slice a m c)))
  (hs:zch cs k (.slice a xs.length c)=some cs') (hL:zch L jb (jF b T cs')=some L1):Adm (.nc jb k j) Fs L (fun _:Unit=>L1) (fun _=>Fs):=⟨fun w0 Z w al s=>⟨(),by
 have hm:=s.rlen hj
 have hk:=hk.h
 rw [hm,zD] at hk
 have e1:=zhp hk hs
 subst e1
 rw [zhp (by rw [<- zD];exact hb) hL]
 exact s,al⟩⟩
theorem Adm.nd {α:Type} {jb k j b m c:Nat} {a:Option Addr} {T T':TypeId} {R:Rp α} {S:List Nat} {ho:Option (Nat×List Value)} {xs:List α} {cs cs':List Value} {L1:List zz} (hj:nth L j=some (nI T' R (.slice a m c) S xs ho)) (hb:nth L jb=some (jF b T cs)) (hk:KR (nth cs k) (some (.slice a m c)))
  (hs:zch cs k (.slice a xs.length c)=some cs') (hL:zch L jb (jF b T cs')=some L1):Adm (.nd jb k j) Fs L (fun _:Unit=>L1) (fun _=>Fs):=⟨fun w0 Z w al s=>⟨(),by
 have hm:=s.nlen' hj
 have hk:=hk.h
 rw [hm,zD] at hk
 have e1:=zhp hk hs
 subst e1
 rw [zhp (by rw [<- zD];exact hb) hL]
 exact s,al⟩⟩
theorem GQ.nl {α:Type} {j m c sz:Nat} {qs:List Nat} {a:Option Addr} {T:TypeId} {enc:α->List Value} {xs:List α} {L1:List zz} (hj:nth L j=some (zZ (.slice a m c) T enc sz xs)) (hq:KR (zlZ fr qs) (zl0 (.slice a m c) qs))
  (hL:zch L j (zZ (.slice a xs.length c) T enc sz xs)=some L1) (n:GQ hs f r Fs L1 (reh (.slice a xs.length c) qs fr) P B N w0 Z e Q):GQ (.nl j qs::hs) f r Fs L fr P B N w0 Z e Q:=⟨fun w al s g b hb=>by
 have hm:=s.rlen hj
 have hq:=hq.h
 rw [hm] at hq hj
 have e1:L1=L:=by
  rw [qT hL]
  have hj':L[j]? =some (zZ (.slice a xs.length c) T enc sz xs):=by rw [<- zD];exact hj
  apply List.ext_getElem?
  intro k
  by_cases hk:j=k
  ·subst hk;rw [List.getElem?_set_self (zes.1 hj').1,hj']
  ·rw [List.getElem?_set_ne hk]
 subst e1
 exact n.o w al s g b (zln hb hq)⟩
theorem GC.nl {α:Type} {j m c0 sz:Nat} {qs:List Nat} {a:Option Addr} {T:TypeId} {enc:α->List Value} {xs:List α} {L1:List zz} (hj:nth L j=some (zZ (.slice a m c0) T enc sz xs)) (hq:KR (zlZ fr qs) (zl0 (.slice a m c0) qs))
  (hL:zch L j (zZ (.slice a xs.length c0) T enc sz xs)=some L1) (n:GC hs f r Fs L1 (reh (.slice a xs.length c0) qs fr) P B N w0 Z c Q):GC (.nl j qs::hs) f r Fs L fr P B N w0 Z c Q:=⟨fun w al s g b hb=>by
 have hm:=s.rlen hj
 have hq:=hq.h
 rw [hm] at hq hj
 have e1:L1=L:=by
  rw [qT hL]
  have hj':L[j]? =some (zZ (.slice a xs.length c0) T enc sz xs):=by rw [<- zD];exact hj
  apply List.ext_getElem?
  intro k
  by_cases hk:j=k
  ·subst hk;rw [List.getElem?_set_self (zes.1 hj').1,hj']
  ·rw [List.getElem?_set_ne hk]
 subst e1
 exact n.o w al s g b (zln hb hq)⟩
theorem GQ.nm {α:Type} {j m c:Nat} {qs:List Nat} {a:Option Addr} {T:TypeId} {R:Rp α} {S:List Nat} {ho:Option (Nat×List Value)} {xs:List α} {L1:List zz} (hj:nth L j=some (nI T R (.slice a m c) S xs ho)) (hq:KR (zlZ fr qs) (zl0 (.slice a m c) qs))
  (hL:zch L j (nI T R (.slice a xs.length c) S xs ho)=some L1) (n:GQ hs f r Fs L1 (reh (.slice a xs.length c) qs fr) P B N w0 Z e Q):GQ (.nm j qs::hs) f r Fs L fr P B N w0 Z e Q:=⟨fun w al s g b hb=>by
 have hm:=s.nlen' hj
 have hq:=hq.h
 rw [hm] at hq hj
 have e1:L1=L:=by
  rw [qT hL]
  have hj':L[j]? =some (nI T R (.slice a xs.length c) S xs ho):=by rw [<- zD];exact hj
  apply List.ext_getElem?
  intro k
  by_cases hk:j=k
  ·subst hk;rw [List.getElem?_set_self (zes.1 hj').1,hj']
  ·rw [List.getElem?_set_ne hk]
 subst e1
 exact n.o w al s g b (zln hb hq)⟩
theorem Adm.shx {α β:Type} {j b:Nat} {ks:List Pa} {rest js:List Nat} {R:Rp α} {Lr:List zz} {T:TypeId} {cs vs:List Value} {ff:α->List Value->List Value} {sz:Nat} {hl: ∀ x vs,(ff x vs).length=sz} {g:α->β} {A:Rp β} {x:α} {y:β} {L1:List Nat->List zz}
 (hj:nth L j=some (jF b T cs)) (hR:R=qU ff sz hl g A) (hS:xj ks Fs L A js vs y) (hy:g x=y) (hr:zdT L rest []=some Lr) (hL: ∀ S,vA Lr (itI (za3 T R) [.pointer (some ⟨b,0,none⟩)] S x)=some (L1 S))
 (hd:KR (zB ((j::js)++rest)) true) (hx:KR cs (ff x vs)):Adm (.shx j ks rest R x) Fs L L1 (fun _=>Fs):=⟨(Adm.sh hj hR hS hr hL hd hx ⟨hy⟩).o⟩
theorem LkV.pv {α:Type} {q n c:Nat} {a:Option Addr} {xs ys:List α} {hi:Int} {sz:Nat} (hcap: ∀ w0 Z w,zbG w0 Z Fs->St w0 Z w L->xs.length<=c) (hq:nth Fs q=some (.oe (cut xs 0 hi) ys)) (hc:cpC P l N fr i=some (.slice a n c,none,some hi,sz)) (w:World) (al:zbG w0 Z Fs) (s:St w0 Z w L):
  ∃ o d,vg l i=some o/\gd l fr o=some true/\o.dst=some d/\Nat.blt d N=true/\ ∀ a',Rep N fr a'->(execOp a'.eval o).run P w= .ok (.value (.slice a ys.length c)) w:=by
 unfold cpC at hc
 split at hc
 ·rename_i ho
  split at hc
  ·rename_i h1 h2
   split at hc
   ·rename_i hz
    split at hc
    ·split at hc
     ·rename_i h3
      cases hc
      obtain ⟨d,hl,hg,hd,hN⟩:=jo ho
      exact ⟨_,d,hl,hg,hd,hN,fun b hb=>zld sz rfl h2 h3 (zA al hq) (hcap w0 Z w al s) h1 hz b w hb⟩
     ·cases hc
    ·split at hc<;>cases hc
    ·split at hc<;>cases hc
    ·cases hc
   ·cases hc
  ·cases hc
 ·cases hc
theorem GO.pw {α:Type} {j q n c:Nat} {a:Option Addr} {T:TypeId} {enc:α->List Value} {xs xs' ys:List α} {hi:Int} {sz:Nat} (hj:nth L j=some (zZ (.slice a n c) T enc sz xs')) (hq:nth Fs q=some (.oe (cut xs 0 hi) ys)) (hxx:KR xs' xs) (hc:KR (cpC P l N fr i) (some (.slice a n c,none,some hi,sz)))
  (m:GO hs f r Fs L ((dst l i,.slice a ys.length c)::fr) P B N w0 Z l (i+1) Q):GO (.pw j q::hs) f r Fs L fr P B N w0 Z l i Q:=⟨fun w al s e=>by
 obtain ⟨o,d,hl,hg,hd,hN,hr⟩:=LkV.pv (Fs:=Fs) (L:=L) (w0:=w0) (Z:=Z) (fun w0 Z w a s=>by rw [<- hxx.h];exact s.cap j (by rw [<- zD];exact hj)) hq hc.h w al s
 have h1:=m.o w al s e
 rw [vN hl hd] at h1
 exact OW.op hl hg hd hN hr h1⟩
theorem zsg {α:Type} {w:World} {j q n c sz:Nat} {a:Option Addr} {T:TypeId} {enc:α->List Value} {xs xs' ys:List α} {hi t:Int} {x:α} {Fs1:α->Nat->Nat->List Fa} (hj:nth L j=some (zZ (.slice a n c) T enc sz xs')) (hxx:KR xs' xs) (hq:nth Fs q=some (.oe (cut xs 0 hi) ys))
  (hF: ∀ x g o,zg0 Fs [.el (.slice a ys.length c) g o t ys x,.el (.slice a n c) g o t xs x]=some (Fs1 x g o)) (al:zbG w0 Z Fs) (s:St w0 Z w L) (hx:idx ys t=some x): ∃ g o,zbG w0 Z (Fs1 x g o):=by
 have hj:=hj
 rw [hxx.h] at hj
 have h2:cut xs 0 hi=some ys:=zA al hq
 have h3:=zq6 h2 hx
 obtain ⟨g,o,cap,hv⟩:=s.rowv j (by rw [<- zD];exact hj) h3
 refine ⟨g,o,zg1 (hF x g o) al ⟨⟨hx,cap,?_⟩,⟨h3,cap,hv⟩,trivial⟩⟩
 cases hv
 rfl
theorem GO.vb {α:Type} {j q n c sz:Nat} {a:Option Addr} {T:TypeId} {enc:α->List Value} {xs xs' ys:List α} {hi t:Int} {k:α->Option ρ} {Fs1:α->Nat->Nat->List Fa} (hj:nth L j=some (zZ (.slice a n c) T enc sz xs')) (hq:nth Fs q=some (.oe (cut xs 0 hi) ys)) (hxx:KR xs' xs)
  (hF: ∀ x g o,zg0 Fs [.el (.slice a ys.length c) g o t ys x,.el (.slice a n c) g o t xs x]=some (Fs1 x g o)) (m: ∀ x g o,GO hs (k x) r (Fs1 x g o) L fr P B N w0 Z l i Q):GO (.vb j q::hs) ((idx ys t).bind k) r Fs L fr P B N w0 Z l i Q:=⟨fun w al s e=>by
 obtain ⟨x,hx,hk⟩:=zq e
 obtain ⟨g,o,h1⟩:=zsg hj hxx hq hF al s hx
 exact (m x g o).o w h1 s hk⟩
end
structure DG (κ:Type) where
 a:Nat
 s:List Nat
 k:κ
 u:Value
 t:List Nat
section
variable {α β γ ρ:Type} {Fs:List Fa} {L:List zz}
theorem xj.os {j:Nat} {U:TypeId} {R:Rp α} {v:Value} {S:List Nat} {y:α} (hj:nth L j=some (itI (za3 U R) [v] S y)):xj [.os j] Fs L (zjq U R) [j] [v] (some y):=
 xj.item hj fun w ho=>ho
end
section
variable {α ρ κ:Type} {hs:List H} {f:Option ρ} {r:ρ} {Fs:List Fa} {L:List zz} {fr:Fr} {P:Program} {B:Func} {N:Nat} {w0:World} {Z:List Nat} {Q:Exit->Act->World->Prop} {l:List Oper} {i:Nat} {Fs1:DG κ->List Fa} {L1:DG κ->List zz}
theorem GO.dg (n: ∀ a s k u t,GO hs f r (Fs1 ⟨a,s,k,u,t⟩) (L1 ⟨a,s,k,u,t⟩) fr P B N w0 Z l i Q) (q:DG κ):GO hs f r (Fs1 q) (L1 q) fr P B N w0 Z l i Q:=n q.a q.s q.k q.u q.t
theorem GS.dg {c:Nat} {m:Bool} (n: ∀ a s k u t,GS hs f r (Fs1 ⟨a,s,k,u,t⟩) (L1 ⟨a,s,k,u,t⟩) fr P B N w0 Z l i c m Q) (q:DG κ):GS hs f r (Fs1 q) (L1 q) fr P B N w0 Z l i c m Q:=n q.a q.s q.k q.u q.t
theorem GC.dg {c:Code} (n: ∀ a s k u t,GC hs f r (Fs1 ⟨a,s,k,u,t⟩) (L1 ⟨a,s,k,u,t⟩) fr P B N w0 Z c Q) (q:DG κ):GC hs f r (Fs1 q) (L1 q) fr P B N w0 Z c Q:=n q.a q.s q.k q.u q.t
theorem GQ.dg {e:Exit} (n: ∀ a s k u t,GQ hs f r (Fs1 ⟨a,s,k,u,t⟩) (L1 ⟨a,s,k,u,t⟩) fr P B N w0 Z e Q) (q:DG κ):GQ hs f r (Fs1 q) (L1 q) fr P B N w0 Z e Q:=n q.a q.s q.k q.u q.t
end
section
variable {α ρ:Type} {hs:List H} {r:ρ} {Fs:List Fa} {L:List zz} {fr:Fr} {P:Program} {B:Func} {N:Nat} {w0:World} {Z:List Nat} {Q:Exit->Act->World->Prop} {l:List Oper} {i j:Nat} {U:TypeId} {R:Rp α} {u:Value} {S:List Nat} {o:Option α} {k:α->Option ρ} {L1:α->List zz}
theorem zg2 {w:World} {y:α} (hj:nth L j=some (itI (zjq U R) [u] S o)) (hL:zch L j (itI (za3 U R) [u] S y)=some (L1 y)) (s:St w0 Z w L) (hy:o=some y):St w0 Z w (L1 y)/\ ∃ b,u= .pointer (some ⟨b,0,none⟩):=by
 have hj':L[j]? =some (itI (zjq U R) [u] S o):=by rw [<- zD];exact hj
 have s2:=s.optSome j hj' hy
 have hb:=s2.fptr (U:=U) (R:=R) (u:=u) (x:=y) j (by rw [List.getElem?_set_self (zes.1 hj').1])
 rw [<- qT hL] at s2
 exact ⟨s2,hb⟩
theorem GO.fo (hj:nth L j=some (itI (zjq U R) [u] S o)) (hL: ∀ y,zch L j (itI (za3 U R) [u] S y)=some (L1 y)) (n: ∀ y b,u= .pointer (some ⟨b,0,none⟩)->GO hs (k y) r Fs (L1 y) fr P B N w0 Z l i Q):GO (.fo j::hs) (o.bind k) r Fs L fr P B N w0 Z l i Q:=⟨fun w a s q=>by
 obtain ⟨y,hy,hk⟩:=zq q
 obtain ⟨s2,b,hb⟩:=zg2 hj (hL y) s hy
 exact (n y b hb).o w a s2 hk⟩
theorem GS.fo {c:Nat} {m:Bool} (hj:nth L j=some (itI (zjq U R) [u] S o)) (hL: ∀ y,zch L j (itI (za3 U R) [u] S y)=some (L1 y)) (n: ∀ y b,u= .pointer (some ⟨b,0,none⟩)->GS hs (k y) r Fs (L1 y) fr P B N w0 Z l i c m Q):GS (.fo j::hs) (o.bind k) r Fs L fr P B N w0 Z l i c m Q:=⟨fun w a s q=>by
 obtain ⟨y,hy,hk⟩:=zq q
 obtain ⟨s2,b,hb⟩:=zg2 hj (hL y) s hy
 exact (n y b hb).o w a s2 hk⟩
theorem GC.fo {c:Code} (hj:nth L j=some (itI (zjq U R) [u] S o)) (hL: ∀ y,zch L j (itI (za3 U R) [u] S y)=some (L1 y)) (n: ∀ y b,u= .pointer (some ⟨b,0,none⟩)->GC hs (k y) r Fs (L1 y) fr P B N w0 Z c Q):GC (.fo j::hs) (o.bind k) r Fs L fr P B N w0 Z c Q:=⟨fun w a s q=>by
 obtain ⟨y,hy,hk⟩:=zq q
 obtain ⟨s2,b,hb⟩:=zg2 hj (hL y) s hy
 exact (n y b hb).o w a s2 hk⟩
theorem GP.fo {done eff:List Nat} {pd:List (Nat×Pn)} (hj:nth L j=some (itI (zjq U R) [u] S o)) (hL: ∀ y,zch L j (itI (za3 U R) [u] S y)=some (L1 y)) (n: ∀ y b,u= .pointer (some ⟨b,0,none⟩)->GP hs (k y) r Fs (L1 y) fr P B N w0 Z l done eff pd Q):GP (.fo j::hs) (o.bind k) r Fs L fr P B N w0 Z l done eff pd Q:=⟨fun w a s q=>by
 obtain ⟨y,hy,hk⟩:=zq q
 obtain ⟨s2,b,hb⟩:=zg2 hj (hL y) s hy
 exact (n y b hb).o w a s2 hk⟩
end
end Go.Sx
namespace Go.Sx
open Go.RowKit
section
variable {β:Type} {q:Nat} {Fs:List Fa} {L:List zz}
theorem zb6.mapn {R:Rp β}:zb6 [5] q Fs (zkk R) (fun (i:Nat×List Nat) _=> [.map (some i.1)]) (fun i y=> [mN i.1 R i.2 y none]) (fun _ _=> []):=⟨by
 intro w0 Z w cs S y a ho
 have hn:=(zkk R).nd w cs S y ho
 obtain ⟨r,rfl,h⟩:=ho
 exact ⟨(r,S),rfl,zam.single (it:=mN r R S y none) h hn rfl,trivial⟩⟩
theorem xj.mapn {j r:Nat} {R:Rp β} {S:List Nat} {m:List (Int×β)} (hj:nth L j=some (mN r R S m none)):xj [.r j] Fs L (zkk R) [j] [.map (some r)] m:=xj.item hj fun w ho=>⟨r,rfl,ho⟩
end
section
variable {ρ:Type} {h:LH} {hs hs' hs1 hs2:List H} {f:Option ρ} {r:ρ} {Fs Fs':List Fa} {L L':List zz} {fr:Fr} {P:Program} {B:Func} {N:Nat} {w0:World} {Z:List Nat} {c x y:Code} {Q:Exit->Act->World->Prop} {l:List Oper} {i:Nat} {e:Exit} {v:Value}
theorem zam.nilI {w:World} {S:List Nat} {B:List zz} (h:zam w S B):zam w S (nilI::B):=zam.cons trivial List.nodup_nil (fun b hb=>by cases hb) (S2:=S) (fun b hb=>by cases hb) h (fun b hb=>hb)
theorem Adm.ne {α ι:Type} {j q e g o:Nat} {ks:List Nat} {T:TypeId} {R:Rp α} {v':Value} {S:List Nat} {xs xs':List α} {t:Int} {x:α} {vs:ι->α->List Value} {its:ι->α->List zz} {fcs:ι->α->List Fa} {Lq L1:ι×List Nat->List zz} {Fs1:ι×List Nat->List Fa}
  (hq:nth Fs q=some (.el v' g o t xs x)) (hj:nth L j=some (nI T R v' S xs' none)) (hxx:KR xs' xs) (hO:zb6 ks e Fs R vs its fcs) (hN: ∀ p,zch L j (nI T R v' p.2 xs' (some (t.toNat,vs p.1 x)))=some (Lq p)) (hA: ∀ p,zg0 (Lq p) (nilI::its p.1 x)=some (L1 p)) (hF: ∀ p,zg0 Fs (fcs p.1 x)=some (Fs1 p)):
  Adm (.ne j q e ks) Fs L L1 Fs1:=⟨fun w0 Z w a s=>by
 obtain ⟨hx,c,hv⟩:=zA a hq
 have hxx:=hxx.h
 subst hxx
 have hj':L[j]? =some (nI T R v' S xs' none):=by rw [<- zD];exact hj
 obtain ⟨cs,S1,S2,hl,hce,s2⟩:=s.nout j hj' hx hv
 have ho:R.own w cs S2 x:=s2.all L.length (itI R cs S2 x) (by simp)
 obtain ⟨k,rfl,hp,hf⟩:=hO.o w0 Z w _ _ _ a ho
 refine ⟨(k,S1),?_,zg1 (hF (k,S1)) a hf⟩
 rw [zcU (hA (k,S1)),qT (hN (k,S1))]
 exact s2.spread hp.nilI⟩
theorem Adm.nbx {α:Type} {k q g o n:Nat} {rest js:List Nat} {ks:List Pa} {T:TypeId} {R:Rp α} {v' v'':Value} {S:List Nat} {xs xs':List α} {t:Int} {x y:α} {cs:List Value} {Lr:List zz} {L1:List Nat->List zz}
 (hq:nth Fs q=some (.el v'' g o t xs x)) (hr:zdT L rest []=some Lr) (hk:nth Lr k=some (nI T R v' S xs' (some (n,cs)))) (hS:xj ks Fs L R js cs y) (hxx:KR xs' xs) (hn:KR n t.toNat) (hd:KR (zB (js++rest)) true)
 (hL: ∀ S',zch Lr k (nI T R v' S' (xs'.set n y) none)=some (L1 S')):Adm (.nbx k q rest ks y) Fs L L1 (fun _=>Fs):=⟨(Adm.nb hq hr hk hS hxx hn ⟨rfl⟩ hd hL).o⟩
theorem Adm.nb0s {α:Type} {k q g o n:Nat} {rest js:List Nat} {ks:List Pa} {T:TypeId} {R:Rp α} {v' v'':Value} {S:List Nat} {xs xs':List α} {t:Int} {x:α} {cs:List Value} {Lr:List zz} {L1:List Nat->List zz}
 (hq:nth Fs q=some (.el v'' g o t xs x)) (hr:zdT L rest []=some Lr) (hk:nth Lr k=some (nI T R v' S xs' (some (n,cs)))) (hS:xj (.s::ks) Fs L R js cs x) (hxx:KR xs' xs) (hn:KR n t.toNat) (hd:KR (zB (js++rest)) true)
 (hL: ∀ S',zch Lr k (nI T R v' S' xs' none)=some (L1 S')):Adm (.nb0 k q rest (.s::ks)) Fs L L1 (fun _=>Fs):=⟨(Adm.nb0 hq hr hk hS hxx hn ⟨rfl⟩ ⟨rfl⟩ hd hL).o⟩
theorem GO.sh_ {α:Type} {j q ff m n g o:Nat} {T:TypeId} {R:Rp α} {v':Value} {S:List Nat} {xs xs':List α} {cs us cs':List Value} {t:Int} {x:α} {L1:List zz} (hq:nth Fs q=some (.el v' g o t xs x)) (hj:nth L j=some (nI T R v' S xs' (some (n,cs)))) (hn:KR n t.toNat)
  (hv:ziT (stV l fr i) 0 m=some us) (hs':zcV cs us ff=some cs') (hw:KR (zcX (stV l fr i)) (some us)) (hc:KR (stC P l fr i m) (some ⟨g,o+t.toNat*R.sz+ff,none⟩))
  (hm:KR us.length m) (h1:KR (zec us) true) (h0:KR (zmM us) true) (hL:zch L j (nI T R v' S xs' (some (n,cs')))=some L1) (nx:GO hs f r Fs L1 fr P B N w0 Z l (i+1) Q):GO (.sh_ j q ff m::hs) f r Fs L fr P B N w0 Z l i Q:=⟨fun w a s e=>by
 obtain ⟨hx,cp,hv2⟩:=zA a hq
 have hn:=hn.h
 subst hn
 obtain ⟨t',x',y',ty,pos,af,g',u,hl,hg,hxl,hyl,hcv,hsz⟩:=zez hc.h hw.h hm.h
 have hne:us ≠ []:=by
  intro e
  have:=h0.h
  rw [e] at this
  cases this
 obtain ⟨e1,e2⟩:=zbh hs' hne
 have hj':L[j]? =some (nI T R v' S xs' (some (t.toNat,cs))):=by rw [<- zD];exact hj
 refine OW.stH s j hj' hv2 hl hg ff hxl rfl hyl hsz (by rw [hcv];exact h1.h) cs' (by rw [hcv,Nat.ble_eq];exact e2) (by rw [hcv];exact e1) fun w' s'=> ?_
 exact nx.o w' a (by rw [qT hL];exact s') e⟩
theorem zlm.consS {α β:Type} {ks:List Pa} {kss:List (List Pa)} {R:Rp α} {j1 j2:List Nat} {us:List Value} {css:List (List Value)} {ff:α->List Value->List Value} {sz:Nat} {hl: ∀ x vs,(ff x vs).length=sz} {g:α->β} {A:Rp β} {y:α} {z:β} {ys:List α} (hR:R=qU ff sz hl g A) (h1:xj ks Fs L A j1 us z) (hy:KR (g y) z) (h2:zlm kss Fs L R j2 css ys):zlm ((.s::ks)::kss) Fs L R (j1++j2) (ff y us::css) (y::ys):=zlm.cons (by subst hR;exact xj.st h1 ⟨rfl⟩ hy) h2
theorem GO.lyx {α:Type} {T:TypeId} {R:Rp α} {rest js:List Nat} {kss:List (List Pa)} {css:List (List Value)} {ys:List α} {Lr:List zz} {L1:Nat->List Nat->List zz} (hS:zlm kss Fs L R js css ys) (hr:zdT L rest []=some Lr) (hc:KR (rwC l N fr i) (some ys.length)) (hm:KR css.length ys.length) (hb:KR (Nat.ble ys.length 9223372036854775807) true)
 (hs:KR (zcy fr ((rwP l i).map (·.2))) true) (hv: ∀ w,KR ((Instr.buildSlice (rwT l i) ys.length ((rwP l i).toArray.map fun (i,x)=>(i,rho fr x))).run P w) (.ok (.slice (some ⟨w.heap.size,0,none⟩) ys.length ys.length) (w.alloc (.cells (vy (fit R.sz) css).toArray T))))
 (hd:KR (zB (js++rest)) true) (hL: ∀ g S',vA Lr (nI T R (.slice (some ⟨g,0,none⟩) ys.length ys.length) S' ys none)=some (L1 g S')) (n: ∀ g S',GO hs' f r Fs (L1 g S') ((dst l i,.slice (some ⟨g,0,none⟩) ys.length ys.length)::fr) P B N w0 Z l (i+1) Q):GO (.lyx T R rest kss ys::hs') f r Fs L fr P B N w0 Z l i Q:=⟨(GO.ly hS hr hc hm hb hs hv hd hL n).o⟩
def zsE (l:List Oper) (N:Nat) (fr:Fr) (i:Nat):Option TypeId:=match okO l N fr i with
 | some ⟨_,.makeMap t none,_,_,_,_⟩=>some t
 | _=>none
theorem GO.mnN {α:Type} {R:Rp α} {L1:Nat->List zz} (hc:KR (zsE l N fr i).isSome true) (hL: ∀ q,vA L (Sx.mN q R [q] ([]:List (Int×α)) none)=some (L1 q))
  (n: ∀ q,GO hs f r Fs (L1 q) ((dst l i,.map (some q))::fr) P B N w0 Z l (i+1) Q):GO (.mnN R::hs) f r Fs L fr P B N w0 Z l i Q:=⟨fun w a s e=>by
 have hc:=hc.h
 unfold zsE at hc
 split at hc
 ·rename_i d' t' _ _ _ _ hok
  obtain ⟨d,hl,hg,hd,hN⟩:=jo hok
  simp only at hd
  subst hd
  refine OW.mnewN R s hl hg hN fun q w' s'=> ?_
  have h1:=(n q).o w' a (by rw [zaq (hL q)];exact s') e
  rw [vN hl rfl] at h1
  exact h1
 ·cases hc⟩
def mlC (P:Program) (l:List Oper) (N:Nat) (fr:Fr) (i:Nat):Option (Nat×Int×Bool×Value):=match okO l N fr i with
 | some ⟨_,.lookup t x y two,_,_,_,_⟩=>match look fr x,look fr y,P.underlying t with
  | some (.map (some q)),some (.int .i64 k),some (.map tk te)=>match P.underlying tk,zbw P (zeroValue te) with
   | some (.int _),some vz=>some (q,k,two,vz)
   | _,_=>none
  | _,_,_=>none
 | _=>none
theorem zlo {q:Nat} {k:Int} {two:Bool} {vz:Value} (h:mlC P l N fr i=some (q,k,two,vz)):
  ∃ d t x y ty pos af gdd tk te kd,vg l i=some ⟨some d,.lookup t x y two,ty,pos,af,gdd⟩/\gd l fr ⟨some d,.lookup t x y two,ty,pos,af,gdd⟩=some true/\Nat.blt d N=true/\look fr x=some (.map (some q))/\look fr y=some (.int .i64 k)/\P.underlying t=some (.map tk te)/\P.underlying tk=some (.int kd)/\zbw P (zeroValue te)=some vz:=by
 unfold mlC at h
 split at h
 ·rename_i d' t x y two' ty pos af gdd hok
  split at h
  ·rename_i q' k' tk te hx hy ht
   split at h
   ·rename_i kd vz' hk hz
    simp only [Option.some.injEq,Prod.mk.injEq] at h
    obtain ⟨rfl,rfl,rfl,rfl⟩:=h
    obtain ⟨d,hl,hg,hd,hN⟩:=jo hok
    simp only at hd
    subst hd
    exact ⟨d,t,x,y,ty,pos,af,gdd,tk,te,kd,hl,hg,hN,hx,hy,ht,hk,hz⟩
   ·cases h
  ·cases h
 ·cases h
def mlT (l:List Oper) (i:Nat):Bool:=match vg l i with
 | some ⟨_,.lookup _ _ _ two,_,_,_,_⟩=>two
 | _=>false
def mlV (two:Bool) (v:Value) (b:Bool):Value:=match two with
 | true=> .tuple #[v,.bool b]
 | false=>v
theorem GO.mlP {α:Type} {j q:Nat} {k:Int} {two:Bool} {U:TypeId} {A:Rp α} {S:List Nat} {m:List (Int×α)} {Lq:List Nat->Value->List zz} {L1:Value->List Nat->List Nat->List zz} (hj:nth L j=some (Sx.mN q (za3 U A) S m none)) (h2:Nf (mlT l i) two) (hc:KR (mlC P l N fr i) (some (q,k,two,.pointer none)))
  (hN: ∀ S1 v,zch L j (Sx.mN q (za3 U A) S1 m (some (k,v)))=some (Lq S1 v)) (hL: ∀ v S1 S2,vA (Lq S1 v) (itI (zjq U A) [v] S2 (qO m k))=some (L1 v S1 S2))
  (n: ∀ v S1 S2,GO hs f r Fs (L1 v S1 S2) ((dst l i,mlV two v (qO m k).isSome)::fr) P B N w0 Z l (i+1) Q):GO (.mlP j k::hs) f r Fs L fr P B N w0 Z l i Q:=⟨fun w a s e=>by
 obtain ⟨d,t,x,y,ty,pos,af,gdd,tk,te,kd,hl,hg,hN',hx,hy,ht,hk,hz⟩:=zlo hc.h
 refine OW.mlook (zjq U A) (fun o=>o) s j (by rw [<- zD];exact hj) hl hg hN' hx hy ht hk (.pointer none) hz (fun _=>⟨rfl,rfl⟩) (fun _ _ _ _ h=>h) (fun _ _ _ _ h=>h) fun v S1 S2 s'=> ?_
 have h1:=(n v S1 S2).o w a (by rw [zaq (hL v S1 S2),qT (hN S1 v)];exact s') e
 rw [vN hl rfl] at h1
 cases two<;>exact h1⟩
theorem GO.mlR {α:Type} {j q sz:Nat} {k:Int} {two:Bool} {T:TypeId} {enc:α->List Value} {he: ∀ x,(enc x).length=sz} {hp:0<sz} {S:List Nat} {m:List (Int×List α)} {Lq:List Nat->Option Addr->Nat->List zz} {L1:List Nat->Option Addr->Nat->List zz} (hj:nth L j=some (Sx.mN q (zhc T enc sz he hp) S m none)) (h2:Nf (mlT l i) two) (hc:KR (mlC P l N fr i) (some (q,k,two,.slice none 0 0)))
  (hN: ∀ S1 a c,zch L j (Sx.mN q (zhc T enc sz he hp) S1 m (some (k,.slice a ((qO m k).getD []).length c)))=some (Lq S1 a c)) (hL: ∀ S1 a c,vA (Lq S1 a c) (zZ (.slice a ((qO m k).getD []).length c) T enc sz ((qO m k).getD []))=some (L1 S1 a c))
  (n: ∀ S1 a c,GO hs f r Fs (L1 S1 a c) ((dst l i,mlV two (.slice a ((qO m k).getD []).length c) (qO m k).isSome)::fr) P B N w0 Z l (i+1) Q):GO (.mlR j k::hs) f r Fs L fr P B N w0 Z l i Q:=⟨fun w a s e=>by
 obtain ⟨d,t,x,y,ty,pos,af,gdd,tk,te,kd,hl,hg,hN',hx,hy,ht,hk,hz⟩:=zlo hc.h
 refine OW.mlook (zhc T enc sz he hp) (fun o=>o.getD []) s j (by rw [<- zD];exact hj) hl hg hN' hx hy ht hk (.slice none 0 0) hz (fun w=>⟨_,rfl,rfl,zdn.nil w _ _ none⟩) (fun _ _ _ _ h=>h) (fun _ _ _ _ h=>h) fun v S1 S2 s'=> ?_
 have hlen:(L.set j (Sx.mN q (zhc T enc sz he hp) S1 m (some (k,v)))).length=L.length:=by simp
 have s2:=s'.toRow1 L.length (by rw [List.getElem?_append_right (by simp)];simp;rfl)
 rw [List.set_append_right _ _ (by simp)] at s2
 simp only [hlen,Nat.sub_self,List.set_cons_zero] at s2
 obtain ⟨_,pa,pc,rfl⟩:=s2.len L.length (by rw [List.getElem?_append_right (by simp)];simp;rfl)
 have h1:=(n S1 pa pc).o w a (by rw [zaq (hL S1 pa pc),qT (hN S1 pa pc)];exact s2) e
 rw [vN hl rfl] at h1
 cases two<;>exact h1⟩
def muC (P:Program) (l:List Oper) (fr:Fr) (i:Nat):Option (Nat×Int×Value):=match vg l i with
 | some ⟨none,.mapUpdate t x y z,ty,pos,af,g⟩=>match gd l fr ⟨none,.mapUpdate t x y z,ty,pos,af,g⟩,look fr x,look fr y,look fr z with
  | some true,some (.map (some q)),some (.int .i64 k),some v=>match P.underlying t with
   | some (.map tk _)=>match P.underlying tk with
    | some (.int _)=>some (q,k,v)
    | _=>none
   | _=>none
  | _,_,_,_=>none
 | _=>none
theorem zlp {q:Nat} {k:Int} {v:Value} (h:muC P l fr i=some (q,k,v)):
  ∃ t x y z ty pos af gdd tk te kd,vg l i=some ⟨none,.mapUpdate t x y z,ty,pos,af,gdd⟩/\gd l fr ⟨none,.mapUpdate t x y z,ty,pos,af,gdd⟩=some true/\look fr x=some (.map (some q))/\look fr y=some (.int .i64 k)/\look fr z=some v/\P.underlying t=some (.map tk te)/\P.underlying tk=some (.int kd):=by
 unfold muC at h
 split at h
 ·rename_i t x y z ty pos af g hl
  split at h
  ·rename_i q' k' v' hg hx hy hz
   split at h
   ·rename_i tk te ht
    split at h
    ·rename_i kd hk
     simp only [Option.some.injEq,Prod.mk.injEq] at h
     obtain ⟨rfl,rfl,rfl⟩:=h
     exact ⟨t,x,y,z,ty,pos,af,g,tk,te,kd,hl,hg,hx,hy,hz,ht,hk⟩
    ·cases h
   ·cases h
  ·cases h
 ·cases h
theorem GO.mpG {α:Type} {hh:H} {j q:Nat} {k:Int} {rest js:List Nat} {ks:List Pa} {R:Rp α} {S:List Nat} {m:List (Int×α)} {ho:Option (Int×Value)} {u:α} {v:Value} {Lr:List zz} {L1:List Nat->List zz}
  (hho: ∀ k' u,ho=some (k',u)->k'=k) (hr:zdT L rest []=some Lr) (hk:nth Lr j=some (Sx.mN q R S m ho)) (hS:xj ks Fs L R js [v] u) (hc:KR (muC P l fr i) (some (q,k,v))) (hd:KR (zB (js++rest)) true)
  (hL: ∀ S',zch Lr j (Sx.mN q R S' (mput m k u) none)=some (L1 S')) (n: ∀ S',GO hs f r Fs (L1 S') fr P B N w0 Z l (i+1) Q):GO (hh::hs) f r Fs L fr P B N w0 Z l i Q:=⟨fun w a s e=>by
 obtain ⟨t,x,y,z,ty,pos,af,gdd,tk,te,kd,hl,hg,hx,hy,hz,ht,hkk⟩:=zlp hc.h
 obtain ⟨S2,s2⟩:=zdi hS hr hd.h a s
 have hk':Lr[j]? =some (Sx.mN q R S m ho):=by rw [<- zD];exact hk
 have hlt:j<Lr.length:=(zes.1 hk').1
 refine OW.mputN (S2:=S2) (u:=u) s2 j Lr.length (zp7 (Nat.ne_of_lt hlt)) (by rw [List.getElem?_append_left hlt,hk']) hho (by simp) hl hg hx hy hz ht hkk fun S' w' s3=> ?_
 rw [zgL hk',List.set_append_right _ _ (by simp)] at s3
 simp at s3
 exact (n S').o w' a (by rw [qT (hL S')];exact zek s3) e⟩
theorem GO.mq {α:Type} {j q:Nat} {k k':Int} {rest js:List Nat} {ks:List Pa} {R:Rp α} {S:List Nat} {m:List (Int×α)} {u:α} {v v':Value} {Lr:List zz} {L1:List Nat->List zz}
 (hr:zdT L rest []=some Lr) (hk:nth Lr j=some (Sx.mN q R S m (some (k',v')))) (hkk:KR k' k) (hS:xj ks Fs L R js [v] u) (hc:KR (muC P l fr i) (some (q,k,v))) (hd:KR (zB (js++rest)) true)
 (hL: ∀ S',zch Lr j (Sx.mN q R S' (mput m k u) none)=some (L1 S')) (n: ∀ S',GO hs f r Fs (L1 S') fr P B N w0 Z l (i+1) Q):GO (.mq j k rest ks::hs) f r Fs L fr P B N w0 Z l i Q:=GO.mpG (fun _ _ e=>by cases e;exact hkk.h) hr hk hS hc hd hL n
def muV (P:Program) (l:List Oper) (fr:Fr) (i:Nat):Value:=match muC P l fr i with
 | some (_,_,v)=>v
 | none=>undef
theorem GO.mh {α:Type} {j q:Nat} {k:Int} {R:Rp α} {S:List Nat} {m:List (Int×α)} {u:α} {L1:List Nat->List zz}
  (hk:nth L j=some (Sx.mN q R S m none)) (hc:KR (muC P l fr i) (some (q,k,muV P l fr i))) (hL: ∀ S',zch L j (Sx.mN q R S' (mput m k u) (some (k,muV P l fr i)))=some (L1 S')) (n: ∀ S',GO hs f r Fs (L1 S') fr P B N w0 Z l (i+1) Q):GO (.mh j k u::hs) f r Fs L fr P B N w0 Z l i Q:=⟨fun w a s e=>by
 obtain ⟨t,x,y,z,ty,pos,af,gdd,tk,te,kd,hl,hg,hx,hy,hz,ht,hkk⟩:=zlp hc.h
 refine OW.mputH s j u (by rw [<- zD];exact hk) (fun _ _ e=>by cases e) hl hg hx hy hz ht hkk fun S' w' s3=> ?_
 exact (n S').o w' a (by rw [qT (hL S')];exact s3) e⟩
def mdC (P:Program) (l:List Oper) (fr:Fr) (i:Nat):Option (Nat×Int):=match vg l i with
 | some ⟨none,.call ⟨.builtin .delete,⟨[x,y]⟩,⟨t::ts⟩⟩,ty,pos,af,g⟩=>match gd l fr ⟨none,.call ⟨.builtin .delete,⟨[x,y]⟩,⟨t::ts⟩⟩,ty,pos,af,g⟩,look fr x,look fr y,P.underlying t with
  | some true,some (.map (some q)),some (.int .i64 k),some (.map tk _)=>match P.underlying tk with
   | some (.int _)=>some (q,k)
   | _=>none
  | _,_,_,_=>none
 | _=>none
theorem GO.md {α:Type} {j q:Nat} {k:Int} {R:Rp α} {S:List Nat} {m:List (Int×α)} {L1:List Nat->List zz} (hj:nth L j=some (Sx.mN q R S m none)) (hc:KR (mdC P l fr i) (some (q,k))) (hL: ∀ S',zch L j (Sx.mN q R S' (mdel m k) none)=some (L1 S'))
  (n: ∀ S',GO hs f r Fs (L1 S') fr P B N w0 Z l (i+1) Q):GO (.md j k::hs) f r Fs L fr P B N w0 Z l i Q:=⟨fun w a s e=>by
 have hc:=hc.h
 unfold mdC at hc
 split at hc
 ·rename_i x y t ts ty pos af g hl
  split at hc
  ·rename_i q' k' tk te hg hx hy ht
   split at hc
   ·rename_i kd hk
    simp only [Option.some.injEq,Prod.mk.injEq] at hc
    obtain ⟨rfl,rfl⟩:=hc
    refine OW.mdelN (ats:=t::ts) s j (by rw [<- zD];exact hj) hl hg rfl hx hy ht hk fun S' w' s'=> ?_
    exact (n S').o w' a (by rw [qT (hL S')];exact s') e
   ·cases hc
  ·cases hc
 ·cases hc⟩
def llC (P:Program) (l:List Oper) (N:Nat) (fr:Fr) (i:Nat):Option Nat:=match okO l N fr i with
 | some ⟨_,.call ⟨.builtin .len,⟨[x]⟩,⟨t::_⟩⟩,_,_,_,_⟩=>match look fr x,P.underlying t with
  | some (.map (some q)),some (.map _ _)=>some q
  | _,_=>none
 | _=>none
theorem GO.ll {α:Type} {j q:Nat} {R:Rp α} {S:List Nat} {m:List (Int×α)} {ho:Option (Int×Value)} (hj:nth L j=some (Sx.mN q R S m ho)) (hc:KR (llC P l N fr i) (some q))
  (n:GO hs f r Fs L ((dst l i,.int .i64 (m.length:Int))::fr) P B N w0 Z l (i+1) Q):GO (.ll j::hs) f r Fs L fr P B N w0 Z l i Q:=⟨fun w a s e=>by
 have hc:=hc.h
 unfold llC at hc
 split at hc
 ·rename_i d' x t ts _ _ _ _ hok
  split at hc
  ·rename_i q' tk te hx ht
   simp only [Option.some.injEq] at hc
   subst hc
   obtain ⟨d,hl,hg,hd,hN⟩:=jo hok
   simp only at hd
   subst hd
   refine OW.op hl hg rfl hN (zom (ats:=t::ts) s j (by rw [<- zD];exact hj) rfl rfl hx ht) ?_
   have h1:=n.o w a s e
   rw [vN hl rfl] at h1
   exact h1
  ·cases hc
 ·cases hc⟩
theorem zkB {α γ:Type} {ks:List Pa} {k q:Nat} {kk:Int} {v:Value} {rest js:List Nat} {R:Rp α} {R0:Rp γ} {ff:Option α->γ} {S:List Nat} {m:List (Int×α)} {y:γ} {Lr:List zz} (hr:zdT L rest []=some Lr) (hk:nth Lr k=some (Sx.mN q R S m (some (kk,v)))) (hS:xj ks Fs L R0 js [v] y)
  (hR2: ∀ w cs S x,R0.own w cs S (ff (some x))->R.own w cs S x) (hd:zB (js++rest)=true) (z:α) (hy:(qO m kk).isSome=true->y=ff (some z)) {w:World} (a:zbG w0 Z Fs) (s:St w0 Z w L): ∃ S',St w0 Z w (Lr.set k (Sx.mN q R S' (zf7 m kk z) none)):=by
 obtain ⟨S2,s2⟩:=zdi hS hr hd a s
 have hk':Lr[k]? =some (Sx.mN q R S m (some (kk,v))):=by rw [<- zD];exact hk
 have hlt:k<Lr.length:=(zes.1 hk').1
 obtain ⟨S',s3⟩:=s2.mback (f:=ff) k Lr.length (S2:=S2) (zp7 (Nat.ne_of_lt hlt)) (by rw [List.getElem?_append_left hlt,hk']) (by simp) hR2 z hy
 refine ⟨S',?_⟩
 rw [zgL hk',List.set_append_right _ _ (by simp)] at s3
 simp at s3
 exact zek s3
theorem zlq {α γ:Type} {ks:List Pa} {k q:Nat} {kk:Int} {v:Value} {rest js:List Nat} {R:Rp α} {R0:Rp γ} {ff:Option α->γ} {S:List Nat} {m:List (Int×α)} {Lr:List zz} (hr:zdT L rest []=some Lr) (hk:nth Lr k=some (Sx.mN q R S m (some (kk,v)))) (hS:xj ks Fs L R0 js [v] (ff (qO m kk)))
  (hR2: ∀ w cs S x,R0.own w cs S (ff (some x))->R.own w cs S x) (hd:zB (js++rest)=true) {w:World} (a:zbG w0 Z Fs) (s:St w0 Z w L): ∃ S',St w0 Z w (Lr.set k (Sx.mN q R S' m none)):=by
 obtain ⟨S2,s2⟩:=zdi hS hr hd a s
 have hk':Lr[k]? =some (Sx.mN q R S m (some (kk,v))):=by rw [<- zD];exact hk
 have hlt:k<Lr.length:=(zes.1 hk').1
 obtain ⟨S',s3⟩:=s2.mback0 (f:=ff) k Lr.length (S2:=S2) (zp7 (Nat.ne_of_lt hlt)) (by rw [List.getElem?_append_left hlt,hk']) (by simp) hR2
 refine ⟨S',?_⟩
 rw [zgL hk',List.set_append_right _ _ (by simp)] at s3
 simp at s3
 exact zek s3
theorem Adm.mb0 {α:Type} {k q:Nat} {kk:Int} {v v':Value} {rest js:List Nat} {ks:List Pa} {U:TypeId} {A:Rp α} {S:List Nat} {m:List (Int×α)} {y:Option α} {Lr:List zz} {L1:List Nat->List zz} (hr:zdT L rest []=some Lr) (hk:nth Lr k=some (Sx.mN q (za3 U A) S m (some (kk,v)))) (hS:xj ks Fs L (zjq U A) js [v'] y)
  (hv:KR v' v) (hy:KR y (qO m kk)) (hd:KR (zB (js++rest)) true) (hL: ∀ S',zch Lr k (Sx.mN q (za3 U A) S' m none)=some (L1 S')):Adm (.mb0 k rest ks) Fs L L1 (fun _=>Fs):=⟨fun w0 Z w a s=>by
 have hv:=hv.h
 have hy:=hy.h
 subst hv hy
 obtain ⟨S',s'⟩:=zlq (ff:=fun o=>o) hr hk hS (fun _ _ _ _ h=>h) hd.h a s
 exact ⟨S',by rw [qT (hL S')];exact s',a⟩⟩
theorem Adm.mb0r {α:Type} {k q sz:Nat} {kk:Int} {v v':Value} {rest js:List Nat} {ks:List Pa} {T:TypeId} {enc:α->List Value} {he: ∀ x,(enc x).length=sz} {hp:0<sz} {S:List Nat} {m:List (Int×List α)} {y:List α} {Lr:List zz} {L1:List Nat->List zz} (hr:zdT L rest []=some Lr) (hk:nth Lr k=some (Sx.mN q (zhc T enc sz he hp) S m (some (kk,v)))) (hS:xj ks Fs L (zhc T enc sz he hp) js [v'] y)
  (hv:KR v' v) (hy:KR y ((qO m kk).getD [])) (hd:KR (zB (js++rest)) true) (hL: ∀ S',zch Lr k (Sx.mN q (zhc T enc sz he hp) S' m none)=some (L1 S')):Adm (.mbr k rest ks) Fs L L1 (fun _=>Fs):=⟨fun w0 Z w a s=>by
 have hv:=hv.h
 have hy:=hy.h
 subst hv hy
 obtain ⟨S',s'⟩:=zlq (ff:=fun o=>o.getD []) hr hk hS (fun _ _ _ _ h=>h) hd.h a s
 exact ⟨S',by rw [qT (hL S')];exact s',a⟩⟩
theorem Adm.mb {α:Type} {k q:Nat} {kk:Int} {v v':Value} {rest js:List Nat} {ks:List Pa} {U:TypeId} {A:Rp α} {S:List Nat} {m:List (Int×α)} {y:α} {Lr:List zz} {L1:List Nat->List zz} (hr:zdT L rest []=some Lr) (hk:nth Lr k=some (Sx.mN q (za3 U A) S m (some (kk,v)))) (hS:xj ks Fs L (zjq U A) js [v'] (some y))
  (hv:KR v' v) (hd:KR (zB (js++rest)) true) (hL: ∀ S',zch Lr k (Sx.mN q (za3 U A) S' (zf7 m kk y) none)=some (L1 S')):Adm (.mb k rest ks) Fs L L1 (fun _=>Fs):=⟨fun w0 Z w a s=>by
 have hv:=hv.h
 subst hv
 obtain ⟨S',s'⟩:=zkB (ff:=fun o=>o) hr hk hS (fun _ _ _ _ h=>h) hd.h y (fun _=>rfl) a s
 exact ⟨S',by rw [qT (hL S')];exact s',a⟩⟩
theorem Adm.mbf {α:Type} {k q e:Nat} {kk:Int} {v v':Value} {rest js:List Nat} {ks:List Pa} {U:TypeId} {A:Rp α} {S:List Nat} {m:List (Int×α)} {y:α} {o:Option α} {x:α} {Lr:List zz} {L1:List Nat->List zz} (he:nth Fs e=some (.oe o x)) (hr:zdT L rest []=some Lr) (hk:nth Lr k=some (Sx.mN q (za3 U A) S m (some (kk,v)))) (hS:xj ks Fs L (zjq U A) js [v'] (some y))
  (hv:KR v' v) (ho:KR o (qO m kk)) (hx:KR x y) (hd:KR (zB (js++rest)) true) (hL: ∀ S',zch Lr k (Sx.mN q (za3 U A) S' m none)=some (L1 S')):Adm (.mbf k e rest ks) Fs L L1 (fun _=>Fs):=⟨fun w0 Z w a s=>by
 have hv:=hv.h
 subst hv
 have h1:o=some x:=zA a he
 obtain ⟨S',s'⟩:=zkB (ff:=fun o=>o) hr hk hS (fun _ _ _ _ h=>h) hd.h y (fun _=>rfl) a s
 rw [zib (by rw [<- ho.h,h1,hx.h])] at s'
 exact ⟨S',by rw [qT (hL S')];exact s',a⟩⟩
theorem Adm.mbp {α:Type} {k q:Nat} {kk kk':Int} {v v':Value} {rest js:List Nat} {ks:List Pa} {U:TypeId} {A:Rp α} {S:List Nat} {m:List (Int×α)} {x y:α} {Lr:List zz} {L1:List Nat->List zz} (hr:zdT L rest []=some Lr) (hk:nth Lr k=some (Sx.mN q (za3 U A) S (mput m kk' x) (some (kk,v)))) (hS:xj ks Fs L (zjq U A) js [v'] (some y))
  (hv:KR v' v) (ho:KR kk' kk) (hx:KR x y) (hd:KR (zB (js++rest)) true) (hL: ∀ S',zch Lr k (Sx.mN q (za3 U A) S' (mput m kk' x) none)=some (L1 S')):Adm (.mbp k rest ks) Fs L L1 (fun _=>Fs):=⟨fun w0 Z w a s=>by
 have hv:=hv.h
 have ho:=ho.h
 have hx:=hx.h
 subst hv ho hx
 obtain ⟨S',s'⟩:=zkB (ff:=fun o=>o) hr hk hS (fun _ _ _ _ h=>h) hd.h x (fun _=>rfl) a s
 rw [zib zjp] at s'
 exact ⟨S',by rw [qT (hL S')];exact s',a⟩⟩
end
section
variable {α ρ:Type} {hs:List H} {k:α->Option ρ} {r:ρ} {Fs:List Fa} {L:List zz} {fr:Fr} {P:Program} {B:Func} {N:Nat} {w0:World} {Z:List Nat} {Q:Exit->Act->World->Prop} {l:List Oper} {i j:Nat} {U:TypeId} {R:Rp α} {u:Value} {S:List Nat} {o:Option α} {L1:α->List zz} {Fs1:α->List Fa} {e:Exit}
theorem GO.fO (hj:nth L j=some (itI (zjq U R) [u] S o)) (hL: ∀ y,zch L j (itI (za3 U R) [u] S y)=some (L1 y)) (hF: ∀ y,vA Fs (.oe o y)=some (Fs1 y)) (n: ∀ y b,u= .pointer (some ⟨b,0,none⟩)->GO hs (k y) r (Fs1 y) (L1 y) fr P B N w0 Z l i Q):GO (.fO j::hs) (o.bind k) r Fs L fr P B N w0 Z l i Q:=⟨fun w a s q=>by
 obtain ⟨y,hy,hk⟩:=zq q
 obtain ⟨s2,b,hb⟩:=zg2 hj (hL y) s hy
 exact (n y b hb).o w (qV (F:= .oe o y) a hy (hF y)) s2 hk⟩
theorem GC.fO {c:Code} (hj:nth L j=some (itI (zjq U R) [u] S o)) (hL: ∀ y,zch L j (itI (za3 U R) [u] S y)=some (L1 y)) (hF: ∀ y,vA Fs (.oe o y)=some (Fs1 y)) (n: ∀ y b,u= .pointer (some ⟨b,0,none⟩)->GC hs (k y) r (Fs1 y) (L1 y) fr P B N w0 Z c Q):GC (.fO j::hs) (o.bind k) r Fs L fr P B N w0 Z c Q:=⟨fun w a s q=>by
 obtain ⟨y,hy,hk⟩:=zq q
 obtain ⟨s2,b,hb⟩:=zg2 hj (hL y) s hy
 exact (n y b hb).o w (qV (F:= .oe o y) a hy (hF y)) s2 hk⟩
theorem GS.fO {c:Nat} {m:Bool} (hj:nth L j=some (itI (zjq U R) [u] S o)) (hL: ∀ y,zch L j (itI (za3 U R) [u] S y)=some (L1 y)) (hF: ∀ y,vA Fs (.oe o y)=some (Fs1 y)) (n: ∀ y b,u= .pointer (some ⟨b,0,none⟩)->GS hs (k y) r (Fs1 y) (L1 y) fr P B N w0 Z l i c m Q):GS (.fO j::hs) (o.bind k) r Fs L fr P B N w0 Z l i c m Q:=⟨fun w a s q=>by
 obtain ⟨y,hy,hk⟩:=zq q
 obtain ⟨s2,b,hb⟩:=zg2 hj (hL y) s hy
 exact (n y b hb).o w (qV (F:= .oe o y) a hy (hF y)) s2 hk⟩
theorem GP.fO {done eff:List Nat} {pd:List (Nat×Pn)} (hj:nth L j=some (itI (zjq U R) [u] S o)) (hL: ∀ y,zch L j (itI (za3 U R) [u] S y)=some (L1 y)) (hF: ∀ y,vA Fs (.oe o y)=some (Fs1 y)) (n: ∀ y b,u= .pointer (some ⟨b,0,none⟩)->GP hs (k y) r (Fs1 y) (L1 y) fr P B N w0 Z l done eff pd Q):GP (.fO j::hs) (o.bind k) r Fs L fr P B N w0 Z l done eff pd Q:=⟨fun w a s q=>by
 obtain ⟨y,hy,hk⟩:=zq q
 obtain ⟨s2,b,hb⟩:=zg2 hj (hL y) s hy
 exact (n y b hb).o w (qV (F:= .oe o y) a hy (hF y)) s2 hk⟩
end
end Go.Sx
namespace Go.Proofs
open Go.Shelf
def Tryz.lays189_ren:Go.Shelf.Ren:=⟨fun | 189=>110 | 125=>142 | 257=>141 | 128=>189 | 129=>190 | 294=>180 | 295=>181 | 296=>182 | 297=>183 | 298=>184 | 299=>185 | 216=>186 | 300=>187 | 301=>188 | 328=>223 | 329=>224 | 330=>225 | 331=>226 | 332=>227 | 215=>228 | 343=>255 | n=>n,fun | 28=>34 | 3=>3 | 46=>262 | 0=>0 | 51=>321 | 53=>29 | 4=>4 | 183=>314 | 182=>313 | 131=>214 | 5=>5 | 9=>9 | 218=>353 | 222=>357 | 228=>380 | 229=>116 | n=>n,fun | n=>n⟩
theorem Tryz.lays189:Go.Proofs.Lays.n189 Tryz.prog Tryz.lays189_ren:= {
 mixed:=by kernel_rfl
 f125:=Tryz.func142.trans (congrArg some (by kernel_rfl))
 f128:=Tryz.func189.trans (congrArg some (by kernel_rfl))
 f129:=Tryz.func190.trans (congrArg some (by kernel_rfl))
 f189:=Tryz.func110.trans (congrArg some (by kernel_rfl))
 f215:=Tryz.func228.trans (congrArg some (by kernel_rfl))
 f216:=Tryz.func186.trans (congrArg some (by kernel_rfl))
 f257:=Tryz.func141.trans (congrArg some (by kernel_rfl))
 f294:=Tryz.func180.trans (congrArg some (by kernel_rfl))
 f295:=Tryz.func181.trans (congrArg some (by kernel_rfl))
 f296:=Tryz.func182.trans (congrArg some (by kernel_rfl))
 f297:=Tryz.func183.trans (congrArg some (by kernel_rfl))
 f298:=Tryz.func184.trans (congrArg some (by kernel_rfl))
 f299:=Tryz.func185.trans (congrArg some (by kernel_rfl))
 f300:=Tryz.func187.trans (congrArg some (by kernel_rfl))
 f301:=Tryz.func188.trans (congrArg some (by kernel_rfl))
 f328:=Tryz.func223.trans (congrArg some (by kernel_rfl))
 f329:=Tryz.func224.trans (congrArg some (by kernel_rfl))
 f330:=Tryz.func225.trans (congrArg some (by kernel_rfl))
 f331:=Tryz.func226.trans (congrArg some (by kernel_rfl))
 f332:=Tryz.func227.trans (congrArg some (by kernel_rfl))
 f343:=Tryz.func255.trans (congrArg some (by kernel_rfl))
 t0:=Tryz.underlying0
 a0:=Tryz.isAgg0
 z0:=Tryz.sizeOf0
 v0:=Tryz.zeroValue0
 t3:=Tryz.underlying3
 a3:=Tryz.isAgg3
 z3:=Tryz.sizeOf3
 v3:=Tryz.zeroValue3
 t4:=Tryz.underlying4
 a4:=Tryz.isAgg4
 z4:=Tryz.sizeOf4
 v4:=Tryz.zeroValue4
 t5:=Tryz.underlying5
 a5:=Tryz.isAgg5
 z5:=Tryz.sizeOf5
 v5:=Tryz.zeroValue5
 t9:=Tryz.underlying9
 a9:=Tryz.isAgg9
 z9:=Tryz.sizeOf9
 v9:=Tryz.zeroValue9
 t28:=Tryz.underlying34
 a28:=Tryz.isAgg34
 z28:=Tryz.sizeOf34
 v28:=Tryz.zeroValue34
 t46:=Tryz.underlying262
 a46:=Tryz.isAgg262
 z46:=Tryz.sizeOf262
 v46:=Tryz.zeroValue262
 t51:=Tryz.underlying321
 a51:=Tryz.isAgg321
 z51:=Tryz.sizeOf321
 v51:=Tryz.zeroValue321
 t53:=Tryz.underlying29
 a53:=Tryz.isAgg29
 z53:=Tryz.sizeOf29
 v53:=Tryz.zeroValue29
 t131:=Tryz.underlying214
 a131:=Tryz.isAgg214
 z131:=Tryz.sizeOf214
 v131:=Tryz.zeroValue214
 t182:=Tryz.underlying313
 a182:=Tryz.isAgg313
 z182:=Tryz.sizeOf313
 v182:=Tryz.zeroValue313
 t183:=Tryz.underlying314
 a183:=Tryz.isAgg314
 z183:=Tryz.sizeOf314
 v183:=Tryz.zeroValue314
 t218:=Tryz.underlying353
 a218:=Tryz.isAgg353
 z218:=Tryz.sizeOf353
 v218:=Tryz.zeroValue353
 t222:=Tryz.underlying357
 a222:=Tryz.isAgg357
 z222:=Tryz.sizeOf357
 v222:=Tryz.zeroValue357
 t228:=Tryz.underlying380
 a228:=Tryz.isAgg380
 z228:=Tryz.sizeOf380
 v228:=Tryz.zeroValue380
 t229:=Tryz.underlying116
 a229:=Tryz.isAgg116
 z229:=Tryz.sizeOf116
 v229:=Tryz.zeroValue116}
open Go.Sort Go.RowKit in
theorem Tryz.slices_Sort_int (blk off cap:Nat) (zs:List Int) (w:World) (hH:Holds (Value.int .i64) w blk off zs.toArray) (hblk:blk<w.heap.size) (hsz:zs.length<4611686018427387904):
  Calls Tryz.prog 110 #[.slice (some ⟨blk,off,none⟩) zs.length cap] w fun e w'=>
   e= .returned (.tuple #[])/\ ∃ n os,w'=grow (putRow (Value.int .i64) (Sort.ahead w n) blk off (zs.mergeSort fun x y=>decide (x<=y)).toArray) os:=Any.slices_Sort_int Tryz.lays189 blk off cap zs w hH hblk hsz
open Go.RowKit Go.Lib in
open Go.RowKit Go.Sort in
theorem Tryz.slices_Sort_int_none (p:Option Addr) (cap:Nat) (w:World):
 Calls Tryz.prog 110 #[.slice p 0 cap] w fun e w'=>e= .returned (.tuple #[])/\w'=w:=Any.slices_Sort_int_none Tryz.lays189 p cap w
end Go.Proofs
namespace Go.Sx
open Go.RowKit Go.Sort
theorem St.zeroTo {w w':World} (h:Chg [] w w'):St w (fp []) w' []:=⟨h,fun i it hi=>by simp at hi,fun i it hi=>by simp at hi,fun i j a b _ hi=>by simp at hi,fun i it hi=>by simp at hi⟩
def zig (s sep:ByteArray):Option (ByteArray×ByteArray×Bool):=
 if s.size<4294967281 then some (⟨(Lib.cut s.data.toList sep.data.toList).1.toArray⟩,⟨(Lib.cut s.data.toList sep.data.toList).2.1.toArray⟩,(Lib.cut s.data.toList sep.data.toList).2.2) else none
theorem zjX {P:Program} {f:FuncId} {w:World} {s sep:ByteArray} {r:ByteArray×ByteArray×Bool} {g:Nat} {m:Int}
  (hs: ∀ (s sep:ByteArray) (m:Int) (w:World),s.size<4294967281->w.cell? ⟨g,0,none⟩=some (.int .i64 m)->
   Calls P f #[.string s,.string sep] w fun e w'=>e= .returned (.tuple #[.string ⟨(Lib.cut s.data.toList sep.data.toList).1.toArray⟩,.string ⟨(Lib.cut s.data.toList sep.data.toList).2.1.toArray⟩,.bool (Lib.cut s.data.toList sep.data.toList).2.2])/\ ∃ n,w'=w.drewN n)
  (hF:zig s sep=some r) (hm:w.cell? ⟨g,0,none⟩=some (.int .i64 m)):
  Calls P f [.string s,.string sep].toArray w (fun e w'=>e= .returned (.tuple #[.string r.1,.string r.2.1,.bool r.2.2])/\St w (fp []) w' []):=by
 unfold zig at hF
 split at hF
 ·rename_i h
  cases hF
  refine (hs s sep m w h hm).mono ?_
  rintro e w' ⟨rfl,n,rfl⟩
  refine ⟨rfl,St.zeroTo ⟨rfl,rfl,rfl,by simp,fun k hk _=>by simp⟩⟩
 ·cases hF
section
variable {w0 w w':World} {S0:List Nat} {L:List zz} {T e:TypeId}
end
def sEq (a b:ByteArray):Bool:=a.toList==b.toList
section
variable {P:Program} {N:Nat} {fr:List (Nat×Value)}
end
section
variable {P:Program} {N:Nat} {fr:List (Nat×Value)}
end
section
variable {P:Program} {N:Nat} {fr:List (Nat×Value)} {w0 w:World} {S0:List Nat} {L:List zz}
end
end Go.Sx
namespace Go.Sx
open Go.RowKit
def bytesOf (s:ByteArray):List Int:=s.data.toList.map fun b=>(b.toNat:Int)
section
variable {P:Program} {N:Nat} {Q:Exit->Act->World->Prop} {fr:List (Nat×Value)} {w w0:World} {l:List Oper} {i:Nat} {S0:List Nat} {L:List zz}
theorem OW.toStr {d src dst e:Nat} {x:Operand} {ty:TypeId} {pos:String} {af:Array Edge} {gdd:Option (Nat×Bool)} {v:Value} {xs:List Int} {S:List Nat}
  (hl:vg l i=some ⟨some d,.convert src dst x,ty,pos,af,gdd⟩) (hg:gd l fr ⟨some d,.convert src dst x,ty,pos,af,gdd⟩=some true) (hN:Nat.blt d N=true) (hx:look fr x=some v)
  (hs:P.underlying src=some (.slice e)) (he:P.underlying e=some (.int .u8)) (hd:P.underlying dst=some .string) (hr:Rd w S v (zn .u8) 1 xs)
  (h:OW P l N Q (i+1) ((d,.string (strOfNums xs))::fr) w):OW P l N Q i fr w:=by
 have run:(convert src dst v).run P w= .ok (.string (strOfNums xs)) w:=by
  obtain ⟨hn,a,c,rfl,hcap,hc⟩:=hr
  cases xs with
  | nil=>
   cases a with
   | none=>exact run_convert_bytes_nil (P:=P) w src e hs he _ _ dst hd
   | some a=>
    have hl0:(loadCells a 0).run P w= .ok #[] w:=by simp [loadCells,loadCellsFrom]
    show (convert src dst (.slice (some a) 0 c)).run P w=_
    rw [run_convert_bytes_string w src dst e _ _ c hs he hd,run_bytesToString w _ _ c [] hl0]
    rfl
  | cons x0 r=>
   obtain ⟨b,k,rfl,_,_⟩:=hc 0 x0 0 (.int .u8 x0) rfl rfl
   refine run_convert_bytes_arg (P:=P) w src e hs he b k _ c (x0::r) rfl (fun q hq=> ?_) dst hd
   obtain ⟨b',k',hb',_,hcell⟩:=hc q ((x0::r)[q]) 0 (.int .u8 ((x0::r)[q])) (zeg hq) rfl
   simp only [Option.some.injEq,Addr.mk.injEq,and_true] at hb'
   obtain ⟨rfl,rfl⟩:=hb'
   rw [show (x0::r).getD q 0=(x0::r)[q] from by simp [List.getD,zeg hq]]
   simpa using hcell
 refine OW.op hl hg rfl hN (fun a ha=> ?_) h
 have e1:=ha.look hx
 simp [execOp,e1,run]
end
end Go.Sx
namespace Go.Sx
open Go.RowKit
section
variable {ρ:Type} {hs:List H} {f:Option ρ} {r:ρ} {Fs:List Fa} {L:List zz} {fr:Fr} {P:Program} {B:Func} {N:Nat} {w0:World} {Z:List Nat} {Q:Exit->Act->World->Prop} {l:List Oper} {i:Nat}
def tsC (P:Program) (l:List Oper) (N:Nat) (fr:Fr) (i:Nat):Option Value:=match okO l N fr i with
 | some ⟨_,.convert src dst x,_,_,_,_⟩=>match P.underlying src,P.underlying dst,look fr x with
  | some (.slice e),some .string,some v=>match P.underlying e with
   | some (.int .u8)=>some v
   | _=>none
  | _,_,_=>none
 | _=>none
theorem GO.ts {sr:Src} {v:Value} {xs:List Int} (hS:zpD sr Fs L (zn .u8) 1 v xs) (hc:KR (tsC P l N fr i) (some v))
  (n:GO hs f r Fs L ((dst l i,.string (strOfNums xs))::fr) P B N w0 Z l (i+1) Q):GO (.ts sr::hs) f r Fs L fr P B N w0 Z l i Q:=⟨fun w a s e=>by
 have hc:=hc.h
 unfold tsC at hc
 split at hc
 ·rename_i d' src dst' x ty pos af gdd hok
  split at hc
  ·rename_i e' v' hs hd hx
   split at hc
   ·rename_i he
    simp only [Option.some.injEq] at hc
    subst hc
    obtain ⟨d,hl,hg,hd',hN⟩:=jo hok
    simp only at hd'
    subst hd'
    obtain ⟨S,hr⟩:=hS.o w0 Z w a s
    refine OW.toStr hl hg hN hx hs he hd hr ?_
    have h1:=n.o w a s e
    rw [vN hl rfl] at h1
    exact h1
   ·cases hc
  ·cases hc
 ·cases hc⟩
end
end Go.Sx
namespace Go.Sx
theorem wk {ρ:Type} {P:Program} {N:Nat} {c:Code} {f:Option ρ} {k:FuncId} {args:List Value} {Fs:List Fa} {L:List zz} {R:World->List Nat->ρ->Ending->World->Prop} {fn:Func} (hf:P.funcs[k]? =some fn) (hs:List H)
  (hb:fn.body=some c:=by rfl) (hN:fn.ntmps=N:=by rfl) (hz:Nat.ble args.length N=true:=by kernel_rfl)
  (n: ∀ w0 Z r,GC hs f r Fs L (zha 0 args) P fn N w0 Z c (bodyPost P fn (R w0 Z r)):=by
   repeat' (first
    | exact rfl
    | (refine KR.mk ?_;kernel_rfl)
    | (apply GO.dg;intro _ _ _ _ _) | (apply GC.dg;intro _ _ _ _ _) | (apply GQ.dg;intro _ _ _ _ _) | (apply GS.dg;intro _ _ _ _ _)
    | (refine GO.fo (by exact rfl) (fun _=>by exact rfl) ?_;intro _ _ e;subst e) | (refine GC.fo (by exact rfl) (fun _=>by exact rfl) ?_;intro _ _ e;subst e) | (refine GS.fo (by exact rfl) (fun _=>by exact rfl) ?_;intro _ _ e;subst e) | (refine GP.fo (by exact rfl) (fun _=>by exact rfl) ?_;intro _ _ e;subst e)
    | (refine GO.fO (by exact rfl) (fun _=>by exact rfl) (fun _=>by exact rfl) ?_;intro _ _ e;subst e) | (refine GC.fO (by exact rfl) (fun _=>by exact rfl) (fun _=>by exact rfl) ?_;intro _ _ e;subst e) | (refine GP.fO (by exact rfl) (fun _=>by exact rfl) (fun _=>by exact rfl) ?_;intro _ _ e;subst e) | (refine GS.fO (by exact rfl) (fun _=>by exact rfl) (fun _=>by exact rfl) ?_;intro _ _ e;subst e)
    | intro _
    | (apply Nf.mk;(try dsimp only);(try exact rfl))
    | apply GO.p | apply GO.k | apply GO.km | apply GO.kv | apply GQ.mt | apply GQ.ms | apply GQ.bk | apply GQ.bg | apply GQ.next | apply GC.dk | apply GC.ds | apply GC.dn | apply GC.ad | apply GC.seq | apply GC.block | apply GC.skip | apply GC.exit | apply GC.ret | apply GC.ck | apply GC.cs | apply GC.scB | apply GC.rgB | apply GO.nil
    | apply Cel.ld | apply Cel.le | apply LkV.ix | apply Cel.lr | apply zhy.lE | apply zhy.lN | apply zhy.lR
    | apply GC.plB | apply GP.p | apply GP.l1 | apply GP.lm | apply GP.lv | apply GP.ac | apply GP.a2 | apply GO.nx | apply GP.fin | apply GP.sp | apply GP.bi | apply GP.bo | apply GP.ad | apply zmL.nil | apply zmL.c1 | apply zmL.n1 | apply Adm.nn
    | apply GO.ca | apply Giv.nil | apply Giv.rf | apply Giv.ro
    | apply GC.br | apply GO.bi | apply GO.bo
    | apply GQ.then_ret | apply GQ.block_ret | apply GQ.then_exit | apply GQ.block_here | apply GQ.block_normal | apply GQ.block_on
    | apply GQ.rt | apply GQ.pop | apply Ex.u | apply Ex.p | apply Ln.s | apply Ln.t | apply Ln.k | apply Sim.nil | apply Sim.part | apply Sim.blk | apply Sim.row | apply Sim.itU | apply Sim.nrow
    | apply GC.lb | apply GC.lc | apply GC.ct | apply GC.cf
    | apply GO.st | apply GO.al | apply GO.bx | apply GO.sp | apply GS.sp | apply GQ.rc1 | apply GQ.rc2 | apply GQ.rc3 | apply RV.t | apply RV.cN | apply GQ.re | apply GQ.r0 | apply Giv.rn | apply Giv.rb | apply Giv.rc | apply GC.lg | apply zou.nil | apply Bn.f1 | apply Bn.oo | apply Bn.l1 | apply Bn.r1 | apply Bn.n1 | apply Bn.c1
    | apply GO.ad | apply GQ.ad | apply GS.ad | apply Adm.kp | apply Adm.nr | apply Adm.op | apply Adm.sh | apply zb6.pair | apply zb6.row | apply zb6.nrow | apply zb6.ptr | apply zb6.bor | apply xj.os | apply xj.pair | apply xj.row | apply xj.nrow | apply xj.bor | apply xj.mapn | apply xj.it
    | apply GO.sr | apply GO.rw | apply GO.ap | apply GO.mkS | apply zpD.sf | apply zpD.so
    | apply GO.be | apply GS.be | apply GP.be | apply GC.be | apply LkV.qu | apply LkV.re | apply LkV.hl | apply LkV.hr | apply LkV.hc | apply LkV.hd | apply LkV.si | apply LkV.ad | apply LkV.sq | apply LkV.sn | apply LkV.cp | apply LkV.cu | apply LkV.cf | apply Adm.fp | apply Adm.fu
    | apply CF.b1 | apply LkV.sU | apply Giv.ru | apply LkV.nz | apply GC.nb | apply LkV.al | apply LkV.af | apply LkV.at | apply GO.bt | apply Cel.cc | apply Cel.ca | apply zhy.cA | apply CF.o1 | apply CF.p1 | apply CF.r1 | apply GO.sa | apply GO.sra | apply GO.srw | apply GO.sp1 | apply Adm.pt
    | apply LvR.c1 | apply LvR.nil
    | apply GS.p | apply GS.k | apply GS.km | apply GS.kv | apply GS.bi | apply GS.bo | apply GS.fin | apply GS.on | apply GC.stB | apply GC.tlB
    | (refine GO.fx (by assumption) ?_) | (refine GC.fx (by assumption) ?_) | (refine GQ.fx (by assumption) ?_) | (refine GS.fx (by assumption) ?_) | (refine GP.fx (by assumption) ?_)
    | apply GO.co | apply GO.cn | apply GQ.rn | apply GQ.rs | apply GO.il | apply GQ.ri | apply zks.nil | apply zks.b | apply zks.p | apply zks.t | apply Giv.dn | apply Giv.oN
    | apply GO.bd | apply ziV.row | apply ziV.st | apply Cel.ce | apply zhy.ce
    | apply GO.bn | apply GS.bn | apply GP.bn | apply Adm.no | apply Adm.nb | apply Adm.nbx | apply Adm.nb0s | apply Adm.nb0 | apply Cel.nh | apply zhy.nH | apply zb6.st | apply xj.st | apply GO.sm
    | apply GO.an | apply GO.ts | apply GO.ly | apply GO.lyx | apply zlm.nil | apply zlm.consS | apply zlm.cons | apply GO.mN | apply GO.sg | apply GO.sx | apply Sim.sit | apply GO.pw | apply GQ.nd | apply GO.nd | apply GO.bxe | apply GO.ste | apply GQ.nl | apply GC.nl | apply GQ.nm | apply Adm.shx | apply Adm.nc | apply GO.vb
    | apply Adm.ne | apply GO.sh_ | apply zb6.mapn | apply GO.mnN | apply GO.mlP | apply GO.mlR | apply GO.mq | apply GO.mh | apply GO.md | apply GO.ll | apply Adm.mb0 | apply Adm.mb0r | apply Adm.mb | apply Adm.mbf | apply Adm.mbp
    | (apply zsB.mk;apply_assumption) | (apply zrj.mk;apply_assumption) | (apply zsC.mk;intro h wb Sb;apply (h wb Sb)))):zq9 P k args Fs L f R:=zq9.start hs hf hb hN ⟨hz⟩ n
end Go.Sx
