/- Texts Mem, Arr, Ext, Open, Dep of this proof. -/
import Derived.Test.YtbmknhpfkpmigaaGreatDoorLaid
import Derived.Laws.RangeString
import Derived.Laws.Externs
import Derived.Sort.OwnSortedInts
import Derived.Lib.SlicesCompact
set_option linter.unusedVariables false
set_option linter.unusedSimpArgs false
namespace Go.Sx
open Go.RowKit
section
variable {w0 w:World} {S0:List Nat} {L L':List zz}
theorem St.repart (h:St w0 S0 w L) (h1: ∀ (i:Nat) (it:zz),L'[i]? =some it->it.Φ w/\it.S.Nodup/\ ∀ x∈it.S,x∈fp L)
  (h2: ∀ (i j:Nat) (a b:zz),i ≠ j->L'[i]? =some a->L'[j]? =some b-> ∀ x∈a.S,x ∉ b.S):St w0 S0 w L':=
 ⟨h.chg,fun i it hi=>(h1 i it hi).1,fun i it hi=>(h1 i it hi).2.1,h2,fun i it hi x hx=>by
  obtain ⟨j,jt,hj,hb⟩:=zai.1 ((h1 i it hi).2.2 x hx)
  exact h.own j jt hj x hb⟩
theorem St.swap (h:St w0 S0 w L) (k:Nat) {A A' B:zz} (hk:L[k]? =some A) (hA:A'.Φ w) (hAn:A'.S.Nodup) (hAs: ∀ b∈A'.S,b∈A.S) (hB:B.Φ w) (hBn:B.S.Nodup) (hBs: ∀ b∈B.S,b∈A.S) (hd: ∀ b∈A'.S,b ∉ B.S):
  St w0 S0 w (L.set k A'++ [B]):=by
 have hlt:k<L.length:=(zes.1 hk).1
 have cs: ∀ (m:Nat) (it:zz),(L.set k A'++ [B])[m]? =some it->(m=k/\it=A')\/(m=L.length/\it=B)\/(m ≠ k/\m<L.length/\L[m]? =some it):=by
  intro m it hm
  rcases Nat.lt_or_ge m L.length with hml | hml
  ·rw [List.getElem?_append_left (by simpa using hml)] at hm
   by_cases e:k=m
   ·subst e
    rw [List.getElem?_set_self hlt] at hm
    exact .inl ⟨rfl,(Option.some.inj hm).symm⟩
   ·rw [List.getElem?_set_ne e] at hm
    exact .inr (.inr ⟨fun x=>e x.symm,hml,hm⟩)
  ·rw [List.getElem?_append_right (by simpa using hml)] at hm
   have e:m=L.length:=by
    have:=(zes.1 hm).1
    simp at this
    omega
   subst e
   simp at hm
   exact .inr (.inl ⟨rfl,hm.symm⟩)
 refine h.repart (fun m it hm=> ?_) (fun m n a b hmn hm hn x hxa hxb=> ?_)
 ·rcases cs m it hm with ⟨_,rfl⟩ | ⟨_,rfl⟩ | ⟨_,_,hm⟩
  ·exact ⟨hA,hAn,fun x hx=>zai.2 ⟨k,_,hk,hAs x hx⟩⟩
  ·exact ⟨hB,hBn,fun x hx=>zai.2 ⟨k,_,hk,hBs x hx⟩⟩
  ·exact ⟨h.all m it hm,h.nd m it hm,fun x hx=>zai.2 ⟨m,it,hm,hx⟩⟩
 ·rcases cs m a hm with ⟨e1,rfl⟩ | ⟨e1,rfl⟩ | ⟨m1,m2,hm2⟩<;>rcases cs n b hn with ⟨e2,rfl⟩ | ⟨e2,rfl⟩ | ⟨n1,n2,hn2⟩
  ·omega
  ·exact hd x hxa hxb
  ·exact h.apart k n A b (fun e=>n1 e.symm) hk hn2 x (hAs x hxa) hxb
  ·exact hd x hxb hxa
  ·omega
  ·exact h.apart k n A b (fun e=>n1 e.symm) hk hn2 x (hBs x hxa) hxb
  ·exact h.apart m k a A m1 hm2 hk x hxa (hAs x hxb)
  ·exact h.apart m k a A m1 hm2 hk x hxa (hBs x hxb)
  ·exact h.apart m n a b hmn hm2 hn2 x hxa hxb
theorem St.fuse (h:St w0 S0 w L) (k j:Nat) (hkj:Nat.beq k j=false) {A B C:zz} (hk:L[k]? =some A) (hj:L[j]? =some B) (hC:C.Φ w) (hCn:C.S.Nodup) (hCs: ∀ b∈C.S,b∈A.S\/b∈B.S):
  St w0 S0 w ((L.set k C).set j nilI):=by
 have hne:k ≠ j:=Nat.ne_of_beq_eq_false hkj
 have hlk:k<L.length:=(zes.1 hk).1
 have hlj:j<L.length:=(zes.1 hj).1
 have cs: ∀ (m:Nat) (it:zz),((L.set k C).set j nilI)[m]? =some it->(m=j/\it=nilI)\/(m=k/\it=C)\/(m ≠ k/\m ≠ j/\L[m]? =some it):=by
  intro m it hm
  by_cases e:j=m
  ·subst e
   rw [List.getElem?_set_self (by simpa using hlj)] at hm
   exact .inl ⟨rfl,(Option.some.inj hm).symm⟩
  ·rw [List.getElem?_set_ne e] at hm
   by_cases e2:k=m
   ·subst e2
    rw [List.getElem?_set_self hlk] at hm
    exact .inr (.inl ⟨rfl,(Option.some.inj hm).symm⟩)
   ·rw [List.getElem?_set_ne e2] at hm
    exact .inr (.inr ⟨fun x=>e2 x.symm,fun x=>e x.symm,hm⟩)
 have inS: ∀ x∈C.S,∃ m it,(m=k\/m=j)/\L[m]? =some it/\x∈it.S:=by
  intro x hx
  rcases hCs x hx with h1 | h1
  ·exact ⟨k,A,.inl rfl,hk,h1⟩
  ·exact ⟨j,B,.inr rfl,hj,h1⟩
 refine h.repart (fun m it hm=> ?_) (fun m n a b hmn hm hn x hxa hxb=> ?_)
 ·rcases cs m it hm with ⟨_,rfl⟩ | ⟨_,rfl⟩ | ⟨_,_,hm⟩
  ·exact ⟨trivial,List.nodup_nil,fun x hx=>absurd hx znm⟩
  ·refine ⟨hC,hCn,fun x hx=> ?_⟩
   obtain ⟨m',it,_,h1,h2⟩:=inS x hx
   exact zai.2 ⟨m',it,h1,h2⟩
  ·exact ⟨h.all m it hm,h.nd m it hm,fun x hx=>zai.2 ⟨m,it,hm,hx⟩⟩
 ·rcases cs m a hm with ⟨_,rfl⟩ | ⟨rfl,rfl⟩ | ⟨m1,m2,hm2⟩
  ·exact absurd hxa znm
  ·rcases cs n b hn with ⟨_,rfl⟩ | ⟨rfl,rfl⟩ | ⟨n1,n2,hn2⟩
   ·exact absurd hxb znm
   ·exact hmn rfl
   ·obtain ⟨y,it,hy,h1,h2⟩:=inS x hxa
    exact h.apart y n it b (by rcases hy with rfl | rfl<;>omega) h1 hn2 x h2 hxb
  ·rcases cs n b hn with ⟨_,rfl⟩ | ⟨rfl,rfl⟩ | ⟨n1,n2,hn2⟩
   ·exact absurd hxb znm
   ·obtain ⟨y,it,hy,h1,h2⟩:=inS x hxb
    exact h.apart m y a it (by rcases hy with rfl | rfl<;>omega) hm2 h1 x hxa h2
   ·exact h.apart m n a b hmn hm2 hn2 x hxa hxb
theorem St.turn (h:St w0 S0 w L) (k:Nat) {A A':zz} (hk:L[k]? =some A) (hA:A'.Φ w) (hS:A'.S=A.S):St w0 S0 w (L.set k A'):=by
 have h2:=h.swap k (A':=A') (B:=nilI) hk hA (by rw [hS];exact h.nd k A hk) (by rw [hS];exact fun _ hb=>hb) trivial List.nodup_nil (fun b hb=>absurd hb znm) (fun b _ hb=>absurd hb znm)
 have hl:(L.set k A').length<=(L.set k A'++ [nilI]).length:=by simp
 refine h2.repart (fun m it hm=> ?_) (fun m n a b hmn hm hn=> ?_)
 ·have hm':(L.set k A'++ [nilI])[m]? =some it:=by rw [List.getElem?_append_left (zes.1 hm).1];exact hm
  exact ⟨h2.all m it hm',h2.nd m it hm',fun x hx=>zai.2 ⟨m,it,hm',hx⟩⟩
 ·exact h2.apart m n a b hmn (by rw [List.getElem?_append_left (zes.1 hm).1];exact hm) (by rw [List.getElem?_append_left (zes.1 hn).1];exact hn)
end
def zam (w:World) (S:List Nat) (B:List zz):Prop:=
 (∀ (i:Nat) (it:zz),B[i]? =some it->it.Φ w/\it.S.Nodup/\ ∀ b∈it.S,b∈S)/\ ∀ (i j:Nat) (a b:zz),i ≠ j->B[i]? =some a->B[j]? =some b-> ∀ x∈a.S,x ∉ b.S
section
variable {w0 w:World} {S0 S S1 S2:List Nat} {L L' B B1 B2:List zz}
theorem zam.nil:zam w S []:=⟨fun i it h=>by simp at h,fun i j a b _ h=>by simp at h⟩
theorem xa {β:Type} {l m:List β} {i:Nat} {u:β} (hi:(l++m)[i]? =some u):(i<l.length/\l[i]? =some u)\/(l.length<=i/\m[i-l.length]? =some u):=by
 rcases Nat.lt_or_ge i l.length with hlt | hge
 ·rw [List.getElem?_append_left hlt] at hi;exact .inl ⟨hlt,hi⟩
 ·rw [List.getElem?_append_right hge] at hi;exact .inr ⟨hge,hi⟩
theorem zam.cons {it:zz} (h1:it.Φ w) (h2:it.S.Nodup) (h3: ∀ b∈it.S,b∈S) (hd: ∀ b∈it.S,b ∉ S2) (h:zam w S2 B) (hs: ∀ b∈S2,b∈S):zam w S (it::B):=by
 refine ⟨fun i x hi=> ?_,fun i j a b hij hi hj y hy=> ?_⟩
 ·cases i with
  | zero=>simp at hi;subst hi;exact ⟨h1,h2,h3⟩
  | succ i=>obtain ⟨a1,a2,a3⟩:=h.1 i x (by simpa using hi);exact ⟨a1,a2,fun b hb=>hs b (a3 b hb)⟩
 ·cases i with
  | zero=>
   cases j with
   | zero=>exact absurd rfl hij
   | succ j=>
    simp at hi;subst hi
    exact fun hb=>hd y hy ((h.1 j b (by simpa using hj)).2.2 y hb)
  | succ i=>
   cases j with
   | zero=>
    simp at hj;subst hj
    exact fun hb=>hd y hb ((h.1 i a (by simpa using hi)).2.2 y hy)
   | succ j=>exact h.2 i j a b (by omega) (by simpa using hi) (by simpa using hj) y hy
theorem St.burst {A:zz} (h:St w0 S0 w L) (j:Nat) (hj:L[j]? =some A) (hB:zam w A.S B):St w0 S0 w (L.set j nilI++B):=by
 have hlt:j<L.length:=(zes.1 hj).1
 have cs: ∀ (m:Nat) (it:zz),(L.set j nilI++B)[m]? =some it->(it=nilI)\/(m ≠ j/\m<L.length/\L[m]? =some it)\/(L.length<=m/\B[m-L.length]? =some it):=by
  intro m it hm
  rcases xa hm with ⟨h1,h2⟩ | ⟨h1,h2⟩
  ·by_cases e:j=m
   ·subst e;rw [List.getElem?_set_self hlt] at h2;exact .inl (Option.some.inj h2).symm
   ·rw [List.getElem?_set_ne e] at h2;exact .inr (.inl ⟨fun x=>e x.symm,by simpa using h1,h2⟩)
  ·rw [List.length_set] at h1 h2;exact .inr (.inr ⟨h1,h2⟩)
 refine h.repart (fun m it hm=> ?_) (fun m n a b hmn hm hn x hxa hxb=> ?_)
 ·rcases cs m it hm with rfl | ⟨_,_,hm⟩ | ⟨_,hm⟩
  ·exact ⟨trivial,List.nodup_nil,fun x hx=>absurd hx znm⟩
  ·exact ⟨h.all m it hm,h.nd m it hm,fun x hx=>zai.2 ⟨m,it,hm,hx⟩⟩
  ·obtain ⟨a1,a2,a3⟩:=hB.1 _ it hm
   exact ⟨a1,a2,fun x hx=>zai.2 ⟨j,A,hj,a3 x hx⟩⟩
 ·rcases cs m a hm with rfl | ⟨m1,m2,hm2⟩ | ⟨m1,hm2⟩
  ·exact absurd hxa znm
  ·rcases cs n b hn with rfl | ⟨n1,n2,hn2⟩ | ⟨n1,hn2⟩
   ·exact absurd hxb znm
   ·exact h.apart m n a b hmn hm2 hn2 x hxa hxb
   ·exact h.apart m j a A m1 hm2 hj x hxa ((hB.1 _ b hn2).2.2 x hxb)
  ·rcases cs n b hn with rfl | ⟨n1,n2,hn2⟩ | ⟨n1,hn2⟩
   ·exact absurd hxb znm
   ·exact h.apart n j b A n1 hn2 hj x hxb ((hB.1 _ a hm2).2.2 x hxa)
   ·exact hB.2 (m-L.length) (n-L.length) a b (by omega) hm2 hn2 x hxa hxb
theorem St.gather (h:St w0 S0 w L) (ids rest:List Nat) (hd:zB (ids++rest)=true) {C:zz} (hC:C.Φ w) (hn:C.S.Nodup) (hs: ∀ b∈C.S,b∈fp (sel L ids)):St w0 S0 w (sel L rest++ [C]):=by
 have hr: ∀ (m:Nat) (it:zz),(sel L rest)[m]? =some it->it=nilI\/ ∃ q,rest[m]? =some q/\L[q]? =some it:=by
  intro m it hm
  obtain ⟨q,h1,h2⟩:=zcW hm
  rcases vx h2 with h2 | h2
  ·exact .inr ⟨q,h1,h2⟩
  ·exact .inl h2
 have hc: ∀ b∈C.S,∃ (k q:Nat) (it:zz),ids[k]? =some q/\L[q]? =some it/\b∈it.S:=by
  intro b hb
  obtain ⟨k,it,hk,hbs⟩:=zai.1 (hs b hb)
  obtain ⟨q,h1,h2⟩:=zcW hk
  rcases vx h2 with h2 | rfl
  ·exact ⟨k,q,it,h1,h2,hbs⟩
  ·exact absurd hbs znm
 have cross: ∀ (m:Nat) (it:zz),(sel L rest)[m]? =some it-> ∀ x∈it.S,x ∉ C.S:=by
  intro m it hm x hx hxc
  rcases hr m it hm with rfl | ⟨q,h1,h2⟩
  ·exact absurd hx znm
  ·obtain ⟨k,q',it',h3,h4,h5⟩:=hc x hxc
   have hlt:k<ids.length:=(zes.1 h3).1
   have hne:q' ≠ q:=zbc hd (i:=k) (j:=ids.length+m) (by omega) (by rw [List.getElem?_append_left hlt];exact h3) (by rw [List.getElem?_append_right (by omega)];simpa using h1)
   exact h.apart q' q it' it hne h4 h2 x h5 hx
 have cs: ∀ (m:Nat) (it:zz),(sel L rest++ [C])[m]? =some it->(m<(sel L rest).length/\(sel L rest)[m]? =some it)\/(m=(sel L rest).length/\it=C):=by
  intro m it hm
  rcases xa hm with ⟨h1,h2⟩ | ⟨h1,h2⟩
  ·exact .inl ⟨h1,h2⟩
  ·have:=(zes.1 h2).1
   simp at this
   rw [this] at h2
   simp at h2
   exact .inr ⟨by omega,h2.symm⟩
 refine h.repart (fun m it hm=> ?_) (fun m n a b hmn hm hn' x hxa hxb=> ?_)
 ·rcases cs m it hm with ⟨_,hm⟩ | ⟨_,rfl⟩
  ·rcases hr m it hm with rfl | ⟨q,h1,h2⟩
   ·exact ⟨trivial,List.nodup_nil,fun x hx=>absurd hx znm⟩
   ·exact ⟨h.all q it h2,h.nd q it h2,fun x hx=>zai.2 ⟨q,it,h2,hx⟩⟩
  ·refine ⟨hC,hn,fun x hx=> ?_⟩
   obtain ⟨k,q',it',h3,h4,h5⟩:=hc x hx
   exact zai.2 ⟨q',it',h4,h5⟩
 ·rcases cs m a hm with ⟨_,hm2⟩ | ⟨m1,rfl⟩
  ·rcases cs n b hn' with ⟨_,hn2⟩ | ⟨_,rfl⟩
   ·rcases hr m a hm2 with rfl | ⟨q,h1,h2⟩
    ·exact absurd hxa znm
    ·rcases hr n b hn2 with rfl | ⟨q',h3,h4⟩
     ·exact absurd hxb znm
     ·have hne:q ≠ q':=zbc hd (i:=ids.length+m) (j:=ids.length+n) (by omega) (by rw [List.getElem?_append_right (by omega)];simpa using h1) (by rw [List.getElem?_append_right (by omega)];simpa using h3)
      exact h.apart q q' a b hne h2 h4 x hxa hxb
   ·exact cross m a hm2 x hxa hxb
  ·rcases cs n b hn' with ⟨_,hn2⟩ | ⟨n1,rfl⟩
   ·exact cross n b hn2 x hxb hxa
   ·omega
end
structure Rp (α:Type) where
 sz:Nat
 own:World->List Value->List Nat->α->Prop
 rd:World->List Nat->α->List Value->Prop
 len: ∀ w cs S x,own w cs S x->cs.length=sz
 loc: ∀ w w' cs S x,(∀ b∈S,w'.heap[b]? =w.heap[b]?)->own w cs S x->own w' cs S x
 lt: ∀ w cs S x,own w cs S x-> ∀ b∈S,b<w.heap.size
 nd: ∀ w cs S x,own w cs S x->S.Nodup
 see: ∀ w cs S x F,own w cs S x->(∀ b∈S,b ∉ F)->rd w F x cs
 rlen: ∀ w F x cs,rd w F x cs->cs.length=sz
 rloc: ∀ w w' F F' x cs,(∀ b,b<w.heap.size->b ∉ F->w'.heap[b]? =w.heap[b]?)->(∀ b∈F',b∈F\/w.heap.size<=b)->rd w F x cs->rd w' F' x cs
def itI {α:Type} (R:Rp α) (cs:List Value) (S:List Nat) (x:α):zz where
 S:=S
 Φ w:=R.own w cs S x
 loc w w' h hb:=R.loc w w' cs S x h hb
 lt w h:=R.lt w cs S x h
theorem Rd.far {α:Type} {w w':World} {F F':List Nat} {v:Value} {enc:α->List Value} {sz:Nat} {xs:List α} (h:Rd w F v enc sz xs) (h1: ∀ b,b<w.heap.size->b ∉ F->w'.heap[b]? =w.heap[b]?) (h2: ∀ b∈F',b∈F\/w.heap.size<=b):
  Rd w' F' v enc sz xs:=by
 obtain ⟨hn,a,c,hv,hlc,hc⟩:=h
 refine ⟨hn,a,c,hv,hlc,fun t x f u hx hu=> ?_⟩
 obtain ⟨b,o,ha,hb,hcell⟩:=hc t x f u hx hu
 have hlt:b<w.heap.size:=zfh hcell
 refine ⟨b,o,ha,fun hf=> ?_,(World.cell?_of_block (h1 b hlt hb)).trans hcell⟩
 rcases h2 b hf with h3 | h3
 ·exact hb h3
 ·omega
def zob {α:Type} (enc:α->List Value) (sz:Nat) (he: ∀ x,(enc x).length=sz):Rp α where
 sz:=sz
 own _ cs S x:=cs=enc x/\S= []
 rd _ _ x cs:=cs=enc x
 len:=by rintro w cs S x ⟨rfl,_⟩;exact he x
 loc:=by rintro w w' cs S x _ h;exact h
 lt:=by rintro w cs S x ⟨_,rfl⟩;simp
 nd:=by rintro w cs S x ⟨_,rfl⟩;exact List.nodup_nil
 see:=by rintro w cs S x F ⟨rfl,_⟩ _;rfl
 rlen:=by rintro w F x cs rfl;exact he x
 rloc:=by rintro w w' F F' x cs _ _ h;exact h
def zhc {α:Type} (T:TypeId) (enc:α->List Value) (sz:Nat) (he: ∀ x,(enc x).length=sz) (hp:0<sz):Rp (List α) where
 sz:=1
 own w cs S xs:= ∃ v,cs= [v]/\S=(zbd v).toList/\zdn w T sz v xs.length (vy enc xs)
 rd w F xs cs:= ∃ v,cs= [v]/\Rd w F v enc sz xs
 len:=by rintro w cs S x ⟨v,rfl,_⟩;rfl
 loc:=by
  rintro w w' cs S x h ⟨v,rfl,rfl,hr⟩
  exact ⟨v,rfl,rfl,hr.loc h⟩
 lt:=by
  rintro w cs S x ⟨v,rfl,rfl,hr⟩
  exact hr.lt
 nd:=by
  rintro w cs S x ⟨v,rfl,rfl,hr⟩
  exact zb1
 see:=by
  rintro w cs S x F ⟨v,rfl,rfl,hr⟩ hF
  exact ⟨v,rfl,zdM he hr hF⟩
 rlen:=by rintro w F x cs ⟨v,rfl,_⟩;rfl
 rloc:=by rintro w w' F F' x cs h1 h2 ⟨v,rfl,h⟩;exact ⟨v,rfl,h.far h1 h2⟩
def vM {α β:Type} (A:Rp α) (B:Rp β):Rp (α×β) where
 sz:=A.sz+B.sz
 own w cs S p:= ∃ c1 c2 S1 S2,cs=c1++c2/\S=S1++S2/\(∀ b∈S1,b ∉ S2)/\A.own w c1 S1 p.1/\B.own w c2 S2 p.2
 rd w F p cs:= ∃ c1 c2,cs=c1++c2/\A.rd w F p.1 c1/\B.rd w F p.2 c2
 len:=by
  rintro w cs S x ⟨c1,c2,S1,S2,rfl,rfl,_,h1,h2⟩
  rw [List.length_append,A.len _ _ _ _ h1,B.len _ _ _ _ h2]
 loc:=by
  rintro w w' cs S x h ⟨c1,c2,S1,S2,rfl,rfl,hd,h1,h2⟩
  exact ⟨c1,c2,S1,S2,rfl,rfl,hd,A.loc w w' _ _ _ (fun b hb=>h b (zal _ hb)) h1,B.loc w w' _ _ _ (fun b hb=>h b (zar _ hb)) h2⟩
 lt:=by
  rintro w cs S x ⟨c1,c2,S1,S2,rfl,rfl,hd,h1,h2⟩ b hb
  rcases List.mem_append.1 hb with hb | hb
  ·exact A.lt _ _ _ _ h1 b hb
  ·exact B.lt _ _ _ _ h2 b hb
 nd:=by
  rintro w cs S x ⟨c1,c2,S1,S2,rfl,rfl,hd,h1,h2⟩
  exact List.nodup_append.2 ⟨A.nd _ _ _ _ h1,B.nd _ _ _ _ h2,fun a ha b hb e=>by subst e;exact hd a ha hb⟩
 see:=by
  rintro w cs S x F ⟨c1,c2,S1,S2,rfl,rfl,hd,h1,h2⟩ hF
  exact ⟨c1,c2,rfl,A.see _ _ _ _ F h1 (fun b hb=>hF b (zal _ hb)),B.see _ _ _ _ F h2 (fun b hb=>hF b (zar _ hb))⟩
 rlen:=by
  rintro w F x cs ⟨c1,c2,rfl,h1,h2⟩
  rw [List.length_append,A.rlen _ _ _ _ h1,B.rlen _ _ _ _ h2]
 rloc:=by
  rintro w w' F F' x cs k1 k2 ⟨c1,c2,rfl,h1,h2⟩
  exact ⟨c1,c2,rfl,A.rloc w w' F F' _ _ k1 k2 h1,B.rloc w w' F F' _ _ k1 k2 h2⟩
def fit (n:Nat) (cs:List Value):List Value:=cs.take n++List.replicate (n-cs.length) undef
theorem zaj (n:Nat) (cs:List Value):(fit n cs).length=n:=by simp [fit];omega
theorem zhd {n:Nat} {cs:List Value} (h:cs.length=n):fit n cs=cs:=by subst h;simp [fit]
theorem zak {Ss:List (List Nat)} {S':List Nat}: ∀ {i:Nat},Ss.flatten.Nodup->S'.Nodup->(∀ (k:Nat) (S:List Nat),k ≠ i->Ss[k]? =some S-> ∀ b∈S',b ∉ S)->(Ss.set i S').flatten.Nodup:=by
 induction Ss with
 | nil=>intro i h _ _;simp
 | cons T r ih=>
  intro i h hS hx
  simp only [List.flatten_cons] at h
  obtain ⟨n1,n2,n3⟩:=List.nodup_append.1 h
  cases i with
  | zero=>
   simp only [List.set_cons_zero,List.flatten_cons]
   refine List.nodup_append.2 ⟨hS,n2,fun a ha b hb e=> ?_⟩
   subst e
   obtain ⟨S,hSr,hb⟩:=List.mem_flatten.1 hb
   obtain ⟨k,hk,rfl⟩:=List.mem_iff_getElem.1 hSr
   exact hx (k+1) _ (by omega) (by simp) a ha hb
  | succ i=>
   simp only [List.set_cons_succ,List.flatten_cons]
   refine List.nodup_append.2 ⟨n1,ih n2 hS (fun k S hk hSk=>hx (k+1) S (by omega) (by simpa using hSk)),fun a ha b hb e=> ?_⟩
   subst e
   obtain ⟨S,hSr,hb2⟩:=List.mem_flatten.1 hb
   rcases List.mem_or_eq_of_mem_set hSr with hSr | rfl
   ·exact n3 a ha a (List.mem_flatten.2 ⟨S,hSr,hb2⟩) rfl
   ·exact hx 0 T (by omega) rfl a hb2 ha
theorem jx {Ss:List (List Nat)} {S':List Nat} {i b:Nat} (h:b∈(Ss.set i S').flatten):b∈S'\/b∈Ss.flatten:=by
 obtain ⟨S,hS,hb⟩:=List.mem_flatten.1 h
 rcases List.mem_or_eq_of_mem_set hS with hS | rfl
 ·exact .inr (List.mem_flatten.2 ⟨S,hS,hb⟩)
 ·exact .inl hb
theorem zgB {Ss:List (List Nat)} (h:Ss.flatten.Nodup): ∀ {i j:Nat} {A B:List Nat},i ≠ j->Ss[i]? =some A->Ss[j]? =some B-> ∀ b∈A,b ∉ B:=by
 induction Ss with
 | nil=>intro i j A B _ hi;simp at hi
 | cons T r ih=>
  intro i j A B hij hi hj b hb hb2
  simp only [List.flatten_cons] at h
  obtain ⟨n1,n2,n3⟩:=List.nodup_append.1 h
  cases i with
  | zero=>
   cases j with
   | zero=>exact hij rfl
   | succ j=>
    simp only [List.getElem?_cons_zero,Option.some.injEq] at hi
    subst hi
    exact n3 b hb b (List.mem_flatten.2 ⟨B,zmg (by simpa using hj),hb2⟩) rfl
  | succ i=>
   cases j with
   | zero=>
    simp only [List.getElem?_cons_zero,Option.some.injEq] at hj
    subst hj
    exact n3 b hb2 b (List.mem_flatten.2 ⟨A,zmg (by simpa using hi),hb⟩) rfl
   | succ j=>exact ih n2 (i:=i) (j:=j) (by omega) (by simpa using hi) (by simpa using hj) b hb hb2
theorem zpq {β:Type} {l:List β} {t:Int} {x:β} (h:idx l t=some x):l.set t.toNat x=l:=by
 have:=(qB h).2.2
 apply List.ext_getElem?
 intro i
 by_cases e:t.toNat=i
 ·subst e;rw [List.getElem?_set_self (zes.1 this).1,this]
 ·rw [List.getElem?_set_ne e]
theorem zic {β:Type} {n i:Nat} {a b:β} (h:(List.replicate n a)[i]? =some b):i<n/\a=b:=by
 rw [List.getElem?_replicate] at h
 split at h
 ·rename_i hi;exact ⟨hi,by cases h;rfl⟩
 ·cases h
theorem zmG {n:Nat} {c0 cs:List Value} (h:cs.length=n):qk (fit n c0) cs 0=fit n cs:=by
 have h1:=zaj n c0
 have h2:(fit n c0).drop (0+cs.length)= []:=List.drop_of_length_le (by omega)
 unfold qk
 rw [h2,zhd h]
 simp
structure zhk {α:Type} (w:World) (T:TypeId) (R:Rp α) (v:Value) (S:List Nat) (xs:List α) (ho:Option (Nat×List Value)) (css:List (List Value)) (Ss:List (List Nat)):Prop where
 row:zdn w T R.sz v xs.length (vy (fit R.sz) css)
 lc:css.length=xs.length
 ls:Ss.length=xs.length
 hS:S=(zbd v).toList++Ss.flatten
 nd:S.Nodup
 out: ∀ t cs,ho=some (t,cs)->cs.length=R.sz/\css[t]? =some cs/\Ss[t]? =some []
 own: ∀ (i:Nat) (cs:List Value) (S':List Nat) (x:α),(∀ c,ho ≠ some (i,c))->css[i]? =some cs->Ss[i]? =some S'->xs[i]? =some x->R.own w cs S' x
section
variable {α:Type} {w w':World} {T:TypeId} {R:Rp α} {v:Value} {S:List Nat} {xs:List α} {ho:Option (Nat×List Value)} {css:List (List Value)} {Ss:List (List Nat)}
theorem zhk.lt (h:zhk w T R v S xs ho css Ss): ∀ b∈S,b<w.heap.size:=by
 intro b hb
 rw [h.hS] at hb
 rcases List.mem_append.1 hb with hb | hb
 ·exact h.row.lt b hb
 ·obtain ⟨S',hS',hb⟩:=List.mem_flatten.1 hb
  obtain ⟨i,hi,rfl⟩:=List.mem_iff_getElem.1 hS'
  have h1:i<css.length:=by rw [h.lc,<- h.ls];exact hi
  have h2:i<xs.length:=by rw [<- h.ls];exact hi
  by_cases hq: ∃ c,ho=some (i,c)
  ·obtain ⟨c,hc⟩:=hq
   have:=(h.out i c hc).2.2
   rw [zeg hi] at this
   rw [Option.some.inj this] at hb
   exact absurd hb znm
  ·exact R.lt _ _ _ _ (h.own i _ _ _ (fun c hc=>hq ⟨c,hc⟩) (zeg h1) (zeg hi) (zeg h2)) b hb
theorem zhk.loc (h:zhk w T R v S xs ho css Ss) (hb: ∀ b∈S,w'.heap[b]? =w.heap[b]?):zhk w' T R v S xs ho css Ss:=by
 have hS:=h.hS
 refine ⟨h.row.loc (fun b hbv=>hb b (by rw [hS];exact zal _ hbv)),h.lc,h.ls,h.hS,h.nd,h.out,fun i cs S' x h1 h2 h3 h4=>R.loc w w' cs S' x (fun b hbs=>hb b ?_) (h.own i cs S' x h1 h2 h3 h4)⟩
 rw [hS]
 exact zar _ (List.mem_flatten.2 ⟨S',zmg h3,hbs⟩)
theorem zaU {β:Type} {l:List β} {z u:β} {t i:Nat} (hi:(l.set t z)[i]? =some u):(i=t/\u=z)\/(i ≠ t/\l[i]? =some u):=by
 by_cases e:t=i
 ·subst e
  have hl:t<l.length:=by have:=(zes.1 hi).1;simpa using this
  rw [List.getElem?_set_self hl] at hi;exact .inl ⟨rfl,(Option.some.inj hi).symm⟩
 ·rw [List.getElem?_set_ne e] at hi;exact .inr ⟨fun x=>e x.symm,hi⟩
theorem zhk.take (h:zhk w T R v S xs none css Ss) {t:Nat} {x:α} (hx:xs[t]? =some x):
  ∃ cs S1 S2,css[t]? =some cs/\cs.length=R.sz/\R.own w cs S2 x/\zhk w T R v S1 xs (some (t,cs)) css (Ss.set t [])/\(∀ b∈S2,b∈S)/\(∀ b∈S1,b∈S)/\ ∀ b∈S1,b ∉ S2:=by
 have hl:=(zes.1 hx).1
 have a1:t<css.length:=by rw [h.lc];exact hl
 have a2:t<Ss.length:=by rw [h.ls];exact hl
 have hn:=h.nd
 rw [h.hS] at hn
 obtain ⟨n1,n2,n3⟩:=List.nodup_append.1 hn
 have hown:=h.own t css[t] Ss[t] x (by simp) (zeg a1) (zeg a2) hx
 have hsub: ∀ b∈(Ss.set t []).flatten,b∈Ss.flatten:=fun b hb=>by
  rcases jx hb with hb | hb
  ·exact absurd hb znm
  ·exact hb
 have n2':(Ss.set t []).flatten.Nodup:=zak n2 List.nodup_nil (fun _ _ _ _ b hb=>absurd hb znm)
 refine ⟨css[t],(zbd v).toList++(Ss.set t []).flatten,Ss[t],zeg a1,R.len _ _ _ _ hown,hown,⟨h.row,h.lc,by rw [List.length_set];exact h.ls,rfl,?_,fun q c e=> ?_,fun i cs S' y h1 h2 h3 h4=> ?_⟩,fun b hb=> ?_,fun b hb=> ?_,fun b hb hb2=> ?_⟩
 ·exact List.nodup_append.2 ⟨n1,n2',fun a ha b hb e=>n3 a ha b (hsub b hb) e⟩
 ·simp only [Option.some.injEq,Prod.mk.injEq] at e
  obtain ⟨rfl,rfl⟩:=e
  exact ⟨R.len _ _ _ _ hown,zeg a1,by rw [List.getElem?_set_self a2]⟩
 ·rcases zaU h3 with ⟨rfl,rfl⟩ | ⟨hne,h3⟩
  ·rw [zeg a1] at h2
   exact absurd (by rw [Option.some.inj h2]) (h1 cs)
  ·exact h.own i cs S' y (by simp) h2 h3 h4
 ·rw [h.hS];exact zar _ (List.mem_flatten.2 ⟨Ss[t],List.getElem_mem a2,hb⟩)
 ·rw [h.hS]
  rcases List.mem_append.1 hb with hb | hb
  ·exact zal _ hb
  ·exact zar _ (hsub b hb)
 ·rcases List.mem_append.1 hb with hb | hb
  ·exact n3 b hb b (List.mem_flatten.2 ⟨Ss[t],List.getElem_mem a2,hb2⟩) rfl
  ·obtain ⟨S',hS',hb⟩:=List.mem_flatten.1 hb
   obtain ⟨i,hi,rfl⟩:=List.mem_iff_getElem.1 hS'
   rcases zaU (zeg hi) with ⟨_,e⟩ | ⟨hne,hi2⟩
   ·rw [e] at hb;exact absurd hb znm
   ·exact zgB n2 hne hi2 (zeg a2) b hb hb2
theorem zhk.give (h:zhk w T R v S xs ho css Ss) {t:Nat} {cs:List Value} {S2:List Nat} {x y:α} (hho: ∀ i c,ho=some (i,c)->i=t) (hy:xs[t]? =some y) (hx:R.own w' cs S2 x) (hd: ∀ b∈S,b ∉ S2)
  (hw: ∀ b∈Ss.flatten,w'.heap[b]? =w.heap[b]?) (hrow:zdn w' T R.sz v xs.length (vy (fit R.sz) (css.set t cs))):zhk w' T R v ((zbd v).toList++(Ss.set t S2).flatten) (xs.set t x) none (css.set t cs) (Ss.set t S2):=by
 have hn:=h.nd
 rw [h.hS] at hn
 obtain ⟨n1,n2,n3⟩:=List.nodup_append.1 hn
 have hS:=h.hS
 refine ⟨by rw [List.length_set];exact hrow,by rw [List.length_set,List.length_set];exact h.lc,by rw [List.length_set,List.length_set];exact h.ls,rfl,?_,(fun _ _ e=>by cases e),fun i c S' z _ h2 h3 h4=> ?_⟩
 ·refine List.nodup_append.2 ⟨n1,zak n2 (R.nd _ _ _ _ hx) (fun k T' _ hT b hb hb2=>hd b (by rw [hS];exact zar _ (List.mem_flatten.2 ⟨T',zmg hT,hb2⟩)) hb),fun a ha b hb e=> ?_⟩
  subst e
  rcases jx hb with hb | hb
  ·exact hd a (by rw [hS];exact zal _ ha) hb
  ·exact n3 a ha a hb rfl
 ·rcases zaU h3 with ⟨rfl,rfl⟩ | ⟨hne,h3⟩
  ·rcases zaU h2 with ⟨_,rfl⟩ | ⟨hne,_⟩
   ·rcases zaU h4 with ⟨_,rfl⟩ | ⟨hne,_⟩
    ·exact hx
    ·exact absurd rfl hne
   ·exact absurd rfl hne
  ·rcases zaU h2 with ⟨e,_⟩ | ⟨_,h2⟩
   ·exact absurd e hne
   ·rcases zaU h4 with ⟨e,_⟩ | ⟨_,h4⟩
    ·exact absurd e hne
    ·exact R.loc w w' c S' z (fun b hb=>hw b (List.mem_flatten.2 ⟨S',zmg h3,hb⟩)) (h.own i c S' z (fun c' e=>hne (hho i c' e)) h2 h3 h4)
theorem zhk.app {v':Value} {v2:Value} {S2:List Nat} {ys:List α} {css2:List (List Value)} {Ss2:List (List Nat)} (h:zhk w T R v S xs none css Ss) (h2:zhk w T R v2 S2 ys none css2 Ss2) (hd: ∀ b∈S,b ∉ S2)
  (hw: ∀ b∈Ss.flatten++Ss2.flatten,w'.heap[b]? =w.heap[b]?) (hat:zbd v'=zbd v\/zbd v'=some w.heap.size) (hrow:zdn w' T R.sz v' (xs.length+ys.length) (vy (fit R.sz) css++vy (fit R.sz) css2)):
  zhk w' T R v' ((zbd v').toList++(Ss++Ss2).flatten) (xs++ys) none (css++css2) (Ss++Ss2):=by
 have hn:=h.nd
 rw [h.hS] at hn
 obtain ⟨n1,n2,n3⟩:=List.nodup_append.1 hn
 have hn2:=h2.nd
 rw [h2.hS] at hn2
 obtain ⟨m1,m2,m3⟩:=List.nodup_append.1 hn2
 have lc:=h.lc
 have ls:=h.ls
 have lc2:=h2.lc
 have ls2:=h2.ls
 refine ⟨by rw [zf3,List.length_append];exact hrow,by simp;omega,by simp;omega,rfl,?_,(fun _ _ e=>by cases e),fun i c S' z _ g2 g3 g4=> ?_⟩
 ·rw [List.flatten_append]
  refine List.nodup_append.2 ⟨zb1,List.nodup_append.2 ⟨n2,m2,fun a ha b hb e=> ?_⟩,fun a ha b hb e=> ?_⟩
  ·subst e;exact hd a (by rw [h.hS];exact zar _ ha) (by rw [h2.hS];exact zar _ hb)
  ·subst e
   rcases hat with hat | hat
   ·rw [hat] at ha
    rcases List.mem_append.1 hb with hb | hb
    ·exact n3 a ha a hb rfl
    ·exact hd a (by rw [h.hS];exact zal _ ha) (by rw [h2.hS];exact zar _ hb)
   ·rw [hat] at ha
    simp at ha
    have hlt:a<w.heap.size:=by
     rcases List.mem_append.1 hb with hb | hb
     ·exact h.lt a (by rw [h.hS];exact zar _ hb)
     ·exact h2.lt a (by rw [h2.hS];exact zar _ hb)
    omega
 ·rcases xa g2 with ⟨l1,g2⟩ | ⟨l1,g2⟩
  ·rcases xa g3 with ⟨l2,g3⟩ | ⟨l2,g3⟩
   ·rcases xa g4 with ⟨l3,g4⟩ | ⟨l3,g4⟩
    ·exact R.loc w w' c S' z (fun b hb=>hw b (zal _ (List.mem_flatten.2 ⟨S',zmg g3,hb⟩))) (h.own i c S' z (by simp) g2 g3 g4)
    ·omega
   ·omega
  ·rcases xa g3 with ⟨l2,g3⟩ | ⟨l2,g3⟩
   ·omega
   ·rcases xa g4 with ⟨l3,g4⟩ | ⟨l3,g4⟩
    ·omega
    ·rw [show i-Ss.length=i-css.length by omega] at g3
     rw [show i-xs.length=i-css.length by omega] at g4
     exact R.loc w w' c S' z (fun b hb=>hw b (zar _ (List.mem_flatten.2 ⟨S',zmg g3,hb⟩))) (h2.own (i-css.length) c S' z (by simp) g2 g3 g4)
end
def nI {α:Type} (T:TypeId) (R:Rp α) (v:Value) (S:List Nat) (xs:List α) (ho:Option (Nat×List Value)):zz where
 S:=S
 Φ w:= ∃ css Ss,zhk w T R v S xs ho css Ss
 loc w w' hb h:=by obtain ⟨css,Ss,h⟩:=h;exact ⟨css,Ss,h.loc hb⟩
 lt w h:=by obtain ⟨css,Ss,h⟩:=h;exact h.lt
theorem RdN.far {α:Type} {R:Rp α} {w w':World} {F F':List Nat} {v:Value} {xs:List α} (hp:0<R.sz) (h:RdN w F v R.rd R.sz xs) (h1: ∀ b,b<w.heap.size->b ∉ F->w'.heap[b]? =w.heap[b]?) (h2: ∀ b∈F',b∈F\/w.heap.size<=b):RdN w' F' v R.rd R.sz xs:=by
 obtain ⟨hn,a,c,hv,hlc,hc⟩:=h
 refine ⟨hn,a,c,hv,hlc,fun t x hx=> ?_⟩
 obtain ⟨cs,hDx,b,o,ha,hb,hcell⟩:=hc t x hx
 have hl:=R.rlen _ _ _ _ hDx
 have hlt:b<w.heap.size:=zfh (hcell 0 cs[0] (zeg (by omega)))
 refine ⟨cs,R.rloc _ _ _ _ _ _ h1 h2 hDx,b,o,ha,fun hf=> ?_,fun f u hu=>(World.cell?_of_block (h1 b hlt hb)).trans (hcell f u hu)⟩
 rcases h2 b hf with h3 | h3
 ·exact hb h3
 ·omega
theorem zhk.see {α:Type} {w:World} {T:TypeId} {R:Rp α} {v:Value} {S:List Nat} {xs:List α} {css:List (List Value)} {Ss:List (List Nat)} (h:zhk w T R v S xs none css Ss) {F:List Nat} (hF: ∀ b∈S,b ∉ F):RdN w F v R.rd R.sz xs:=by
 have hS:=h.hS
 have hrd:Rd w F v (fit R.sz) R.sz css:=by
  have hrow:=h.row
  rw [<- h.lc] at hrow
  exact zdM (fun x=>zaj _ x) hrow (fun b hb=>hF b (by rw [hS];exact zal _ hb))
 obtain ⟨hn,a,c,hv,hlc,hc⟩:=hrd
 refine ⟨by rw [<- h.lc];exact hn,a,c,by rw [hv,h.lc],by rw [<- h.lc];exact hlc,fun t x hx=> ?_⟩
 have hl:=(zes.1 hx).1
 have a1:t<css.length:=by rw [h.lc];exact hl
 have a2:t<Ss.length:=by rw [h.ls];exact hl
 have hown:=h.own t css[t] Ss[t] x (by simp) (zeg a1) (zeg a2) hx
 have hlen:=R.len _ _ _ _ hown
 refine ⟨css[t],R.see _ _ _ _ F hown (fun b hb=>hF b (by rw [hS];exact zar _ (List.mem_flatten.2 ⟨Ss[t],List.getElem_mem a2,hb⟩))),?_⟩
 rcases h.row.2 with ⟨h0,_⟩ | ⟨g,o,cap,cur,rfl,hp,hg,hnc,hm,hcs,htake⟩
 ·omega
 ·simp only [Value.slice.injEq] at hv
  obtain ⟨rfl,_,_⟩:=hv
  refine ⟨g,o,rfl,hF g (by rw [hS];exact zal _ (by simp [za2 hp])),fun f u hu=> ?_⟩
  obtain ⟨b',o',hb',_,hcell⟩:=hc t css[t] f u (zeg a1) (by rw [zhd hlen];exact hu)
  simp only [Option.some.injEq,Addr.mk.injEq,and_true] at hb'
  obtain ⟨rfl,rfl⟩:=hb'
  exact hcell
def shd (a:Option Addr) (c lo sz:Nat):Option Addr:=if c=lo then a else a.map (·.add (lo*sz))
theorem zq2 {α:Type} {xs ys:List α} {lo hi:Int} (h:cut xs lo hi=some ys) {t:Nat} {x:α} (hx:ys[t]? =some x):xs[lo.toNat+t]? =some x:=by
 obtain ⟨h0,h1,h2,rfl⟩:=zbF h
 rw [List.getElem?_drop,List.getElem?_take] at hx
 split at hx
 ·exact hx
 ·cases hx
theorem Rd.part {α:Type} {w:World} {S:List Nat} {a:Option Addr} {n c:Nat} {enc:α->List Value} {sz:Nat} {xs ys:List α} {lo hi:Int} (h:Rd w S (.slice a n c) enc sz xs) (hc:cut xs lo hi=some ys):
  Rd w S (.slice (shd a c lo.toNat sz) ys.length (c-lo.toNat)) enc sz ys:=by
 obtain ⟨hn,a',c',hv,hlc,hcell⟩:=h
 simp only [Value.slice.injEq] at hv
 obtain ⟨rfl,rfl,rfl⟩:=hv
 obtain ⟨h0,h1,h2,_⟩:=zbF hc
 have hl:=zfk hc
 refine ⟨by omega,_,_,rfl,by omega,fun t x f u hx hu=> ?_⟩
 obtain ⟨b,o,rfl,hb,hcl⟩:=hcell _ x f u (zq2 hc hx) hu
 have hlt:=(zes.1 hx).1
 refine ⟨b,o+lo.toNat*sz,?_,hb,?_⟩
 ·unfold shd
  rw [if_neg (by omega),Option.map_some,zcD]
 ·rw [Nat.add_mul,<- Nat.add_assoc] at hcl
  exact hcl
theorem Rd.pre {α:Type} {w:World} {S:List Nat} {a:Option Addr} {n c:Nat} {enc:α->List Value} {sz:Nat} {xs ys:List α} {hi:Int} (h:Rd w S (.slice a n c) enc sz xs) (hc:cut xs 0 hi=some ys):Rd w S (.slice a ys.length c) enc sz ys:=by
 have h2:=h.part hc
 have e:shd a c (Int.toNat 0) sz=a:=by
  unfold shd
  split
  ·rfl
  ·cases a with
   | none=>rfl
   | some z=>simp [Addr.add]
 rw [e] at h2
 exact h2
section
variable {P:Program} {N:Nat} {fr:List (Nat×Value)}
theorem zoc {α:Type} {o:Oper} {t e:TypeId} {x y:Operand} {a:Option Addr} {n c:Nat} {q:Int} {kd:IntKind} {xs ys:List α} (sz:Nat) (ho:o.op= .slice t x (some y) none none) (hx:look fr x=some (.slice a n c)) (hn:n=xs.length) (hy:look fr y=some (.int kd q))
  (hc:cut xs q (xs.length:Int)=some ys) (ht:P.underlying t=some (.slice e)) (hs:zbw P (sizeOf e)=some sz): ∀ b w,Rep N fr b->(execOp b.eval o).run P w= .ok (.value (.slice (shd a c q.toNat sz) ys.length (c-q.toNat))) w:=by
 intro b w hb
 have e1:=hb.look hx
 have e2:=hb.look hy
 obtain ⟨h0,h1,h2,_⟩:=zbF hc
 have hl:=zfk hc
 subst hn
 have h3:0<=q/\q<=(xs.length:Int):=⟨h0,h1⟩
 have e3:xs.length-q.toNat=ys.length:=by omega
 simp [execOp,ho,Instr.sliceAt,Instr.slice,Instr.sliceBounds,Instr.sliceBound,run_underlying ht,e1,e2,asIntOf,h3,jB hs,e3,shd]
theorem zq3 {α:Type} {o:Oper} {t e:TypeId} {x y z:Operand} {a:Option Addr} {n c:Nat} {q r:Int} {kd ke:IntKind} {xs ys:List α} (sz:Nat) (ho:o.op= .slice t x (some y) (some z) none) (hx:look fr x=some (.slice a n c)) (hy:look fr y=some (.int kd q)) (hz:look fr z=some (.int ke r))
  (hc:cut xs q r=some ys) (hcap:xs.length<=c) (ht:P.underlying t=some (.slice e)) (hs:zbw P (sizeOf e)=some sz): ∀ b w,Rep N fr b->(execOp b.eval o).run P w= .ok (.value (.slice (shd a c q.toNat sz) ys.length (c-q.toNat))) w:=by
 intro b w hb
 have e1:=hb.look hx
 have e2:=hb.look hy
 have e4:=hb.look hz
 obtain ⟨h0,h1,h2,_⟩:=zbF hc
 have hl:=zfk hc
 have h3:0<=r/\r<=(c:Int):=⟨by omega,by omega⟩
 have h5:0<=q/\q<=r:=⟨h0,h1⟩
 have h6:(r.toNat:Int)=r:=by omega
 have e3:r.toNat-q.toNat=ys.length:=by omega
 simp [execOp,ho,Instr.sliceAt,Instr.slice,Instr.sliceBounds,Instr.sliceBound,run_underlying ht,e1,e2,e4,asIntOf,h3,h5,h6,jB hs,e3,shd]
end
theorem Rd.cap {α:Type} {w:World} {S:List Nat} {a:Option Addr} {n c:Nat} {enc:α->List Value} {sz:Nat} {xs:List α} (h:Rd w S (.slice a n c) enc sz xs):xs.length<=c:=by
 obtain ⟨_,a',c',hv,hlc,_⟩:=h
 simp only [Value.slice.injEq] at hv
 obtain ⟨_,_,rfl⟩:=hv
 exact hlc
def zq4 {α:Type} (T:TypeId) (R:Rp α) (hp:0<R.sz):Rp (List α) where
 sz:=1
 own w cs S xs:= ∃ v,cs= [v]/\ ∃ css Ss,zhk w T R v S xs none css Ss
 rd w F xs cs:= ∃ v,cs= [v]/\RdN w F v R.rd R.sz xs
 len:=by rintro w cs S x ⟨v,rfl,_⟩;rfl
 loc:=by rintro w w' cs S x h ⟨v,rfl,css,Ss,hr⟩;exact ⟨v,rfl,css,Ss,hr.loc h⟩
 lt:=by rintro w cs S x ⟨v,rfl,css,Ss,hr⟩;exact hr.lt
 nd:=by rintro w cs S x ⟨v,rfl,css,Ss,hr⟩;exact hr.nd
 see:=by rintro w cs S x F ⟨v,rfl,css,Ss,hr⟩ hF;exact ⟨v,rfl,hr.see hF⟩
 rlen:=by rintro w F x cs ⟨v,rfl,_⟩;rfl
 rloc:=by rintro w w' F F' x cs h1 h2 ⟨v,rfl,h⟩;exact ⟨v,rfl,h.far hp h1 h2⟩
def za3 {α:Type} (T:TypeId) (R:Rp α):Rp α where
 sz:=1
 own w cs S x:= ∃ b cs' S',cs= [.pointer (some ⟨b,0,none⟩)]/\S=b::S'/\b ∉ S'/\w.heap[b]? =some (.cells cs'.toArray T (0,0))/\R.own w cs' S' x
 rd w F x cs:= ∃ b cs',cs= [.pointer (some ⟨b,0,none⟩)]/\b ∉ F/\w.heap[b]? =some (.cells cs'.toArray T (0,0))/\R.rd w F x cs'
 len:=by rintro w cs S x ⟨b,cs',S',rfl,_⟩;rfl
 loc:=by
  rintro w w' cs S x h ⟨b,cs',S',rfl,rfl,hb,hh,hr⟩
  exact ⟨b,cs',S',rfl,rfl,hb,by rw [h b zcs];exact hh,R.loc w w' _ _ _ (fun c hc=>h c (zcm _ hc)) hr⟩
 lt:=by
  rintro w cs S x ⟨b,cs',S',rfl,rfl,hb,hh,hr⟩ c hc
  rcases List.mem_cons.1 hc with rfl | hc
  ·exact (Array.getElem?_eq_some_iff.1 hh).1
  ·exact R.lt _ _ _ _ hr c hc
 nd:=by
  rintro w cs S x ⟨b,cs',S',rfl,rfl,hb,hh,hr⟩
  exact List.nodup_cons.2 ⟨hb,R.nd _ _ _ _ hr⟩
 see:=by
  rintro w cs S x F ⟨b,cs',S',rfl,rfl,hb,hh,hr⟩ hF
  exact ⟨b,cs',rfl,hF b zcs,hh,R.see _ _ _ _ F hr (fun c hc=>hF c (zcm _ hc))⟩
 rlen:=by rintro w F x cs ⟨b,cs',rfl,_⟩;rfl
 rloc:=by
  rintro w w' F F' x cs h1 h2 ⟨b,cs',rfl,hb,hh,hr⟩
  have hlt:=(Array.getElem?_eq_some_iff.1 hh).1
  refine ⟨b,cs',rfl,fun hf=> ?_,by rw [h1 b hlt hb];exact hh,R.rloc w w' F F' x cs' h1 h2 hr⟩
  rcases h2 b hf with h3 | h3
  ·exact hb h3
  ·omega
def zjq {α:Type} (T:TypeId) (R:Rp α):Rp (Option α) where
 sz:=1
 own w cs S x:=match x with
  | none=>cs= [.pointer none]/\S= []
  | some y=>(za3 T R).own w cs S y
 rd w F x cs:=match x with
  | none=>cs= [.pointer none]
  | some y=>(za3 T R).rd w F y cs
 len:=by
  rintro w cs S (_ | x) h
  ·rw [h.1];rfl
  ·exact (za3 T R).len w cs S x h
 loc:=by
  rintro w w' cs S (_ | x) hb h
  ·exact h
  ·exact (za3 T R).loc w w' cs S x hb h
 lt:=by
  rintro w cs S (_ | x) h
  ·rw [h.2];simp
  ·exact (za3 T R).lt w cs S x h
 nd:=by
  rintro w cs S (_ | x) h
  ·rw [h.2];exact List.nodup_nil
  ·exact (za3 T R).nd w cs S x h
 see:=by
  rintro w cs S (_ | x) F h hF
  ·exact h.1
  ·exact (za3 T R).see w cs S x F h hF
 rlen:=by
  rintro w F (_ | x) cs h
  ·rw [show cs= [.pointer none] from h];rfl
  ·exact (za3 T R).rlen w F x cs h
 rloc:=by
  rintro w w' F F' (_ | x) cs h1 h2 h
  ·exact h
  ·exact (za3 T R).rloc w w' F F' x cs h1 h2 h
def qU {α β:Type} (f:α->List Value->List Value) (sz:Nat) (hl: ∀ x vs,(f x vs).length=sz) (g:α->β) (R:Rp β):Rp α where
 sz:=sz
 own w cs S x:= ∃ vs,cs=f x vs/\R.own w vs S (g x)
 rd w F x cs:= ∃ vs,cs=f x vs/\R.rd w F (g x) vs
 len:=by rintro w cs S x ⟨vs,rfl,_⟩;exact hl x vs
 loc:=by rintro w w' cs S x hb ⟨vs,rfl,h⟩;exact ⟨vs,rfl,R.loc w w' _ _ _ hb h⟩
 lt:=by rintro w cs S x ⟨vs,rfl,h⟩;exact R.lt _ _ _ _ h
 nd:=by rintro w cs S x ⟨vs,rfl,h⟩;exact R.nd _ _ _ _ h
 see:=by rintro w cs S x F ⟨vs,rfl,h⟩ hF;exact ⟨vs,rfl,R.see _ _ _ _ F h hF⟩
 rlen:=by rintro w F x cs ⟨vs,rfl,_⟩;exact hl x vs
 rloc:=by rintro w w' F F' x cs h1 h2 ⟨vs,rfl,h⟩;exact ⟨vs,rfl,R.rloc w w' F F' _ _ h1 h2 h⟩
theorem Rd.isnil {α:Type} {w:World} {S:List Nat} {a:Option Addr} {n c:Nat} {enc:α->List Value} {sz:Nat} {xs:List α} (h:Rd w S (.slice a n c) enc sz xs) (he: ∀ x,∃ u,(enc x)[0]? =some u) (ha:a.isNone=true):xs= []:=by
 cases xs with
 | nil=>rfl
 | cons x r=>
  obtain ⟨_,a',c',hv,_,hc⟩:=h
  obtain ⟨u,hu⟩:=he x
  obtain ⟨b,o,e,_⟩:=hc 0 x 0 u rfl hu
  cases hv
  rw [e] at ha
  cases ha
theorem zfB {α:Type} {T:TypeId} {enc:α->List Value} {sz:Nat} {he: ∀ x,(enc x).length=sz} {hp:0<sz} {w:World} {cs:List Value} {S:List Nat} {x:List α} (h:(zhc T enc sz he hp).own w cs S x):zec cs=true:=by
 obtain ⟨v,rfl,rfl,hr⟩:=h
 rcases hr.2 with ⟨_,a,rfl⟩ | ⟨g,o,cap,cur,rfl,_⟩<;>rfl
section
variable {w0 w:World} {S0:List Nat} {L:List zz} {α:Type} {R:Rp α}
theorem St.toIt {T:TypeId} {v:Value} {enc:α->List Value} {sz:Nat} {ys:List α} (h:St w0 S0 w L) (j:Nat) (hj:L[j]? =some (zZ v T enc sz ys)) (he: ∀ x,(enc x).length=sz) (hp:0<sz):
 St w0 S0 w (L.set j (itI (zhc T enc sz he hp) [v] (zbd v).toList ys)):=h.turn j hj ⟨v,rfl,rfl,h.all j _ hj⟩ rfl
theorem St.toRow {cs:List Value} {S:List Nat} {T:TypeId} {enc:α->List Value} {sz:Nat} {ys:List α} {he: ∀ x,(enc x).length=sz} {hp:0<sz} (h:St w0 S0 w L) (j:Nat) (hj:L[j]? =some (itI (zhc T enc sz he hp) cs S ys)):
  ∃ v,cs= [v]/\St w0 S0 w (L.set j (zZ v T enc sz ys)):=by
 obtain ⟨v,rfl,rfl,hr⟩:=h.all j _ hj
 exact ⟨v,rfl,h.turn j hj hr rfl⟩
theorem St.see {cs:List Value} {S:List Nat} {x:α} (h:St w0 S0 w L) (j:Nat) (hj:L[j]? =some (itI R cs S x)) (ids:List Nat) (hn:mem? j ids=false):R.rd w (fp (sel L ids)) x cs:=
 R.see _ _ _ _ _ (h.all j _ hj) (h.noin j hj ids hn)
theorem St.seeN {v:Value} {S:List Nat} {T:TypeId} {xs:List α} (h:St w0 S0 w L) (j:Nat) (hj:L[j]? =some (nI T R v S xs none)) (ids:List Nat) (hn:mem? j ids=false):RdN w (fp (sel L ids)) v R.rd R.sz xs:=by
 obtain ⟨css,Ss,hr⟩:=h.all j _ hj
 exact hr.see (h.noin j hj ids hn)
theorem RdN.give {v:Value} {xs:List α} (hp:0<R.sz) (h:RdN w0 S0 v R.rd R.sz xs) (hst:St w0 S0 w L) (ids:List Nat):RdN w (fp (sel L ids)) v R.rd R.sz xs:=by
 refine h.far hp (fun b h1 h2=>hst.chg.block b h1 h2) (fun b hf=> ?_)
 obtain ⟨j,it,hj,hbs⟩:=zai.1 hf
 obtain ⟨k,_,hk⟩:=zcW hj
 rcases vx hk with hk | rfl
 ·exact hst.own k it hk b hbs
 ·cases hbs
end
section
variable {w0 w:World} {S0:List Nat} {L:List zz} {α:Type} {T:TypeId} {R:Rp α} {v:Value} {S:List Nat} {xs:List α} {ho:Option (Nat×List Value)}
theorem St.nlen (h:St w0 S0 w L) (j:Nat) (hj:L[j]? =some (nI T R v S xs ho)):xs.length<=9223372036854775807/\ ∃ a c,v= .slice a xs.length c:=by
 obtain ⟨css,Ss,hr⟩:=h.all j _ hj
 rcases hr.row.2 with ⟨hn,a,rfl⟩ | ⟨g,o,cap,cur,rfl,_,hg,hnc,hm,_,htake⟩
 ·exact ⟨by omega,a,0,by rw [hn]⟩
 ·refine ⟨?_,_,_,rfl⟩
  simp only [maxLen] at hm
  omega
theorem St.nrowv (h:St w0 S0 w L) (j:Nat) (hj:L[j]? =some (nI T R v S xs ho)) {t:Int} {x:α} (hx:idx xs t=some x): ∃ g o cap,v= .slice (some ⟨g,o,none⟩) xs.length cap:=by
 obtain ⟨css,Ss,hr⟩:=h.all j _ hj
 obtain ⟨h0,h1,h2⟩:=qB hx
 rcases hr.row.2 with ⟨hn,a,rfl⟩ | ⟨g,o,cap,cur,rfl,_⟩
 ·omega
 ·exact ⟨g,o,cap,rfl⟩
theorem zhk.cells {css:List (List Value)} {Ss:List (List Nat)} (hr:zhk w T R v S xs ho css Ss) {t:Nat} {cs:List Value} (hc:css[t]? =some cs) (hl:cs.length=R.sz) {g o n cap:Nat} (hv:v= .slice (some ⟨g,o,none⟩) n cap): ∀ f u,cs[f]? =some u->w.cell? ⟨g,o+t*R.sz+f,none⟩=some u:=by
 intro f u hu
 have ht:=(zes.1 hc).1
 have hlc:=hr.lc
 rcases hr.row.2 with ⟨hn,_⟩ | ⟨g',o',cap',cur,rfl,_,hg,_,_,_,htake⟩
 ·omega
 ·simp only [Value.slice.injEq,Option.some.injEq,Addr.mk.injEq,and_true] at hv
  obtain ⟨⟨rfl,rfl⟩,_,_⟩:=hv
  have:=zfx (fun x=>zaj R.sz x) hc (u:=u) (f:=f) (by rw [zhd hl];exact hu)
  rw [<- htake,List.getElem?_take] at this
  split at this
  ·rw [cell_of_row w g' _ cur T (0,0) hg,Nat.add_assoc]
   rw [List.getElem?_drop] at this
   simpa using this
  ·cases this
theorem St.nout (h:St w0 S0 w L) (j:Nat) (hj:L[j]? =some (nI T R v S xs none)) {t:Int} {x:α} (hx:idx xs t=some x) {g o n cap:Nat} (hv:v= .slice (some ⟨g,o,none⟩) n cap):
  ∃ cs S1 S2,cs.length=R.sz/\(∀ f u,cs[f]? =some u->w.cell? ⟨g,o+t.toNat*R.sz+f,none⟩=some u)/\St w0 S0 w (L.set j (nI T R v S1 xs (some (t.toNat,cs)))++ [itI R cs S2 x]):=by
 obtain ⟨css,Ss,hr⟩:=h.all j _ hj
 obtain ⟨cs,S1,S2,hc,hl,hown,hr2,h1,h2,h3⟩:=hr.take (qB hx).2.2
 exact ⟨cs,S1,S2,hl,hr.cells hc hl hv,h.swap j hj ⟨css,_,hr2⟩ hr2.nd h2 hown (R.nd _ _ _ _ hown) h1 h3⟩
theorem St.fptr {U:TypeId} {u:Value} {x:α} (h:St w0 S0 w L) (j:Nat) (hj:L[j]? =some (itI (za3 U R) [u] S x)): ∃ b,u= .pointer (some ⟨b,0,none⟩):=by
 obtain ⟨b,cs',S',hv,_⟩:=h.all j _ hj
 cases hv
 exact ⟨b,rfl⟩
theorem St.optSome {U:TypeId} {u:Value} {x:Option α} {y:α} (h:St w0 S0 w L) (j:Nat) (hj:L[j]? =some (itI (zjq U R) [u] S x)) (hx:x=some y):St w0 S0 w (L.set j (itI (za3 U R) [u] S y)):=by
 subst hx
 exact h.turn j hj (h.all j _ hj) rfl
theorem St.nhole (h:St w0 S0 w L) (j:Nat) {t:Int} {cs:List Value} (hj:L[j]? =some (nI T R v S xs (some (t.toNat,cs)))) {g o n cap:Nat} (hv:v= .slice (some ⟨g,o,none⟩) n cap): ∀ f u,cs[f]? =some u->w.cell? ⟨g,o+t.toNat*R.sz+f,none⟩=some u:=by
 obtain ⟨css,Ss,hr⟩:=h.all j _ hj
 obtain ⟨h1,h2,_⟩:=hr.out _ _ rfl
 exact hr.cells h2 h1 hv
theorem St.nback (h:St w0 S0 w L) (k j:Nat) (hkj:Nat.beq k j=false) {t:Int} {cs:List Value} {S2:List Nat} {x y:α} (hk:L[k]? =some (nI T R v S xs (some (t.toNat,cs)))) (hj:L[j]? =some (itI R cs S2 y)) (hx:idx xs t=some x):
  ∃ S',St w0 S0 w ((L.set k (nI T R v S' (xs.set t.toNat y) none)).set j nilI):=by
 obtain ⟨css,Ss,hr⟩:=h.all k _ hk
 obtain ⟨_,h2,h3⟩:=hr.out _ _ rfl
 have hset:css.set t.toNat cs=css:=by
  apply List.ext_getElem?
  intro i
  by_cases e:t.toNat=i
  ·subst e;rw [List.getElem?_set_self (zes.1 h2).1,h2]
  ·rw [List.getElem?_set_ne e]
 have hd: ∀ b∈S,b ∉ S2:=h.apart k j _ _ (Nat.ne_of_beq_eq_false hkj) hk hj
 have hown:R.own w cs S2 y:=h.all j _ hj
 have:=hr.give (w':=w) (x:=y) (fun i c e=>by simp only [Option.some.injEq,Prod.mk.injEq] at e;exact e.1.symm) (qB hx).2.2 hown hd (fun _ _=>rfl) (by rw [hset];exact hr.row)
 refine ⟨_,h.fuse k j hkj hk hj ⟨_,_,this⟩ this.nd (fun b hb=> ?_)⟩
 rcases List.mem_append.1 hb with hb | hb
 ·exact .inl (by show b∈S;rw [hr.hS];exact zal _ hb)
 ·rcases jx hb with hb | hb
  ·exact .inr hb
  ·exact .inl (by show b∈S;rw [hr.hS];exact zar _ hb)
theorem St.nback0 (h:St w0 S0 w L) (k j:Nat) (hkj:Nat.beq k j=false) {t:Int} {cs:List Value} {S2:List Nat} {x:α} (hk:L[k]? =some (nI T R v S xs (some (t.toNat,cs)))) (hj:L[j]? =some (itI R cs S2 x)) (hx:idx xs t=some x):
  ∃ S',St w0 S0 w ((L.set k (nI T R v S' xs none)).set j nilI):=by
 have:=h.nback k j hkj hk hj hx
 rwa [zpq hx] at this
theorem St.nNil (h:St w0 S0 w L) (T:TypeId) (R:Rp α) (a:Option Addr):St w0 S0 w (L++ [nI T R (.slice a 0 0) [] [] none]):=
 h.push (Chg.refl _ _) ⟨[],[],⟨by simpa [vy] using zdn.nil w T R.sz a,rfl,rfl,by simp [zh6],List.nodup_nil,(fun _ _ e=>by cases e),fun i cs S x _ hc=>by simp at hc⟩⟩ (fun b hb=>by simp [nI] at hb) List.nodup_nil
theorem St.nNew {sz:Nat} (h:St w0 S0 w L) (j:Nat) (R:Rp α) (hs:sz=R.sz) {cs:List Value} {n:Nat} (hj:L[j]? =some (zZ v T (fit sz) sz (List.replicate n cs))) (x:α) (hx: ∀ w,R.own w cs [] x):St w0 S0 w (L.set j (nI T R v (zbd v).toList (List.replicate n x) none)):=by
 subst hs
 have e:(List.replicate n ([]:List Nat)).flatten= []:=by
  clear hj
  induction n with
  | zero=>rfl
  | succ n ih=>simp [List.replicate_succ,ih]
 have hrow:=h.all j _ hj
 refine h.turn j hj ⟨List.replicate n cs,List.replicate n [],⟨by simpa [zZ] using hrow,by simp,by simp,by rw [e,List.append_nil],zb1,(fun _ _ e=>by cases e),fun i c S' z _ hc hS hz=> ?_⟩⟩ rfl
 obtain ⟨_,rfl⟩:=zic hc
 obtain ⟨_,rfl⟩:=zic hS
 obtain ⟨_,rfl⟩:=zic hz
 exact hx w
end
theorem zdn.write {α:Type} {w:World} {T:TypeId} {sz:Nat} {enc:α->List Value} {v:Value} {xs:List α} (hr:zdn w T sz v xs.length (vy enc xs)) (he: ∀ x,(enc x).length=sz) {g o n cap:Nat} (hv:v= .slice (some ⟨g,o,none⟩) n cap) {q:Nat} {z z':α} (hz:xs[q]? =some z) {f k:Nat} {vs:List Value} (hk:k=o+q*sz+f)
  (hf:f+vs.length<=sz) (hz':qk (enc z) vs f=enc z'): ∃ cur,w.heap[g]? =some (.cells cur T (0,0))/\k+vs.length<=cur.size/\zbd v=some g/\zdn (w.setRow g (qk cur.toList vs k).toArray) T sz v xs.length (vy enc (xs.set q z')):=by
 subst hv
 have hql:=(zes.1 hz).1
 rcases hr.2 with ⟨hn,_⟩ | ⟨g',o',cap',cur,hc,hp,hgc,hnc,hm,hcs,htake⟩
 ·omega
 ·simp only [Value.slice.injEq,Option.some.injEq,Addr.mk.injEq,and_true] at hc
  obtain ⟨⟨rfl,rfl⟩,rfl,rfl⟩:=hc
  have hsz:q*sz+sz<=xs.length*sz:=by rw [<- Nat.succ_mul];exact Nat.mul_le_mul_right _ hql
  have hcap:xs.length*sz<=cap*sz:=Nat.mul_le_mul_right _ hnc
  have hfit:k+vs.length<=cur.size:=by rw [hk];omega
  have hlen:(qk cur.toList vs k).length=cur.size:=by simp [qk] at hfit |-;omega
  refine ⟨cur,hgc,hfit,za2 hp,⟨by rw [jZ he,List.length_set],.inr ⟨g,o,cap,_,by simp,hp,setRow_heap w g cur _ T _ hgc,by simpa using hnc,hm,by rw [List.size_toArray,hlen];exact hcs,?_⟩⟩⟩
  have hset:=zjk he (f:=f) (vs:=vs) hz hf hz'
  rw [<- hset,<- htake]
  rw [zdd (by omega) (by omega) (by have:= @Array.length_toList _ cur;omega)]
  congr 1
  omega
section
variable {P:Program} {N:Nat} {Q:Exit->Act->World->Prop} {fr fr':List (Nat×Value)} {w w0:World} {l:List Oper} {i:Nat} {o:Oper} {S0:List Nat} {L:List zz} {α:Type} {R:Rp α}
theorem OW.stN {t:TypeId} {x y:Operand} {ty:TypeId} {pos:String} {af:Array Edge} {gdd:Option (Nat×Bool)} (hst:St w0 S0 w L) (k j:Nat) (hkj:Nat.beq k j=false) {hd:Value} {g o cap n:Nat} {T:TypeId} {S S2:List Nat} {xs:List α} {ho:Option (Nat×List Value)} {cs:List Value} {z u:α} {q:Int}
  (hk:L[k]? =some (nI T R hd S xs ho)) (hho: ∀ i c,ho=some (i,c)->i=q.toNat) (hj:L[j]? =some (itI R cs S2 u)) (hv:hd= .slice (some ⟨g,o,none⟩) n cap)
  (hl:vg l i=some ⟨none,.store t x y,ty,pos,af,gdd⟩) (hg:gd l fr ⟨none,.store t x y,ty,pos,af,gdd⟩=some true)
  (hz:Sx.idx xs q=some z) {v:Value} {a:Nat} (hx:look fr x=some (.pointer (some ⟨g,a,none⟩))) (ha:a=o+q.toNat*R.sz) (hy:look fr y=some v) (hc:v.cells.toList=cs)
  (hs:zbw P (sizeOf t)=some v.cells.toList.length) (h1:zec v.cells.toList=true)
  (h: ∀ S' w',St w0 S0 w' ((L.set k (nI T R hd S' (xs.set q.toNat u) none)).set j nilI)->OW P l N Q (i+1) fr w'):OW P l N Q i fr w:=by
 obtain ⟨css,Ss,hr⟩:=hst.all k _ hk
 have hown:R.own w cs S2 u:=hst.all j _ hj
 have hlen:=R.len _ _ _ _ hown
 obtain ⟨h0,hq,hq2⟩:=qB hz
 have hdis: ∀ b∈S,b ∉ S2:=hst.apart k j _ _ (Nat.ne_of_beq_eq_false hkj) hk hj
 have a1:q.toNat<css.length:=by rw [hr.lc];omega
 have hrow:zdn w T R.sz hd css.length (vy (fit R.sz) css):=by rw [hr.lc];exact hr.row
 obtain ⟨cur,hgc,hfit,hob,hnew⟩:=zdn.write hrow (fun x=>zaj _ x) hv (q:=q.toNat) (z:=css[q.toNat]) (z':=cs) (zeg a1) (f:=0) (k:=a) (vs:=cs) (by omega) (by omega) (zmG hlen)
 subst hc
 refine OW.ops hl hg rfl (w':=w.setRow g (qk cur.toList v.cells.toList a).toArray) (fun b hb=> ?_) (h ((zbd hd).toList++(Ss.set q.toNat S2).flatten) _ ?_)
 ·have e1:=hb.look hx
  have e2:=hb.look hy
  have:=zfy (P:=P) (w:=w) (T:=T) (g:=g) hs h1 hgc hfit
  simp [execOp,e1,e2,this]
 ·have hchg:Chg [g] w (w.setRow g (qk cur.toList v.cells.toList a).toArray):=⟨rfl,rfl,rfl,by simp [World.setRow],fun q _ hn=>setRow_other w g q _ (by rintro rfl;exact hn (by simp))⟩
  have hgS:g∈S:=by rw [hr.hS];exact zal _ (by simp [hob])
  have hn:=hr.nd
  rw [hr.hS] at hn
  have hn3:=(List.nodup_append.1 hn).2.2
  have hlt:=hr.lt
  have hown':R.own (w.setRow g (qk cur.toList v.cells.toList a).toArray) v.cells.toList S2 u:=R.loc _ _ _ _ _ (fun b hb=>hchg.block b (R.lt _ _ _ _ hown b hb) (by simp only [List.mem_singleton];rintro rfl;exact hdis _ hgS hb)) hown
  have hgive:=hr.give (w':=w.setRow g (qk cur.toList v.cells.toList a).toArray) (x:=u) hho hq2 hown' hdis (fun b hb=>hchg.block b (hlt b (by rw [hr.hS];exact zar _ hb)) (by simp only [List.mem_singleton];rintro rfl;exact hn3 b (by simp [hob]) b hb rfl)) (by rw [<- hr.lc];exact hnew)
  have hold:zz:=nilI
  have hsub: ∀ b∈(zbd hd).toList++(Ss.set q.toNat S2).flatten,b∈S\/b∈S2:=fun b hb=>by
   rcases List.mem_append.1 hb with hb | hb
   ·exact .inl (by rw [hr.hS];exact zal _ hb)
   ·rcases jx hb with hb | hb
    ·exact .inr hb
    ·exact .inl (by rw [hr.hS];exact zar _ hb)
  let A:zz:=⟨(zbd hd).toList++(Ss.set q.toNat S2).flatten,fun w1=> ∀ b∈(zbd hd).toList++(Ss.set q.toNat S2).flatten,b<w1.heap.size,fun w1 w2 hb hh b hb2=>by
   have h1:=hh b hb2
   have h2:=hb b hb2
   rw [Array.getElem?_eq_getElem h1] at h2
   exact (Array.getElem?_eq_some_iff.1 h2).1,fun w1 hh=>hh⟩
  have hA:St w0 S0 w ((L.set k A).set j nilI):=hst.fuse k j hkj hk hj (C:=A) (fun b hb=>by
   rcases hsub b hb with hb | hb
   ·exact hlt b hb
   ·exact R.lt _ _ _ _ hown b hb) hgive.nd hsub
  have hlk:k<L.length:=(zes.1 hk).1
  have hkA:((L.set k A).set j nilI)[k]? =some A:=by
   rw [List.getElem?_set_ne (fun e=>Nat.ne_of_beq_eq_false hkj e.symm),List.getElem?_set_self hlk]
  have:=hA.upd k hkA (it':=nI T R hd ((zbd hd).toList++(Ss.set q.toNat S2).flatten) (xs.set q.toNat u) none) (hchg.mono (fun b hb=>by simp only [List.mem_singleton] at hb;subst hb;exact zal _ (by simp [hob]))) ⟨_,_,hgive⟩ (fun b hb=> .inl hb) hgive.nd
  rw [List.set_comm _ _ (fun e=>Nat.ne_of_beq_eq_false hkj e.symm),List.set_set] at this
  exact this
theorem OW.appN {d t e:Nat} {x y:Operand} {ty:TypeId} {pos:String} {af:Array Edge} {gdd:Option (Nat×Bool)} {ats:List Nat} (hst:St w0 S0 w L) (k j:Nat) (hkj:Nat.beq k j=false) {v v2:Value} {S S2:List Nat} {xs ys:List α} {bytes:Nat}
  (hk:L[k]? =some (nI e R v S xs none)) (hj:L[j]? =some (nI e R v2 S2 ys none))
  (hl:vg l i=some ⟨some d,.call ⟨.builtin .append,[x,y].toArray,ats.toArray⟩,ty,pos,af,gdd⟩) (ha:ats= [t,t]) (hg:gd l fr ⟨some d,.call ⟨.builtin .append,[x,y].toArray,ats.toArray⟩,ty,pos,af,gdd⟩=some true)
  (hN:Nat.blt d N=true) (hx:look fr x=some v) (hy:look fr y=some v2) (ht:P.underlying t=some (.slice e)) (hel:zmN P e R.sz bytes) (hb:(xs.length+ys.length)*bytes<=140737488355328) (hone: ∀ w cs S x,R.own w cs S x->zec cs=true)
  (h: ∀ v' S' w',St w0 S0 w' ((L.set k (nI e R v' S' (xs++ys) none)).set j nilI)->OW P l N Q (i+1) ((d,v')::fr) w'):OW P l N Q i fr w:=by
 subst ha
 obtain ⟨css,Ss,hr⟩:=hst.all k _ hk
 obtain ⟨css2,Ss2,hr2⟩:=hst.all j _ hj
 have hdis: ∀ b∈S,b ∉ S2:=hst.apart k j _ _ (Nat.ne_of_beq_eq_false hkj) hk hj
 obtain ⟨inf,z,hi,hz,hsz,hby,hzs⟩:=hel.info
 have exec: ∀ {v':Value} {w':World},(Builtin.append_ #[t,t] ty #[v,v2]).run P w= .ok v' w'-> ∀ a,Rep N fr a->
   (execOp a.eval ⟨some d,.call ⟨.builtin .append,[x,y].toArray,[t,t].toArray⟩,ty,pos,af,gdd⟩).run P w= .ok (.value v') w':=by
  intro v' w' hr a ha
  have e1:=ha.look hx
  have e2:=ha.look hy
  simp [execOp,resolve,invoke,builtin,e1,e2,hr]
 have hlk:k<L.length:=(zes.1 hk).1
 have key: ∀ {v':Value} {w':World},(Builtin.append_ #[t,t] ty #[v,v2]).run P w= .ok v' w'->w.grownBy w' (zbd v)->(zbd v'=zbd v\/zbd v'=some w.heap.size)->zdn w' e R.sz v' (xs.length+ys.length) (vy (fit R.sz) css++vy (fit R.sz) css2)->OW P l N Q i fr w:=by
  intro v' w' hrun hgr hat hown
  have hn:=hr.nd
  rw [hr.hS] at hn
  have hn3:=(List.nodup_append.1 hn).2.2
  have hchg:Chg (zbd v).toList w w':=Chg.grown hgr (fun b hb=>by simp [hb])
  have happ:=hr.app (w':=w') hr2 hdis (fun b hb=>hchg.block b (by
   rcases List.mem_append.1 hb with hb | hb
   ·exact hr.lt b (by rw [hr.hS];exact zar _ hb)
   ·exact hr2.lt b (by rw [hr2.hS];exact zar _ hb)) (fun hv=>by
   rcases List.mem_append.1 hb with hb | hb
   ·exact hn3 b hv b hb rfl
   ·exact hdis b (by rw [hr.hS];exact zal _ hv) (by rw [hr2.hS];exact zar _ hb))) hat hown
  refine OW.op hl hg rfl hN (exec hrun) (h v' ((zbd v').toList++(Ss++Ss2).flatten) w' ?_)
  have hsub: ∀ b∈(zbd v).toList++(Ss++Ss2).flatten,b∈S\/b∈S2:=fun b hb=>by
   rw [List.flatten_append] at hb
   rcases List.mem_append.1 hb with hb | hb
   ·exact .inl (by rw [hr.hS];exact zal _ hb)
   ·rcases List.mem_append.1 hb with hb | hb
    ·exact .inl (by rw [hr.hS];exact zar _ hb)
    ·exact .inr (by rw [hr2.hS];exact zar _ hb)
  have hnd:((zbd v).toList++(Ss++Ss2).flatten).Nodup:=by
   have hn2:=hr2.nd
   rw [hr2.hS] at hn2
   have m:=List.nodup_append.1 hn2
   have n:=List.nodup_append.1 hn
   rw [List.flatten_append]
   refine List.nodup_append.2 ⟨n.1,List.nodup_append.2 ⟨n.2.1,m.2.1,fun a ha b hb e=>by subst e;exact hdis a (by rw [hr.hS];exact zar _ ha) (by rw [hr2.hS];exact zar _ hb)⟩,fun a ha b hb e=> ?_⟩
   subst e
   rcases List.mem_append.1 hb with hb | hb
   ·exact hn3 a ha a hb rfl
   ·exact hdis a (by rw [hr.hS];exact zal _ ha) (by rw [hr2.hS];exact zar _ hb)
  let A:zz:=⟨(zbd v).toList++(Ss++Ss2).flatten,fun w1=> ∀ b∈(zbd v).toList++(Ss++Ss2).flatten,b<w1.heap.size,fun w1 w2 hb hh b hb2=>by
   have h1:=hh b hb2
   have h2:=hb b hb2
   rw [Array.getElem?_eq_getElem h1] at h2
   exact (Array.getElem?_eq_some_iff.1 h2).1,fun w1 hh=>hh⟩
  have hA:St w0 S0 w ((L.set k A).set j nilI):=hst.fuse k j hkj hk hj (C:=A) (fun b hb=>by
   rcases hsub b hb with hb | hb
   ·exact hr.lt b hb
   ·exact hr2.lt b hb) hnd hsub
  have hkA:((L.set k A).set j nilI)[k]? =some A:=by
   rw [List.getElem?_set_ne (fun e=>Nat.ne_of_beq_eq_false hkj e.symm),List.getElem?_set_self hlk]
  have:=hA.upd k hkA (it':=nI e R v' ((zbd v').toList++(Ss++Ss2).flatten) (xs++ys) none) (hchg.mono (fun b hb=>zal _ hb)) ⟨_,_,happ⟩ (fun b hb=>by
   rcases List.mem_append.1 hb with hb | hb
   ·rcases hat with hat | hat
    ·exact .inl (zal _ (by rw [<- hat];exact hb))
    ·rw [hat] at hb;simp at hb;exact .inr (by omega)
   ·exact .inl (zar _ hb)) happ.nd
  rw [List.set_comm _ _ (fun e=>Nat.ne_of_beq_eq_false hkj e.symm),List.set_set] at this
  exact this
 have hlim:=(hst.nlen k hk).1
 have hrow2:Rd w [] v2 (fit R.sz) R.sz css2:=by
  have hrow:=hr2.row
  rw [<- hr2.lc] at hrow
  exact zdM (fun x=>zaj _ x) hrow (by simp)
 obtain ⟨hn2,a2,c2,hv2,_,hc2⟩:=hrow2
 have hlc2:=hr2.lc
 rcases Nat.eq_zero_or_pos ys.length with h0 | h0
 ·have hys:ys= []:=List.eq_nil_of_length_eq_zero h0
  have hcs:css2= []:=List.eq_nil_of_length_eq_zero (by omega)
  refine key (v':=v) (w':=w) ?_ ⟨rfl,rfl,rfl,Nat.le_refl _,fun _ _ _=>rfl⟩ (.inl rfl) ?_
  ·rw [hv2,hcs]
   exact zdN ht hel.size hr.row a2 c2
  ·rw [hcs,hys]
   simpa [vy] using hr.row
 ·obtain ⟨c0,hc0⟩: ∃ c0,css2[0]? =some c0:=⟨css2[0]'(by omega),zeg (by omega)⟩
  obtain ⟨u0,hu0⟩: ∃ u0,(fit R.sz c0)[0]? =some u0:=⟨(fit R.sz c0)[0]'(by rw [zaj];exact hel.pos),zeg (by rw [zaj];exact hel.pos)⟩
  obtain ⟨b,q,rfl,_,_⟩:=hc2 0 c0 0 u0 hc0 hu0
  have hcell: ∀ q' u,(vy (fit R.sz) css2)[q']? =some u->w.cell? ((⟨b,q,none⟩:Addr).add q')=some u:=by
   intro q' u hu
   rw [zcD]
   obtain ⟨t,f,x,hx,hf,hq⟩:=zew (fun x=>zaj R.sz x) hel.pos hu
   obtain ⟨b',k',hb',_,hcell⟩:=hc2 t x f u hx hf
   simp only [Option.some.injEq,Addr.mk.injEq,and_true] at hb'
   obtain ⟨rfl,rfl⟩:=hb'
   rw [hq,<- Nat.add_assoc]
   exact hcell
  have hones: ∀ u∈vy (fit R.sz) css2,u.oneCell'=true:=by
   intro u hu
   obtain ⟨q',hq',rfl⟩:=List.mem_iff_getElem.1 hu
   obtain ⟨t,f,c,hx,hf,_⟩:=zew (fun x=>zaj R.sz x) hel.pos (zeg hq')
   have ht:=(zes.1 hx).1
   have l1:t<Ss2.length:=by rw [hr2.ls];omega
   have l2:t<ys.length:=by omega
   have hown:=hr2.own t c Ss2[t] ys[t] (by simp) hx (zeg l1) (zeg l2)
   rw [zhd (R.len _ _ _ _ hown)] at hf
   exact zdc (hone _ _ _ _ hown) _ (zmg hf)
  obtain ⟨v',w',hrun,hown,hgr,hat⟩:=zla (P:=P) w t ty e inf z R.sz bytes ht hi hz hsz hby hzs v xs.length (vy (fit R.sz) css) hr.row ⟨b,q,none⟩ ys.length c2 h0 (vy (fit R.sz) css2) (by rw [jZ (fun x=>zaj R.sz x),hlc2]) hcell hones
   (by have:=Nat.le_mul_of_pos_right (xs.length+ys.length) hel.bpos;simp only [maxLen];omega) hb
  refine key ?_ hgr hat hown
  rw [hv2,hlc2]
  exact hrun
end
end Go.Sx
namespace Go.Sx
open Go.RowKit
def zcg {α:Type} (a:Nat->α) (t:Nat) (v:α):Nat->α:=fun i=>if i=t then v else a i
def zcG {α:Type} (enc:α->List Value):Nat->(Nat->α)->List Value
 | 0,_=> []
 | n+1,a=>enc (a 0)++zcG enc n (fun i=>a (i+1))
def ain (n:Nat) (t:Int):Option Nat:=if 0<=t/\t<n then some t.toNat else none
theorem ziQ {n:Nat} {t:Int} {i:Nat} (h:ain n t=some i):0<=t/\t<n/\i<n/\t.toNat=i:=by
 unfold ain at h
 split at h
 ·rename_i hc
  cases h
  exact ⟨hc.1,hc.2,by omega,rfl⟩
 ·cases h
theorem zgb {α:Type} (enc:α->List Value): ∀ (n:Nat) (a:Nat->α),zcG enc n a=vy enc ((List.range n).map a):=by
 intro n
 induction n with
 | zero=>intro a;rfl
 | succ n ih=>
  intro a
  rw [List.range_succ_eq_map,List.map_cons,List.map_map]
  show enc (a 0)++zcG enc n (fun i=>a (i+1))=enc (a 0)++vy enc _
  rw [ih]
  rfl
theorem ziR {α:Type} {enc:α->List Value} {sz:Nat} (he: ∀ x,(enc x).length=sz) (n:Nat) (a:Nat->α):(zcG enc n a).length=n*sz:=by
 rw [zgb,jZ he];simp
theorem zrh {α:Type} {enc:α->List Value} {sz:Nat} (he: ∀ x,(enc x).length=sz) {n t f:Nat} (ht:t<n) (A C:List Value) (a:Nat->α) {u:Value} (hu:(enc (a t))[f]? =some u):(A++(zcG enc n a++C))[A.length+(t*sz+f)]? =some u:=by
 have h1:(vy enc ((List.range n).map a))[t*sz+f]? =some u:=zfx he (x:=a t) (by simp [ht]) hu
 rw [List.getElem?_append_right (by omega),show A.length+(t*sz+f)-A.length=t*sz+f by omega,zgb]
 rw [List.getElem?_append_left (zes.1 h1).1]
 exact h1
theorem zor {α:Type} {n t:Nat} (a:Nat->α) (v:α):((List.range n).map a).set t v=(List.range n).map (zcg a t v):=by
 apply List.ext_getElem?
 intro i
 rw [List.getElem?_set]
 by_cases h:t=i
 ·subst h
  by_cases hn:t<n
  ·simp [hn,zcg]
  ·simp [hn]
 ·rw [if_neg h]
  by_cases hn:i<n
  ·simp [hn,zcg,Ne.symm h]
  ·simp [hn]
theorem zir {A B C vs:List Value} {k:Nat} (h:k+vs.length<=B.length):qk (A++(B++C)) vs (A.length+k)=A++(qk B vs k++C):=by
 unfold qk
 rw [List.take_append,List.take_of_length_le (by omega),show A.length+k-A.length=k by omega,List.take_append_of_le_length (by omega)]
 rw [List.drop_append,List.drop_of_length_le (l:=A) (by omega),show A.length+k+vs.length-A.length=k+vs.length by omega,List.drop_append_of_le_length (by omega)]
 simp [List.append_assoc]
theorem zpY {α:Type} {enc:α->List Value} {sz:Nat} (he: ∀ x,(enc x).length=sz) {n t f:Nat} (ht:t<n) (A C:List Value) (a:Nat->α) {vs:List Value} {x':α} (hf:f+vs.length<=sz) (hs:qk (enc (a t)) vs f=enc x'):
  qk (A++(zcG enc n a++C)) vs (A.length+(t*sz+f))=A++(zcG enc n (zcg a t x')++C):=by
 have hl:=ziR he n a
 have hm:t*sz+sz<=n*sz:=by rw [<- Nat.succ_mul];exact Nat.mul_le_mul_right _ ht
 rw [zir (by omega),zgb,zgb,zjk he (x:=a t) (by simp [ht]) hf hs,zor]
theorem zlf {α:Type} {w:World} {b o:Nat} {cs:List Value} (cf: ∀ f u,cs[f]? =some u->w.cell? ⟨b,o+f,none⟩=some u) (enc:α->List Value) {sz:Nat} (he: ∀ x,(enc x).length=sz) (n:Nat) (a:Nat->α) (k0:Nat)
  (hcs:cs=cs.take k0++(zcG enc n a++cs.drop (k0+n*sz))) (hk:Nat.ble k0 cs.length=true) {q:Int} {t:Nat} (hi:ain n q=some t):
  ∀ f u,(enc (a t))[f]? =some u->w.cell? ⟨b,o+k0+q.toNat*sz+f,none⟩=some u:=by
 intro f u hu
 obtain ⟨h0,h1,h2,rfl⟩:=ziQ hi
 have hl:(cs.take k0).length=k0:=by rw [List.length_take];have:=Nat.le_of_ble_eq_true hk;omega
 have:=zrh he h2 (cs.take k0) (cs.drop (k0+n*sz)) a hu
 rw [<- hcs,hl] at this
 have:=cf _ u this
 rw [show o+k0+q.toNat*sz+f=o+(k0+(q.toNat*sz+f)) by omega]
 exact this
section
variable {P:Program} {N:Nat} {Q:Exit->Act->World->Prop} {fr fr':List (Nat×Value)} {w w0:World} {l:List Oper} {i:Nat} {o:Oper} {S0:List Nat} {L:List zz}
theorem St.arrB {α:Type} (h:St w0 S0 w L) (j:Nat) {b:Nat} {T:TypeId} {cs:List Value} (hj:L[j]? =some (jF b T cs)) (enc:α->List Value) {sz:Nat} (he: ∀ x,(enc x).length=sz) (n:Nat) (a:Nat->α) (k0:Nat)
  (hcs:cs=cs.take k0++(zcG enc n a++cs.drop (k0+n*sz))) (hk:Nat.ble k0 cs.length=true) {q:Int} {t:Nat} (hi:ain n q=some t):
  ∀ f u,(enc (a t))[f]? =some u->w.cell? ⟨b,k0+q.toNat*sz+f,none⟩=some u:=by
 intro f u hu
 have:=zlf (w:=w) (b:=b) (o:=0) (cs:=cs) (fun f u hf=>by rw [Nat.zero_add];exact h.blk j hj hf) enc he n a k0 hcs hk hi f u hu
 rwa [Nat.zero_add] at this
theorem zis {α:Type} {cs cs' vs:List Value} (enc:α->List Value) {sz:Nat} (he: ∀ x,(enc x).length=sz) (n:Nat) (a:Nat->α) (k0:Nat)
  (hcs:cs=cs.take k0++(zcG enc n a++cs.drop (k0+n*sz))) (hk:Nat.ble k0 cs.length=true) {q:Int} {t:Nat} (hi:ain n q=some t) {f:Nat} (hf:Nat.ble (f+vs.length) sz=true) {x':α} (hs:qk (enc (a t)) vs f=enc x')
  (hcs':cs'=cs.take k0++(zcG enc n (zcg a t x')++cs.drop (k0+n*sz))):qk cs vs (k0+q.toNat*sz+f)=cs'/\k0+q.toNat*sz+f+vs.length<=cs.length:=by
 obtain ⟨h0,h1,h2,rfl⟩:=ziQ hi
 have hl:(cs.take k0).length=k0:=by rw [List.length_take];have:=Nat.le_of_ble_eq_true hk;omega
 have hf':=Nat.le_of_ble_eq_true hf
 have hm:q.toNat*sz+sz<=n*sz:=by rw [<- Nat.succ_mul];exact Nat.mul_le_mul_right _ h2
 have hll:cs.length=k0+(n*sz+(cs.drop (k0+n*sz)).length):=by
  conv=>lhs;rw [hcs]
  rw [List.length_append,List.length_append,ziR he,hl]
 constructor
 ·rw [hcs']
  have:=zpY he h2 (cs.take k0) (cs.drop (k0+n*sz)) a hf' hs
  rw [<- hcs,hl,show k0+(q.toNat*sz+f)=k0+q.toNat*sz+f by omega] at this
  exact this
 ·omega
theorem OW.stA {α:Type} {t:TypeId} {x y:Operand} {ty:TypeId} {pos:String} {af:Array Edge} {gdd:Option (Nat×Bool)} (hst:St w0 S0 w L) (j:Nat) {b:Nat} {T:TypeId} {cs:List Value} (hj:L[j]? =some (jF b T cs))
  (hl:vg l i=some ⟨none,.store t x y,ty,pos,af,gdd⟩) (hg:gd l fr ⟨none,.store t x y,ty,pos,af,gdd⟩=some true)
  {k:Nat} {v:Value} (hx:look fr x=some (.pointer (some ⟨b,k,none⟩))) (hy:look fr y=some v)
  (hs:zbw P (sizeOf t)=some v.cells.toList.length) (h1:zec v.cells.toList=true)
  (enc:α->List Value) {sz:Nat} (he: ∀ x,(enc x).length=sz) (n:Nat) (a:Nat->α) (k0:Nat) (hcs:cs=cs.take k0++(zcG enc n a++cs.drop (k0+n*sz))) (hb:Nat.ble k0 cs.length=true) {q:Int} {u:Nat} (hi:ain n q=some u)
  (f:Nat) (hk:k=k0+q.toNat*sz+f) (hf:Nat.ble (f+v.cells.toList.length) sz=true) (x':α) (hx':qk (enc (a u)) v.cells.toList f=enc x')
  (cs':List Value) (hcs':cs'=cs.take k0++(zcG enc n (zcg a u x')++cs.drop (k0+n*sz)))
  (h: ∀ w',St w0 S0 w' (L.set j (jF b T cs'))->OW P l N Q (i+1) fr w'):OW P l N Q i fr w:=by
 obtain ⟨e1,e2⟩:=zis enc he n a k0 hcs hb hi hf hx' hcs'
 subst hk
 exact OW.stB hst j hj hl hg hx hy hs h1 (Nat.ble_eq_true_of_le e2) cs' e1 h
theorem OW.stRA {α β:Type} {t:TypeId} {x y:Operand} {ty:TypeId} {pos:String} {af:Array Edge} {gdd:Option (Nat×Bool)} (hst:St w0 S0 w L) (j:Nat) {hd:Value} {g o cap m:Nat} {T:TypeId} {ence:β->List Value} {sze:Nat} {xs:List β}
  (hj:L[j]? =some (zZ hd T ence sze xs)) (hv:hd= .slice (some ⟨g,o,none⟩) m cap) (hee: ∀ x,(ence x).length=sze)
  (hl:vg l i=some ⟨none,.store t x y,ty,pos,af,gdd⟩) (hg:gd l fr ⟨none,.store t x y,ty,pos,af,gdd⟩=some true)
  {p:Int} {z:β} (hz:Sx.idx xs p=some z) {k:Nat} {v:Value} (hx:look fr x=some (.pointer (some ⟨g,k,none⟩))) (hy:look fr y=some v)
  (hs:zbw P (sizeOf t)=some v.cells.toList.length) (h1:zec v.cells.toList=true)
  (enc:α->List Value) {sz:Nat} (he: ∀ x,(enc x).length=sz) (n:Nat) (a:Nat->α) (k0:Nat) (hcs:ence z=(ence z).take k0++(zcG enc n a++(ence z).drop (k0+n*sz))) (hb:Nat.ble k0 (ence z).length=true) {q:Int} {u:Nat} (hi:ain n q=some u)
  (f:Nat) (hk:k=o+p.toNat*sze+k0+q.toNat*sz+f) (hf:Nat.ble (f+v.cells.toList.length) sz=true) (x':α) (hx':qk (enc (a u)) v.cells.toList f=enc x')
  (z':β) (hcs':ence z'=(ence z).take k0++(zcG enc n (zcg a u x')++(ence z).drop (k0+n*sz)))
  (h: ∀ w',St w0 S0 w' (L.set j (zZ hd T ence sze (xs.set p.toNat z')))->OW P l N Q (i+1) fr w'):OW P l N Q i fr w:=by
 obtain ⟨e1,e2⟩:=zis enc he n a k0 hcs hb hi hf hx' hcs'
 rw [hee] at e2
 exact OW.stR hst j hj hv hee hl hg hz (k0+q.toNat*sz+f) hx (by omega) hy hs h1 (Nat.ble_eq_true_of_le e2) z' e1 h
def vp {α:Type} (n:Nat) (a:Nat->α):List α:=(List.range n).map a
theorem zbD {α:Type} (n:Nat) (a:Nat->α):(vp n a).length=n:=by simp [vp]
theorem St.arrRd {α:Type} (h:St w0 S0 w L) (j:Nat) {b:Nat} {T:TypeId} {cs:List Value} (hj:L[j]? =some (jF b T cs)) (enc:α->List Value) {sz:Nat} (he: ∀ x,(enc x).length=sz) (n:Nat) (a:Nat->α) (k0:Nat)
  (hcs:cs=cs.take k0++(zcG enc n a++cs.drop (k0+n*sz))) (hk:Nat.ble k0 cs.length=true) (hn:Nat.ble n 9223372036854775807=true) (ids:List Nat) (hm:mem? j ids=false):
  Rd w (fp (sel L ids)) (.slice (some ⟨b,k0,none⟩) n n) enc sz (vp n a):=by
 refine ⟨by rw [zbD];exact Nat.le_of_ble_eq_true hn,some ⟨b,k0,none⟩,n,by rw [zbD],by rw [zbD];exact Nat.le_refl _,fun t x f u hx hu=> ?_⟩
 refine ⟨b,k0,rfl,fun hb=> ?_,?_⟩
 ·exact h.noin j hj ids hm b (by simp [jF]) hb
 ·unfold vp at hx
  rw [List.getElem?_map] at hx
  obtain ⟨y,hy,rfl⟩:=Option.map_eq_some_iff.1 hx
  obtain ⟨hlt,rfl⟩:t<n/\y=t:=by
   have h1:=zes.1 hy
   obtain ⟨h2,h3⟩:=h1
   simp at h2 h3
   exact ⟨h2,h3.symm⟩
  have:=h.arrB j hj enc he n a k0 hcs hk (q:=(y:Int)) (t:=y) (by simp [ain,hlt]) f u hu
  simpa using this
theorem zpZ {o:Oper} {t e:TypeId} {x:Operand} {b k0 n:Nat} (sz:Nat) (ho:o.op= .slice t x none none none) (hx:look fr x=some (.pointer (some ⟨b,k0,none⟩)))
  (ht:P.underlying t=some (.array n e)) (hs:zbw P (sizeOf e)=some sz): ∀ a w,Rep N fr a->(execOp a.eval o).run P w= .ok (.value (.slice (some ⟨b,k0,none⟩) n n)) w:=by
 intro a w ha
 have e1:=ha.look hx
 simp [execOp,ho,Instr.sliceAt,Instr.sliceBounds,Instr.sureAddr,run_underlying ht,e1,jB hs,Addr.add]
theorem zp0 {α:Type} {o:Oper} {t e:TypeId} {x y z:Operand} {b k0 n:Nat} (sz:Nat) {p q:Int} {kd ke:IntKind} {xs ys:List α} (ho:o.op= .slice t x (some y) (some z) none) (hx:look fr x=some (.pointer (some ⟨b,k0,none⟩)))
  (hy:look fr y=some (.int kd p)) (hz:look fr z=some (.int ke q)) (hn:xs.length=n) (hc:cut xs p q=some ys)
  (ht:P.underlying t=some (.array n e)) (hs:zbw P (sizeOf e)=some sz): ∀ a w,Rep N fr a->(execOp a.eval o).run P w= .ok (.value (.slice (shd (some ⟨b,k0,none⟩) n p.toNat sz) ys.length (n-p.toNat))) w:=by
 intro a w ha
 have e1:=ha.look hx
 have e2:=ha.look hy
 have e4:=ha.look hz
 obtain ⟨h0,h1,h2,_⟩:=zbF hc
 have hl:=zfk hc
 rw [hn] at h2
 have h3:0<=q/\q<=(n:Int):=⟨by omega,h2⟩
 have h5:0<=p/\p<=q:=⟨h0,h1⟩
 have h6:(q.toNat:Int)=q:=by omega
 have e3:q.toNat-p.toNat=ys.length:=by omega
 have e5:(some (if n=p.toNat then (⟨b,k0,none⟩:Addr) else Addr.add ⟨b,k0,none⟩ (p.toNat*sz)))=shd (some ⟨b,k0,none⟩) n p.toNat sz:=by
  unfold shd
  split<;>rfl
 simp [execOp,ho,Instr.sliceAt,Instr.sliceBounds,Instr.sliceBound,Instr.sureAddr,run_underlying ht,e1,e2,e4,asIntOf,h3,h5,h6,jB hs,e3,e5]
theorem zp1 {α:Type} {o:Oper} {t e:TypeId} {x z:Operand} {b k0 n:Nat} (sz:Nat) {q:Int} {ke:IntKind} {xs ys:List α} (ho:o.op= .slice t x none (some z) none) (hx:look fr x=some (.pointer (some ⟨b,k0,none⟩)))
  (hz:look fr z=some (.int ke q)) (hn:xs.length=n) (hc:cut xs 0 q=some ys)
  (ht:P.underlying t=some (.array n e)) (hs:zbw P (sizeOf e)=some sz): ∀ a w,Rep N fr a->(execOp a.eval o).run P w= .ok (.value (.slice (some ⟨b,k0,none⟩) ys.length n)) w:=by
 intro a w ha
 have e1:=ha.look hx
 have e4:=ha.look hz
 obtain ⟨h0,h1,h2,_⟩:=zbF hc
 have hl:=zfk hc
 rw [hn] at h2
 have h3:0<=q/\q<=(n:Int):=⟨by omega,h2⟩
 have e3:q.toNat=ys.length:=by simpa using hl.symm
 simp [execOp,ho,Instr.sliceAt,Instr.sliceBounds,Instr.sliceBound,Instr.sureAddr,run_underlying ht,e1,e4,asIntOf,h3,jB hs,e3,Addr.add]
def zlW (x y c:Int):Option (Int×Int):=if 0<=x/\0<=y/\0<=c/\c<=1 then some ((x+y+c) % 18446744073709551616,(x+y+c) / 18446744073709551616) else none
theorem zmP {o:Oper} {x y z:Operand} {ats:List Nat} {f:FuncId} {fn:Func} {p q c u v:Int} (ho:o.op= .call ⟨.value (.func f),[x,y,z].toArray,ats.toArray⟩) (hx:look fr x=some (.int .u64 p)) (hy:look fr y=some (.int .u64 q)) (hz:look fr z=some (.int .u64 c))
  (hf:P.funcs[f]? =some fn) (h1:(fn.name== "runtime.NumGoroutine")=false) (h2:fn.body.isNone=true) (h3:Extern.findNext fn=none) (h4:Extern.find fn=some add64Entry) (h:zlW p q c=some (u,v)):
  ∀ a w,Rep N fr a->(execOp a.eval o).run P w= .ok (.value (.tuple [.int .u64 u,.int .u64 v].toArray)) w:=by
 intro a w ha
 have e1:=ha.look hx
 have e2:=ha.look hy
 have e3:=ha.look hz
 unfold zlW at h
 split at h
 ·rename_i hc
  cases h
  have:=run_add64 (P:=P) p q c hc.1 hc.2.1 hc.2.2.1 hc.2.2.2 w
  have h5:=run_callFunc_extern (P:=P) hf h1 h2 h3 h4 #[.int .u64 p,.int .u64 q,.int .u64 c] w
  rw [this] at h5
  have e4:a.eval (.func f)= .func (.func f) #[] #[]:=rfl
  simp [execOp,ho,resolve,Deferred.ofValue,invoke,e1,e2,e3,e4,h5,Result.andThen]
 ·cases h
def zmK (it:Nat) (s:ByteArray) (p:Nat):zz where
 S:= [it]
 Φ w:=w.heap[it]? =some (.stringIter s p)
 loc w w' hb h:=by rw [hb it (by simp)];exact h
 lt w h b hb:=by
  rw [List.mem_singleton.1 hb]
  exact (Array.getElem?_eq_some_iff.1 h).1
def zjr (s:ByteArray) (p:Nat):Int:=((Utf8.decode s p).1:Int)
def zfQ (s:ByteArray) (p:Nat):Nat:=p+(Utf8.decode s p).2
theorem OW.srange {d:Nat} {t:TypeId} {x:Operand} {ty:TypeId} {pos:String} {af:Array Edge} {gdd:Option (Nat×Bool)} {s:ByteArray} (hst:St w0 S0 w L)
  (hl:vg l i=some ⟨some d,.range t x,ty,pos,af,gdd⟩) (hg:gd l fr ⟨some d,.range t x,ty,pos,af,gdd⟩=some true) (hN:Nat.blt d N=true) (hx:look fr x=some (.string s)) (ht:P.underlying t=some .string)
  (h: ∀ it w',St w0 S0 w' (L++ [zmK it s 0])->OW P l N Q (i+1) ((d,.pointer (some ⟨it,0,none⟩))::fr) w'):OW P l N Q i fr w:=by
 refine OW.op hl hg rfl hN (w':=w.iter s 0) (fun a ha=> ?_) (h w.heap.size _ ?_)
 ·have:=run_range_string (P:=P) w t s ht
  simp [execOp,ha.look hx,this]
 ·refine hst.push (Chg.alloc _ _) (World.iter_heap w s 0) (fun b hb=> ?_) (by simp [zmK])
  rw [List.mem_singleton.1 hb]
  exact Nat.le_refl _
theorem OW.snext {d:Nat} {x:Operand} {ty:TypeId} {pos:String} {af:Array Edge} {gdd:Option (Nat×Bool)} {s:ByteArray} {it p:Nat} (hst:St w0 S0 w L) (j:Nat) (hj:L[j]? =some (zmK it s p))
  (hl:vg l i=some ⟨some d,.next x true,ty,pos,af,gdd⟩) (hg:gd l fr ⟨some d,.next x true,ty,pos,af,gdd⟩=some true) (hN:Nat.blt d N=true) (hx:look fr x=some (.pointer (some ⟨it,0,none⟩)))
  (h1:decide (p<s.size)=true-> ∀ w',St w0 S0 w' (L.set j (zmK it s (zfQ s p)))->OW P l N Q (i+1) ((d,.tuple [.bool true,.int .i64 (p:Int),.int .i32 (zjr s p)].toArray)::fr) w')
  (h0:decide (p<s.size)=false->OW P l N Q (i+1) ((d,.tuple [.bool false].toArray)::fr) w):OW P l N Q i fr w:=by
 have hi:w.heap[it]? =some (.stringIter s p):=hst.all j _ hj
 by_cases hp:p<s.size
 ·refine OW.op hl hg rfl hN (w':= {w with heap:=w.heap.setIfInBounds it (.stringIter s (zfQ s p))}) (fun a ha=> ?_) (h1 (by simp [hp]) _ ?_)
  ·simp [execOp,ha.look hx,Instr.next,getObj,setObj,Sem.run,hi,hp,Result.andThen,goInt,zjr,zfQ]
  ·refine hst.upd j hj ⟨rfl,rfl,rfl,by simp,fun q _ hn=> ?_⟩ ?_ (fun q hq=> .inl hq) (by simp [zmK])
   ·simp only [Array.getElem?_setIfInBounds]
    rw [if_neg (fun e=>hn (by simp [zmK,e]))]
   ·show (w.heap.setIfInBounds it _)[it]? =_
    simp [(Array.getElem?_eq_some_iff.1 hi).1]
 ·refine OW.op hl hg rfl hN (w':=w) (fun a ha=> ?_) (h0 (by simp [hp]))
  simp [execOp,ha.look hx,Instr.next,getObj,Sem.run,hi,hp,Result.andThen]
end
structure Bor (wb:World) (Sb:List Nat) (w:World) (S:List Nat):Prop where
 size:wb.heap.size<=w.heap.size
 same: ∀ b,b<wb.heap.size->b ∉ Sb->w.heap[b]? =wb.heap[b]?
 sub: ∀ b∈S,b∈Sb\/wb.heap.size<=b
theorem Bor.refl (w:World) (S:List Nat):Bor w S w S:=⟨Nat.le_refl _,fun _ _ _=>rfl,fun _ h=> .inl h⟩
theorem Bor.on {wb w w0:World} {Sb S0:List Nat} {L:List zz} (h:Bor wb Sb w0 S0) (hst:St w0 S0 w L) (ids:List Nat):Bor wb Sb w (fp (sel L ids)):=by
 have hc:=hst.chg
 refine ⟨Nat.le_trans h.size hc.size,fun b hb hn=> ?_,fun b hb=> ?_⟩
 ·rw [hc.block b (Nat.lt_of_lt_of_le hb h.size) (fun hS=> ?_),h.same b hb hn]
  rcases h.sub b hS with h1 | h1
  ·exact hn h1
  ·omega
 ·obtain ⟨j,it,hj,hbs⟩:=zai.1 hb
  obtain ⟨k,_,hk⟩:=zcW hj
  rcases vx hk with hk | rfl
  ·rcases hst.own k it hk b hbs with h1 | h1
   ·exact h.sub b h1
   ·exact .inr (Nat.le_trans h.size h1)
  ·cases hbs
theorem Rd.bor {α:Type} {wb w:World} {Sb S:List Nat} {v:Value} {enc:α->List Value} {sz:Nat} {xs:List α} (h:Rd wb Sb v enc sz xs) (hb:Bor wb Sb w S):Rd w S v enc sz xs:=h.far hb.same hb.sub
def zri {α:Type} (wb:World) (Sb:List Nat) (enc:α->List Value) (sz:Nat):Rp (List α) where
 sz:=1
 own _ cs S xs:= ∃ v,cs= [v]/\S= []/\Rd wb Sb v enc sz xs
 rd _ _ xs cs:= ∃ v,cs= [v]/\Rd wb Sb v enc sz xs
 len:=by rintro w cs S x ⟨v,rfl,_⟩;rfl
 loc:=by rintro w w' cs S x _ h;exact h
 lt:=by rintro w cs S x ⟨v,rfl,rfl,_⟩;simp
 nd:=by rintro w cs S x ⟨v,rfl,rfl,_⟩;exact List.nodup_nil
 see:=by rintro w cs S x F ⟨v,rfl,rfl,h⟩ _;exact ⟨v,rfl,h⟩
 rlen:=by rintro w F x cs ⟨v,rfl,_⟩;rfl
 rloc:=by rintro w w' F F' x cs _ _ h;exact h
end Go.Sx
namespace Go.Sx
open Go.RowKit Go.Sort Go.Proofs
theorem zjA {k:IntKind} (xs:List Int):vy (zn k) xs=xs.map (Value.int k):=by
 induction xs with
 | nil=>rfl
 | cons x r ih=>simp only [vy,zn,List.map_cons,ih];rfl
theorem zp8 {α β:Type} {w w':World} {v v':Value} {T:TypeId} {enc:α->List Value} {enc':β->List Value} {sz sz':Nat} {xs:List α} {ys:List β} (h:St w (fp [zZ v T enc sz xs]) w [zZ v T enc sz xs]) (hc:w.grownBy w' (zbd v))
  (hr:zdn w' T sz' v' ys.length (vy enc' ys)) (hS: ∀ b,zbd v'=some b->zbd v=some b):St w (fp [zZ v T enc sz xs]) w' [zZ v' T enc' sz' ys]:=
 h.upd (it:=zZ v T enc sz xs) (it':=zZ v' T enc' sz' ys) 0 rfl (Chg.grown hc (fun b hb=>by simp [zZ,hb])) hr (fun b hb=> .inl (by simpa [zZ] using hS b (by simpa [zZ] using hb))) zb2
theorem zrk {w:World} {g o:Nat} {cur:Array Value} {e:TypeId} {ss:List Int} (hb:w.heap[g]? =some (.cells cur e (0,0))) (ht:(cur.toList.drop o).take ss.length=ss.map (Value.int .i64)):Holds (Value.int .i64) w g o ss.toArray:=by
 intro j hj
 have hj':j<ss.length:=by simpa using hj
 refine ⟨?_,by simp [World.frozen?,hb]⟩
 have h1:((cur.toList.drop o).take ss.length)[j]? =(ss.map (Value.int .i64))[j]? :=by rw [ht]
 rw [List.getElem?_take_of_lt hj',List.getElem?_drop] at h1
 simp only [World.cell?,hb]
 simp only [Option.isSome_none,zfe,if_false]
 rw [<- Array.getElem?_toList,h1]
 simp [hj']
theorem zsh {w:World} {g o n:Nat} {os:Array Obj} {cur:Array Value} {e:TypeId} {fr:Nat×Nat} (d:Array Int) (hb:w.heap[g]? =some (.cells cur e fr)):
  (grow (putRow (Value.int .i64) (Sort.ahead w n) g o d) os).heap[g]? =some (.cells (putCells (Value.int .i64) o d cur) e fr):=by
 have hg:g<w.heap.size:=(Array.getElem?_eq_some_iff.1 hb).1
 rw [heap_grow_old _ _ (by simpa using hg)]
 simp [putRow,mapBlock,Sort.ahead,Array.getElem?_modify,hb,onCells]
theorem zrl {w:World} {g o n:Nat} {os:Array Obj} (d:Array Int):w.grownBy (grow (putRow (Value.int .i64) (Sort.ahead w n) g o d) os) (some g):=by
 refine ⟨rfl,rfl,rfl,by simp,fun k hk hne=> ?_⟩
 rw [heap_grow_old _ _ (by simpa using hk)]
 have:g ≠ k:=fun e=>hne (by rw [e])
 simp [putRow,mapBlock,Sort.ahead,Array.getElem?_modify,this]
theorem zp9 (cur:Array Value) (o:Nat) (ts:List Int) (h:o+ts.length<=cur.size):((putCells (Value.int .i64) o ts.toArray cur).toList.drop o).take ts.length=ts.map (Value.int .i64):=by
 apply List.ext_getElem?
 intro j
 by_cases hj:j<ts.length
 ·rw [List.getElem?_take_of_lt hj,List.getElem?_drop,Array.getElem?_toList]
  simp [putCells,hj,show o+j<cur.size by omega]
 ·rw [List.getElem?_take_eq_none (by omega),List.getElem?_eq_none (by simp;omega)]
theorem zsi {w:World} {g o cap n q:Nat} {e:TypeId} {os:Array Obj} {cur:Array Value} {ts:List Int} (hp:0<cap) (hb:w.heap[g]? =some (.cells cur e (0,0))) (h1:ts.length<=cap) (h2:cap<=maxLen) (h3:o+cap*1<=cur.size) (hq:q<=ts.length):
  zdn (grow (putRow (Value.int .i64) (Sort.ahead w n) g o ts.toArray) os) e 1 (.slice (some ⟨g,o,none⟩) q cap) q ((ts.take q).map (Value.int .i64)):=by
 refine ⟨by simp;omega,.inr ⟨g,o,cap,_,rfl,hp,zsh _ hb,by omega,h2,by simpa [putCells] using h3,?_⟩⟩
 have:=zp9 cur o ts (by omega)
 have h4:=congrArg (List.take q) this
 rw [List.take_take,Nat.min_eq_left hq] at h4
 rw [Nat.mul_one,h4,List.map_take]
def qA (p0:List Int):Option (List Int):=if p0.length<=140737488355328 then some (p0.mergeSort fun x y=>decide (x<=y)) else none
theorem zkC {P:Program} {f:FuncId} {T:TypeId} {w:World} {v:Value} {xs r:List Int}
  (hs: ∀ (blk off cap:Nat) (zs:List Int) (w:World),Holds (Value.int .i64) w blk off zs.toArray->blk<w.heap.size->zs.length<4611686018427387904->
   Calls P f #[.slice (some ⟨blk,off,none⟩) zs.length cap] w fun e w'=>e= .returned (.tuple #[])/\ ∃ n os,w'=grow (putRow (Value.int .i64) (Sort.ahead w n) blk off (zs.mergeSort fun x y=>decide (x<=y)).toArray) os)
  (hn: ∀ (p:Option Addr) (cap:Nat) (w:World),Calls P f #[.slice p 0 cap] w fun e w'=>e= .returned (.tuple #[])/\w'=w)
  (hF:qA xs=some r) (hst:St w (fp [zZ v T (zn .i64) 1 xs]) w [zZ v T (zn .i64) 1 xs]):
  Calls P f [v].toArray w (fun e w'=>e= .returned (.tuple #[])/\St w (fp [zZ v T (zn .i64) 1 xs]) w' [zZ v T (zn .i64) 1 r]):=by
 unfold qA at hF
 split at hF
 ·rename_i hb
  cases hF
  have hown:zdn w T 1 v xs.length (vy (zn .i64) xs):=hst.all 0 _ rfl
  rcases hown.2 with ⟨h0,a,rfl⟩ | ⟨g,o,cap,cur,rfl,hp,hg,hnc,hm,hcs,htake⟩
  ·have e:xs= []:=List.eq_nil_of_length_eq_zero h0
   subst e
   refine (hn a 0 w).mono ?_
   rintro e w' ⟨rfl,rfl⟩
   exact ⟨rfl,by simpa using hst⟩
  ·rw [Nat.mul_one,zjA] at htake
   refine (hs g o cap xs w (zrk hg htake) (Array.getElem?_eq_some_iff.1 hg).1 (by omega)).mono ?_
   rintro e w' ⟨rfl,n,os,rfl⟩
   refine ⟨rfl,zp8 hst (by rw [za2 hp];exact zrl _) ?_ (fun _ h=>h)⟩
   have hl:(xs.mergeSort fun x y=>decide (x<=y)).length=xs.length:=List.length_mergeSort _
   have:=zsi (n:=n) (q:=xs.length) (os:=os) (ts:=xs.mergeSort fun x y=>decide (x<=y)) hp hg (by omega) hm hcs (by omega)
   rw [List.take_of_length_le (by omega)] at this
   rw [zjA,hl]
   exact this
 ·cases hF
end Go.Sx
namespace Go.Sx
open Go.RowKit
section
variable {w0 w:World} {S0:List Nat} {L:List zz}
theorem St.burst2 {A A':zz} {B:List zz} (h:St w0 S0 w L) (j:Nat) (hj:L[j]? =some A) (hB:zam w A.S (A'::B)):St w0 S0 w (L.set j A'++B):=by
 have hlt:j<L.length:=(zes.1 hj).1
 have h1:=h.burst j hj hB
 have e:(L.set j nilI++A'::B)=(L.set j nilI++ [A'])++B:=by simp
 rw [e] at h1
 have g: ∀ (m:Nat) (it:zz),(L.set j A'++B)[m]? =some it-> ∃ m',((L.set j nilI++ [A'])++B)[m']? =some it/\(m=j/\m'=L.length\/m ≠ j/\m<L.length/\m'=m\/L.length<=m/\m'=m+1):=by
  intro m it hm
  rcases xa hm with ⟨l1,h2⟩ | ⟨l1,h2⟩
  ·rw [List.length_set] at l1
   rcases zaU h2 with ⟨rfl,rfl⟩ | ⟨hne,h2⟩
   ·exact ⟨L.length,by rw [List.append_assoc,List.getElem?_append_right (by simp)];simp,.inl ⟨rfl,rfl⟩⟩
   ·exact ⟨m,by rw [List.append_assoc,List.getElem?_append_left (by simpa using l1),List.getElem?_set_ne (fun e=>hne e.symm)];exact h2,.inr (.inl ⟨hne,l1,rfl⟩)⟩
  ·rw [List.length_set] at l1 h2
   refine ⟨m+1,?_,.inr (.inr ⟨l1,rfl⟩)⟩
   rw [List.getElem?_append_right (by simp;omega)]
   simp only [List.length_append,List.length_set,List.length_singleton]
   rw [show m+1-(L.length+1)=m-L.length by omega]
   exact h2
 refine h1.repart (fun m it hm=> ?_) (fun m n a b hmn hm hn=> ?_)
 ·obtain ⟨m',h2,_⟩:=g m it hm
  exact ⟨h1.all m' it h2,h1.nd m' it h2,fun x hx=>zai.2 ⟨m',it,h2,hx⟩⟩
 ·obtain ⟨m',h2,p2⟩:=g m a hm
  obtain ⟨n',h3,p3⟩:=g n b hn
  exact h1.apart m' n' a b (by omega) h2 h3
theorem fp3 {L:List zz} {q:Nat} {it:zz} {ids:List Nat} {b:Nat} (i:Nat) (hi:ids[i]? =some q) (hq:L[q]? =some it) (hb:b∈it.S):b∈fp (sel L ids):=by
 refine zai.2 ⟨i,it,?_,hb⟩
 induction ids generalizing i with
 | nil=>simp at hi
 | cons a r ih=>
  cases i with
  | zero=>
   simp at hi
   subst hi
   simp [sel,List.getD_eq_getElem?_getD,hq]
  | succ i=>simpa [sel] using ih i (by simpa using hi)
theorem St.openP0 {α:Type} {T:TypeId} {enc:α->List Value} {sz:Nat} {he: ∀ x,(enc x).length=sz} {v:Value} {S:List Nat} {x:α} (h:St w0 S0 w L) (j:Nat) (hj:L[j]? =some (itI (za3 T (zob enc sz he)) [v] S x)):
  ∃ b,v= .pointer (some ⟨b,0,none⟩)/\St w0 S0 w (L.set j (jF b T (enc x))):=by
 obtain ⟨b,cs',S',hv,rfl,hb,hh,rfl,rfl⟩:=h.all j _ hj
 cases hv
 exact ⟨b,rfl,h.turn j hj hh rfl⟩
theorem St.openQ0 {α:Type} {T:TypeId} {enc:α->List Value} {sz:Nat} {he: ∀ x,(enc x).length=sz} {b:Nat} {S:List Nat} {x:α} (h:St w0 S0 w L) (j:Nat) (hj:L[j]? =some (itI (za3 T (zob enc sz he)) [.pointer (some ⟨b,0,none⟩)] S x)):
  St w0 S0 w (L.set j (jF b T (enc x))):=by
 obtain ⟨b2,hv,hst⟩:=h.openP0 j hj
 cases hv
 exact hst
theorem St.toRow1 {α:Type} {v:Value} {S:List Nat} {T:TypeId} {enc:α->List Value} {sz:Nat} {ys:List α} {he: ∀ x,(enc x).length=sz} {hp:0<sz} (h:St w0 S0 w L) (j:Nat) (hj:L[j]? =some (itI (zhc T enc sz he hp) [v] S ys)):St w0 S0 w (L.set j (zZ v T enc sz ys)):=by
 obtain ⟨u,hu,hst⟩:=h.toRow j hj
 cases hu
 exact hst
theorem St.shutP0 {α:Type} {T:TypeId} {enc:α->List Value} {sz:Nat} {he: ∀ x,(enc x).length=sz} {cs:List Value} {b:Nat} (h:St w0 S0 w L) (j:Nat) (hj:L[j]? =some (jF b T cs)) (x:α) (hx:cs=enc x):
  St w0 S0 w (L.set j (itI (za3 T (zob enc sz he)) [.pointer (some ⟨b,0,none⟩)] [b] x)):=by
 subst hx
 exact h.turn j hj ⟨b,enc x,[],rfl,rfl,by simp,h.all j _ hj,rfl,rfl⟩ rfl
theorem sng {v:List Value} (h:v.length=1): ∃ u,v= [u]:=by
 cases v with
 | nil=>cases h
 | cons u r=>cases r with
  | nil=>exact ⟨u,rfl⟩
  | cons _ _=>simp at h
theorem zc6 (h:St w0 S0 w L) {ids:List Nat} (hd:zB ids=true) (i j:Nat) {p q:Nat} {A B:zz} (hij:i ≠ j) (hi:ids[i]? =some p) (hj:ids[j]? =some q) (hp:L[p]? =some A) (hq:L[q]? =some B): ∀ b∈A.S,b ∉ B.S:=
 h.apart p q A B (zbc hd hij hi hj) hp hq
theorem zgC {a b:List Nat} (h:zB (a++b)=true):zB a=true:=by
 induction a with
 | nil=>rfl
 | cons x r ih=>
  simp only [List.cons_append,zB] at h |-
  split at h
  ·cases h
  ·rename_i hm
   have:mem? x r=false:=by
    cases hx:mem? x r with
    | false=>rfl
    | true=>rw [mem?_iff.2 (zal _ (mem?_iff.1 hx))] at hm;cases hm
   rw [this]
   exact ih h
end
section
variable {w0 w:World} {S0:List Nat} {L:List zz} {α:Type} {β1:Type} {T:TypeId} {f:α->List Value->List Value} {sz:Nat} {hl: ∀ x vs,(f x vs).length=sz} {g:α->β1} {A1:Rp β1}
theorem St.openP1 {v:Value} {S:List Nat} {x:α} (h:St w0 S0 w L) (j:Nat) (hj:L[j]? =some (itI (za3 T (qU f sz hl g A1)) [v] S x)) (z1:A1.sz=1):
  ∃ b v1 S1,v= .pointer (some ⟨b,0,none⟩)/\St w0 S0 w (L.set j (jF b T (f x [v1]))++ [itI A1 [v1] S1 (g x)]):=by
 obtain ⟨b,cs',S',hv,rfl,hb,hh,vs,rfl,hown1⟩:=h.all j _ hj
 cases hv
 obtain ⟨v1,rfl⟩:=sng ((A1.len _ _ _ _ hown1).trans z1)
 refine ⟨b,v1,S',rfl,h.burst2 j hj ?_⟩
 exact zam.cons hh (by simp [jF]) (fun c hc=>by simp only [jF,List.mem_singleton] at hc;subst hc;exact zcs) (fun c hc=>by simp only [jF,List.mem_singleton] at hc;subst hc;exact hb) (zam.cons hown1 (A1.nd _ _ _ _ hown1) (fun b hb=>hb) (S2:= []) (by simp) zam.nil (by simp)) (fun c hc=>zcm _ hc)
theorem St.openQ1 {b:Nat} {S:List Nat} {x:α} (h:St w0 S0 w L) (j:Nat) (hj:L[j]? =some (itI (za3 T (qU f sz hl g A1)) [.pointer (some ⟨b,0,none⟩)] S x)) (z1:A1.sz=1):
  ∃ v1 S1,St w0 S0 w (L.set j (jF b T (f x [v1]))++ [itI A1 [v1] S1 (g x)]):=by
 obtain ⟨b2,v1,S1,hv,hst⟩:=h.openP1 j hj z1
 cases hv
 exact ⟨v1,S1,hst⟩
theorem St.shutP1 {cs:List Value} {b:Nat} {v1:Value} {S1:List Nat} {y1:β1} (h:St w0 S0 w L) (R:Rp α) (hR:R=qU f sz hl g A1) (j k1:Nat) (rest:List Nat) (hd:zB ([j,k1]++rest)=true) (hj:L[j]? =some (jF b T cs)) (h1:L[k1]? =some (itI A1 [v1] S1 y1)) (x:α) (hx:cs=f x [v1]) (hg:g x=y1):
  ∃ S,St w0 S0 w (sel L rest++ [itI (za3 T R) [.pointer (some ⟨b,0,none⟩)] S x]):=by
 subst hR
 subst hx
 have hd1:=zgC hd
 have o1:A1.own w [v1] S1 y1:=h.all k1 _ h1
 have hown:(qU f sz hl g A1).own w (f x [v1]) (S1) x:=by
  refine ⟨[v1],rfl,?_⟩
  rw [hg]
  exact o1
 have hbn:b ∉ (S1):=by
  intro hb
  rcases hb with hb
  ·exact zc6 h hd1 0 1 (by decide) rfl rfl hj h1 b (by simp [jF]) hb
 have hh:w.heap[b]? =some (.cells (f x [v1]).toArray T (0,0)):=h.all j _ hj
 have hp:(za3 T (qU f sz hl g A1)).own w [.pointer (some ⟨b,0,none⟩)] (b::(S1)) x:=⟨b,_,_,rfl,rfl,hbn,hh,hown⟩
 refine ⟨_,h.gather [j,k1] rest hd (C:=itI (za3 T (qU f sz hl g A1)) _ _ x) hp ((za3 T (qU f sz hl g A1)).nd _ _ _ _ hp) (fun c hc=> ?_)⟩
 rcases List.mem_cons.1 hc with rfl | hc
 ·exact fp3 0 rfl hj (by simp [jF])
 ·exact fp3 1 rfl h1 hc
end
section
variable {w0 w:World} {S0:List Nat} {L:List zz} {α:Type} {β1:Type} {β2:Type} {T:TypeId} {f:α->List Value->List Value} {sz:Nat} {hl: ∀ x vs,(f x vs).length=sz} {g:α->β1×β2} {A1:Rp β1} {A2:Rp β2}
end
section
variable {w0 w:World} {S0:List Nat} {L:List zz} {α:Type} {β1:Type} {β2:Type} {β3:Type} {T:TypeId} {f:α->List Value->List Value} {sz:Nat} {hl: ∀ x vs,(f x vs).length=sz} {g:α->β1×(β2×β3)} {A1:Rp β1} {A2:Rp β2} {A3:Rp β3}
end
section
variable {w0 w:World} {S0:List Nat} {L:List zz} {α:Type} {β1:Type} {β2:Type} {β3:Type} {β4:Type} {T:TypeId} {f:α->List Value->List Value} {sz:Nat} {hl: ∀ x vs,(f x vs).length=sz} {g:α->β1×(β2×(β3×β4))} {A1:Rp β1} {A2:Rp β2} {A3:Rp β3} {A4:Rp β4}
end
section
variable {w0 w:World} {S0:List Nat} {L:List zz} {α:Type} {β1:Type} {β2:Type} {β3:Type} {β4:Type} {β5:Type} {T:TypeId} {f:α->List Value->List Value} {sz:Nat} {hl: ∀ x vs,(f x vs).length=sz} {g:α->β1×(β2×(β3×(β4×β5)))} {A1:Rp β1} {A2:Rp β2} {A3:Rp β3} {A4:Rp β4} {A5:Rp β5}
theorem St.openP5 {v:Value} {S:List Nat} {x:α} (h:St w0 S0 w L) (j:Nat) (hj:L[j]? =some (itI (za3 T (qU f sz hl g (vM A1 (vM A2 (vM A3 (vM A4 A5)))))) [v] S x)) (z1:A1.sz=1) (z2:A2.sz=1) (z3:A3.sz=1) (z4:A4.sz=1) (z5:A5.sz=1):
  ∃ b v1 S1 v2 S2 v3 S3 v4 S4 v5 S5,v= .pointer (some ⟨b,0,none⟩)/\St w0 S0 w (L.set j (jF b T (f x [v1,v2,v3,v4,v5]))++ [itI A1 [v1] S1 (g x).1,itI A2 [v2] S2 (g x).2.1,itI A3 [v3] S3 (g x).2.2.1,itI A4 [v4] S4 (g x).2.2.2.1,itI A5 [v5] S5 (g x).2.2.2.2]):=by
 obtain ⟨b,cs',S',hv,rfl,hb,hh,vs,rfl,c1,d1,S1,R1,rfl,rfl,hd1,hown1,⟨c2,d2,S2,R2,rfl,rfl,hd2,hown2,⟨c3,d3,S3,R3,rfl,rfl,hd3,hown3,⟨c4,d4,S4,R4,rfl,rfl,hd4,hown4,hown5⟩⟩⟩⟩:=h.all j _ hj
 cases hv
 obtain ⟨v1,rfl⟩:=sng ((A1.len _ _ _ _ hown1).trans z1)
 obtain ⟨v2,rfl⟩:=sng ((A2.len _ _ _ _ hown2).trans z2)
 obtain ⟨v3,rfl⟩:=sng ((A3.len _ _ _ _ hown3).trans z3)
 obtain ⟨v4,rfl⟩:=sng ((A4.len _ _ _ _ hown4).trans z4)
 obtain ⟨v5,rfl⟩:=sng ((A5.len _ _ _ _ hown5).trans z5)
 refine ⟨b,v1,S1,v2,S2,v3,S3,v4,S4,v5,R4,rfl,h.burst2 j hj ?_⟩
 exact zam.cons hh (by simp [jF]) (fun c hc=>by simp only [jF,List.mem_singleton] at hc;subst hc;exact zcs) (fun c hc=>by simp only [jF,List.mem_singleton] at hc;subst hc;exact hb) (zam.cons hown1 (A1.nd _ _ _ _ hown1) (fun b hb=>zal _ hb) hd1 (zam.cons hown2 (A2.nd _ _ _ _ hown2) (fun b hb=>zal _ hb) hd2 (zam.cons hown3 (A3.nd _ _ _ _ hown3) (fun b hb=>zal _ hb) hd3 (zam.cons hown4 (A4.nd _ _ _ _ hown4) (fun b hb=>zal _ hb) hd4 (zam.cons hown5 (A5.nd _ _ _ _ hown5) (fun b hb=>hb) (S2:= []) (by simp) zam.nil (by simp)) (fun b hb=>zar _ hb)) (fun b hb=>zar _ hb)) (fun b hb=>zar _ hb)) (fun b hb=>zar _ hb)) (fun c hc=>zcm _ hc)
theorem St.openQ5 {b:Nat} {S:List Nat} {x:α} (h:St w0 S0 w L) (j:Nat) (hj:L[j]? =some (itI (za3 T (qU f sz hl g (vM A1 (vM A2 (vM A3 (vM A4 A5)))))) [.pointer (some ⟨b,0,none⟩)] S x)) (z1:A1.sz=1) (z2:A2.sz=1) (z3:A3.sz=1) (z4:A4.sz=1) (z5:A5.sz=1):
  ∃ v1 S1 v2 S2 v3 S3 v4 S4 v5 S5,St w0 S0 w (L.set j (jF b T (f x [v1,v2,v3,v4,v5]))++ [itI A1 [v1] S1 (g x).1,itI A2 [v2] S2 (g x).2.1,itI A3 [v3] S3 (g x).2.2.1,itI A4 [v4] S4 (g x).2.2.2.1,itI A5 [v5] S5 (g x).2.2.2.2]):=by
 obtain ⟨b2,v1,S1,v2,S2,v3,S3,v4,S4,v5,S5,hv,hst⟩:=h.openP5 j hj z1 z2 z3 z4 z5
 cases hv
 exact ⟨v1,S1,v2,S2,v3,S3,v4,S4,v5,S5,hst⟩
theorem St.shutP5 {cs:List Value} {b:Nat} {v1:Value} {S1:List Nat} {y1:β1} {v2:Value} {S2:List Nat} {y2:β2} {v3:Value} {S3:List Nat} {y3:β3} {v4:Value} {S4:List Nat} {y4:β4} {v5:Value} {S5:List Nat} {y5:β5} (h:St w0 S0 w L) (R:Rp α) (hR:R=qU f sz hl g (vM A1 (vM A2 (vM A3 (vM A4 A5))))) (j k1 k2 k3 k4 k5:Nat) (rest:List Nat) (hd:zB ([j,k1,k2,k3,k4,k5]++rest)=true) (hj:L[j]? =some (jF b T cs)) (h1:L[k1]? =some (itI A1 [v1] S1 y1)) (h2:L[k2]? =some (itI A2 [v2] S2 y2)) (h3:L[k3]? =some (itI A3 [v3] S3 y3)) (h4:L[k4]? =some (itI A4 [v4] S4 y4)) (h5:L[k5]? =some (itI A5 [v5] S5 y5)) (x:α) (hx:cs=f x [v1,v2,v3,v4,v5]) (hg:g x=(y1,y2,y3,y4,y5)):
  ∃ S,St w0 S0 w (sel L rest++ [itI (za3 T R) [.pointer (some ⟨b,0,none⟩)] S x]):=by
 subst hR
 subst hx
 have hd1:=zgC hd
 have o1:A1.own w [v1] S1 y1:=h.all k1 _ h1
 have o2:A2.own w [v2] S2 y2:=h.all k2 _ h2
 have o3:A3.own w [v3] S3 y3:=h.all k3 _ h3
 have o4:A4.own w [v4] S4 y4:=h.all k4 _ h4
 have o5:A5.own w [v5] S5 y5:=h.all k5 _ h5
 have hown:(qU f sz hl g (vM A1 (vM A2 (vM A3 (vM A4 A5))))).own w (f x [v1,v2,v3,v4,v5]) (S1++(S2++(S3++(S4++S5)))) x:=by
  refine ⟨[v1,v2,v3,v4,v5],rfl,?_⟩
  rw [hg]
  refine ⟨[v1],[v2,v3,v4,v5],S1,_,rfl,rfl,?_,o1,⟨[v2],[v3,v4,v5],S2,_,rfl,rfl,?_,o2,⟨[v3],[v4,v5],S3,_,rfl,rfl,?_,o3,⟨[v4],[v5],S4,_,rfl,rfl,?_,o4,o5⟩⟩⟩⟩
  ·intro b hb hb2
   simp only [List.mem_append] at hb2
   rcases hb2 with hb2 | hb2 | hb2 | hb2
   ·exact zc6 h hd1 1 2 (by decide) rfl rfl h1 h2 b hb hb2
   ·exact zc6 h hd1 1 3 (by decide) rfl rfl h1 h3 b hb hb2
   ·exact zc6 h hd1 1 4 (by decide) rfl rfl h1 h4 b hb hb2
   ·exact zc6 h hd1 1 5 (by decide) rfl rfl h1 h5 b hb hb2
  ·intro b hb hb2
   simp only [List.mem_append] at hb2
   rcases hb2 with hb2 | hb2 | hb2
   ·exact zc6 h hd1 2 3 (by decide) rfl rfl h2 h3 b hb hb2
   ·exact zc6 h hd1 2 4 (by decide) rfl rfl h2 h4 b hb hb2
   ·exact zc6 h hd1 2 5 (by decide) rfl rfl h2 h5 b hb hb2
  ·intro b hb hb2
   simp only [List.mem_append] at hb2
   rcases hb2 with hb2 | hb2
   ·exact zc6 h hd1 3 4 (by decide) rfl rfl h3 h4 b hb hb2
   ·exact zc6 h hd1 3 5 (by decide) rfl rfl h3 h5 b hb hb2
  ·intro b hb hb2
   rcases hb2 with hb2
   ·exact zc6 h hd1 4 5 (by decide) rfl rfl h4 h5 b hb hb2
 have hbn:b ∉ (S1++(S2++(S3++(S4++S5)))):=by
  intro hb
  simp only [List.mem_append] at hb
  rcases hb with hb | hb | hb | hb | hb
  ·exact zc6 h hd1 0 1 (by decide) rfl rfl hj h1 b (by simp [jF]) hb
  ·exact zc6 h hd1 0 2 (by decide) rfl rfl hj h2 b (by simp [jF]) hb
  ·exact zc6 h hd1 0 3 (by decide) rfl rfl hj h3 b (by simp [jF]) hb
  ·exact zc6 h hd1 0 4 (by decide) rfl rfl hj h4 b (by simp [jF]) hb
  ·exact zc6 h hd1 0 5 (by decide) rfl rfl hj h5 b (by simp [jF]) hb
 have hh:w.heap[b]? =some (.cells (f x [v1,v2,v3,v4,v5]).toArray T (0,0)):=h.all j _ hj
 have hp:(za3 T (qU f sz hl g (vM A1 (vM A2 (vM A3 (vM A4 A5)))))).own w [.pointer (some ⟨b,0,none⟩)] (b::(S1++(S2++(S3++(S4++S5))))) x:=⟨b,_,_,rfl,rfl,hbn,hh,hown⟩
 refine ⟨_,h.gather [j,k1,k2,k3,k4,k5] rest hd (C:=itI (za3 T (qU f sz hl g (vM A1 (vM A2 (vM A3 (vM A4 A5)))))) _ _ x) hp ((za3 T (qU f sz hl g (vM A1 (vM A2 (vM A3 (vM A4 A5)))))).nd _ _ _ _ hp) (fun c hc=> ?_)⟩
 rcases List.mem_cons.1 hc with rfl | hc
 ·exact fp3 0 rfl hj (by simp [jF])
 ·have hc:c∈S1++(S2++(S3++(S4++S5))):=hc
  simp only [List.mem_append] at hc
  rcases hc with hc | hc | hc | hc | hc
  ·exact fp3 1 rfl h1 hc
  ·exact fp3 2 rfl h2 hc
  ·exact fp3 3 rfl h3 hc
  ·exact fp3 4 rfl h4 hc
  ·exact fp3 5 rfl h5 hc
end
section
variable {w0 w:World} {S0:List Nat} {L:List zz} {α:Type} {β1:Type} {β2:Type} {β3:Type} {β4:Type} {β5:Type} {β6:Type} {T:TypeId} {f:α->List Value->List Value} {sz:Nat} {hl: ∀ x vs,(f x vs).length=sz} {g:α->β1×(β2×(β3×(β4×(β5×β6))))} {A1:Rp β1} {A2:Rp β2} {A3:Rp β3} {A4:Rp β4} {A5:Rp β5} {A6:Rp β6}
end
end Go.Sx
namespace Go.Sx
open Go.RowKit
section
variable {w0 w:World} {S0:List Nat} {L:List zz} {α:Type} {β1:Type} {β2:Type} {β3:Type} {T:TypeId} {f:α->List Value->List Value} {sz:Nat} {hl: ∀ x vs,(f x vs).length=sz} {g:α->β1×(β2×β3)} {A1:Rp β1} {A2:Rp β2} {A3:Value->Rp β3} {n:Nat} {hn: ∀ v,(A3 v).sz=n}
end
end Go.Sx
