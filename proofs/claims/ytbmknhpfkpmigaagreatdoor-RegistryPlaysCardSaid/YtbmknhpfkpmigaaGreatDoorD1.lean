/- Texts D1 of this proof. -/
import Derived.Test.YtbmknhpfkpmigaaGreatDoorF1
set_option linter.unusedVariables false
set_option linter.unusedSimpArgs false
namespace Go.Proofs.YtbmknhpfkpmigaaGreatDoor
open Go.Sx
def zeM (x:qD):Prop:=((Lit.int .i64 x.Ki).wf=true)/\((Lit.int .i64 x.A).wf=true)/\((Lit.int .i64 x.B).wf=true)/\(x.Bytes.length*1<=reachBytes/\ ∀ y54∈x.Bytes,(Lit.int .u8 y54).wf=true)
theorem zgc:Dec Tryz.prog 56 zqa.rd zeM:=by
 intro H enc w base spare held fuel cs x h hw
 obtain ⟨hl,hf⟩:=Dec.parts (L:= [(3,0,1),(3,1,1),(3,2,1),(54,3,1)]) (by kernel_rfl) (by simp) h hw
 have hl:cs.length=4:=hl.trans (by kernel_rfl)
 match cs,hl with
 | [c0,c1,c2,c3],_=>
 obtain ⟨a0,e0,g0⟩:=hf _ _ _ 0 3 0 1 rfl (Dec.int (t:=3) (k:= .i64) (by kernel_rfl))
 have e0: [c0]=(zn .i64) a0:=e0
 cases e0
 obtain ⟨a1,e1,g1⟩:=hf _ _ _ 1 3 1 1 rfl (Dec.int (t:=3) (k:= .i64) (by kernel_rfl))
 have e1: [c1]=(zn .i64) a1:=e1
 cases e1
 obtain ⟨a2,e2,g2⟩:=hf _ _ _ 2 3 2 1 rfl (Dec.int (t:=3) (k:= .i64) (by kernel_rfl))
 have e2: [c2]=(zn .i64) a2:=e2
 cases e2
 obtain ⟨a3,⟨v3,e3,m3⟩,g3⟩:=hf _ _ _ 3 54 3 1 rfl (Dec.slice (t:=54) (e:=5) (sz:=1) (bytes:=1) (Dec.int (t:=5) (k:= .u8) (by kernel_rfl)) (by kernel_rfl) (by kernel_rfl) (by decide) (by kernel_rfl))
 have e3: [c3]= [v3]:=e3
 cases e3
 exact ⟨⟨a0,a1,a2,a3⟩,⟨[_],rfl,⟨_,rfl,m3⟩⟩,g0,g1,g2,g3⟩
end Go.Proofs.YtbmknhpfkpmigaaGreatDoor
