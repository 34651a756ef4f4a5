/- Written by a program (wip/gen): the walks: each Go function returns what its plain function computes. -/
import Derived.Test.YtpchniebplpboaaProg
import Derived.Test.YtpchniebplpboaaF1
import Derived.Test.YtpchniebplpboaaSq
import Derived.Test.YtpchniebplpboaaPart
import Derived.Test.YtpchniebplpboaaO1
import Derived.Test.YtpchniebplpboaaW1p6
set_option linter.unusedSimpArgs false
namespace Go.Proofs.Ytpchniebplpboaa
open Go.Sx
set_option linter.unusedVariables false
set_option maxRecDepth 10000 in
set_option maxHeartbeats 4000000 in
theorem audit_Events_ok (w : World) (fu : Nat) (p0 : Int) (v1 : Value) (p1 : List api_Entry) (r : Int) (hF : audit_Events fu p0 p1 = some r)
    (hst : St w (fp []) w []) (h1 : Rd w (fp []) v1 enc_api_Entry 22 p1) :
    Calls Try.prog 12 [I p0, v1].toArray w (fun e w' => e = .returned (I r) ∧ St w (fp []) w' []) := by
 refine CW.start (N := 11) Try.func12 rfl rfl rfl ?_
 obtain ⟨l1, a2, c3, rfl⟩ := h1.len
 refine rg ?_
 refine pu 1 [] (nx (rg ?_))
 refine pu 2 [(5, .slice a2 (p1).length c3), (6, I p0)] ?_
 obtain ⟨r18, hr19, hF⟩ := bs hF
 refine OW.fn rfl rfl rfl rfl (by kernel_rfl) (audit_newEvents_ok _ p0 r18 hr19 (hst.part [] rfl)) ?_
 rintro e w20 ⟨v22, S23, rfl, hst21⟩
 refine ⟨_, rfl, ?_⟩
 have hst := hst.join (idx := []) (rest := []) rfl hst21
 obtain ⟨b24, rfl⟩ := hst.fptr 0 rfl
 have hst := hst.tag 67 0 rfl
 have hst := hst.ofL (sumP (tagP 69 R_t69) (tagP 71 R_t71) rfl rfl) rfl rfl 0 rfl
 have hst := hst.ofR (tagP 63 R_t63) rfl rfl 0 rfl
 have hst := hst.ofR (tagP 51 R_t51) rfl rfl 0 rfl
 refine OW.op (v := .iface 67 (Pt b24)) rfl rfl rfl rfl (fun a ha => mkif_run rfl rfl (by kernel_rfl) a _ ha) ?_
 refine OW.row (α := List Value) (e := 78) (enc := fit 1) (sz := 1) hst rfl rfl rfl [[.iface 67 (Pt b24)]] rfl (fun _ => fit_len _ _) rfl rfl (fun _ => by kernel_rfl) ?_
 intro g25 w26 hst
 have hst := hst.bchOne (R := R_t78) 0 rfl
 have hst := hst.keep [0, 1] rfl
 have hst : St _ _ _ [bchI R_t78 [[.iface 67 (Pt b24)]] _ [(.inr (.inr (.inl r18)))], _] := hst
 obtain ⟨S27, hst⟩ := hst.nOf 1 0 rfl rfl rfl rfl
 have hst := hst.keep [1] rfl
 have hst : St _ _ _ [nI 78 R_t78 (.slice (some ⟨g25, 0, none⟩) 1 1) S27 ([(.inr (.inr (.inl r18)))]) none] := hst
 obtain ⟨r28, hr29, hF⟩ := bs hF
 refine OW.fn rfl rfl rfl rfl (by kernel_rfl) (audit_first_ok _ fu (.slice a2 (p1).length c3) p1 (.slice (some ⟨g25, 0, none⟩) 1 1) S27 ([(.inr (.inr (.inl r18)))]) r28 hr29 (hst.part [0] rfl) (h1.give hst [0])) ?_
 rintro e w30 ⟨rfl, hst31⟩
 refine ⟨_, rfl, ?_⟩
 have hst := hst.join (idx := [0]) (rest := []) rfl hst31
 refine pu 1 [(4, I r28)] (nx (CW.ret ?_))
 obtain rfl := inj hF
 refine QW.ret1 rfl rfl ?_
 exact ⟨rfl, hst.keep [] rfl⟩
end Go.Proofs.Ytpchniebplpboaa
