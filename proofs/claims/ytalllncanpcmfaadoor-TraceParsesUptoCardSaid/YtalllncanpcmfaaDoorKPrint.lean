/- Plain by the reference is plain; what the reference prints; TracePrints: the plain law. -/
import Derived.Test.YtalllncanpcmfaaDoorKPlain
set_option linter.unusedVariables false
set_option linter.unusedSimpArgs false
namespace Go.Proofs.YtalllncanpcmfaaDoor
open Go.Sx

theorem cont_take {l : List Int} {i : Nat} {x y : Int} (h : l[i]? = some x) : (l.take (i + 1)).contains y = ((l.take i).contains y || x == y) := by
  rw [List.take_add_one, h]
  by_cases e : x = y
  · subst e; simp
  · have e' : ¬ y = x := fun h => e h.symm
    simp [List.contains_eq_mem, e, e']
theorem has_eq {o : ByteArray} (hz : o.size ≤ 1000) (c : Int) : tappetref26_has o c = some ((bytesOf o).contains c) := by
  refine OK.is ?_
  unfold tappetref26_has
  refine OK.bind2 (OK.bind (OK.hasRoom (by omega) (OK.count (Q := fun r => match r with | .inl _ => (bytesOf o).contains c = false | .inr b => b = (bytesOf o).contains c) (fun i _ => ((bytesOf o).take i).contains c = false) (by simp) (fun i s again hi hs k => ?_) (fun s hs => by rw [← bytesOf_len o, List.take_length] at hs; exact hs)))) (fun r hr => ?_)
  · have hlt : i < (bytesOf o).length := by rw [bytesOf_len]; exact hi
    have hc := List.getElem?_eq_getElem hlt
    generalize (bytesOf o)[i] = d at hc
    unfold tappetref26_has_l1
    rw [byte_of hc]
    simp only [Option.bind_some]
    refine OK.ite (fun e => OK.ret ?_) (fun e => k _ ?_)
    · have e : d = c := by simpa using e
      subst e
      have : (bytesOf o).contains d = true := by simpa using List.mem_of_getElem? hc
      exact this.symm
    · rw [cont_take hc, hs, e]; rfl
  · cases r with
    | inl _ => exact OK.ret (by rw [show (bytesOf o).contains c = false from hr])
    | inr b => exact OK.ret hr
theorem name_eq (m : Int) : tappetref26_Name m = some (if 1 ≤ m ∧ m ≤ 17 then nm m else ByteArray.empty) ∧ trace_Name m = some (if 1 ≤ m ∧ m ≤ 17 then nm m else ByteArray.empty) := by
  by_cases h : 1 ≤ m ∧ m ≤ 17
  · obtain ⟨f, T⟩ := tab h.1 h.2
    rw [if_pos h]
    refine ⟨T.ref, ?_⟩
    unfold trace_Name trace_of
    rw [if_neg (by simp; omega), T.i]
    simp only [Option.bind_some, T.name]
  · rw [if_neg h]
    constructor
    · unfold tappetref26_Name
      rw [if_pos (by simp; omega)]
    · unfold trace_Name trace_of
      rw [if_pos (by simp; omega)]
      rfl
/-- the fields that are not shown are zero -/
def bare (x : api_Entry) : Prop := 1 ≤ x.What ∧ x.What ≤ 17 ∧ (∀ c, Let20 c → c ∉ chs x.What x.Res.Out → fld x c = 0) ∧ (x.Res.Out = true → hasR x.What = true)
theorem bare_restr {x : api_Entry} (hx : wfE x) (h0 : 1 ≤ x.What) (h1 : x.What ≤ 17) : restr x = x ↔ bare x := by
  have R := rest_is hx h0 h1
  constructor
  · intro e
    refine ⟨h0, h1, fun c hc hn => ?_, fun ho => ?_⟩
    · have := R.fld c hc
      rw [e, if_neg hn] at this
      exact this
    · have := R.out
      rw [e, ho] at this
      simpa using this.symm
  · rintro ⟨_, _, h2, h3⟩
    refine fld_ext R.what ?_ (fun c hc => ?_)
    · rw [R.out]
      cases ho : x.Res.Out with
      | false => rfl
      | true => rw [h3 ho]; rfl
    · rw [R.fld c hc]
      split
      · rfl
      · rename_i hn
        exact (h2 c hc hn).symm
theorem plain_bare {x : api_Entry} (hx : wfE x) : plainB x = true ↔ bare x := by
  constructor
  · intro h
    obtain ⟨l, p1, p2, p3, p4⟩ := (plain_eq hx).2 h
    obtain ⟨e, b, q1, q2⟩ := parsed_total (s := l) (by omega)
    rw [p4] at q1
    cases q1
    have q := q2 rfl
    have hl := line_is hx q.2.1 q.2.2.1
    rw [hl] at p1
    cases p1
    rw [parsed_line hx q.2.1 q.2.2.1] at p4
    exact (bare_restr hx q.2.1 q.2.2.1).1 (Prod.mk.inj (Option.some.inj p4)).1
  · intro h
    have := (bare_restr hx h.1 h.2.1).2 h
    have hp := parsed_line hx h.1 h.2.1
    rw [this] at hp
    have hz := (line_words hx h.1 h.2.1).2.2.2
    exact (plain_of (by omega) hp).2.1
theorem refPlain_eq {x : api_Entry} (hx : wfE x) : tappetref26_Plain x = some (plainB x) := by
  by_cases h : 1 ≤ x.What ∧ x.What ≤ 17
  · obtain ⟨f, T⟩ := tab h.1 h.2
    have O := T.o x.Res.Out
    have hO := O.size
    refine OK.is ?_
    unfold tappetref26_Plain
    rw [T.ref]
    simp only [Option.bind_some]
    have hne : sEq (nm x.What) ByteArray.empty = false := by
      cases hs : sEq (nm x.What) ByteArray.empty with
      | false => rfl
      | true =>
        have := T.size.2
        rw [sEq_iff.1 hs] at this
        exact absurd this (by decide)
    refine OK.ite_false hne ?_
    rw [O.r]
    simp only [Option.bind_some]
    have h20 : bytesOf (⟨[116, 102, 99, 103, 101, 104, 112, 118, 97, 120, 109, 111, 121, 98, 110, 107, 119, 114, 79, 86].toArray⟩) = lets20 := by decide
    refine OK.bind2 (OK.bind (OK.hasRoom (by decide) (OK.count (Q := fun r => match r with | .inl _ => ∀ c ∈ lets20, c ∉ chs x.What x.Res.Out → fld x c = 0 | .inr b => b = false ∧ plainB x = false) (fun i _ => ∀ c ∈ lets20.take i, c ∉ chs x.What x.Res.Out → fld x c = 0) (fun c hc => by simp at hc) (fun i s again hi hs k => ?_) (fun s hs => hs)))) (fun r hr => ?_)
    · have hlt : i < lets20.length := hi
      have hc : lets20[i]? = some lets20[i] := List.getElem?_eq_getElem hlt
      generalize lets20[i] = c at hc
      have hL := let_of (List.mem_of_getElem? hc)
      unfold tappetref26_Plain_l1
      rw [byte_of (by rw [h20]; exact hc)]
      simp only [Option.bind_some]
      rw [unsigned_eq x hL]
      simp only [Option.bind_some]
      rw [has_eq (by omega)]
      simp only [Option.bind_some]
      have key : ((if (!(bytesOf (ltr x.What x.Res.Out)).contains c) = true then
          if wide c = true then
            if ((if wide c = true then fld x c else 0) != 0) = true then some true
            else if (!wide c) = true then (tappetref26_signed x c).bind fun r415 => some (r415 != 0) else some false
          else if (!wide c) = true then (tappetref26_signed x c).bind fun r420 => some (r420 != 0) else some false
        else some false)) = some (!(chs x.What x.Res.Out).contains c && fld x c != 0) := by
        show _ = some (!(bytesOf (ltr x.What x.Res.Out)).contains c && fld x c != 0)
        cases (bytesOf (ltr x.What x.Res.Out)).contains c with
        | true => rfl
        | false =>
          cases hw : wide c with
          | true =>
            simp only [Bool.not_false, if_true, Bool.not_true, Bool.false_eq_true, if_false, Bool.true_and]
            cases fld x c != 0 <;> rfl
          | false =>
            simp only [Bool.not_false, if_true, Bool.false_eq_true, if_false, Bool.true_and]
            rw [signed_eq x hL hw]
            rfl
      refine (congrArg (fun q => OK (Option.bind q _) _) key).mpr ?_
      simp only [Option.bind_some]
      refine OK.ite (fun e => OK.ret ⟨rfl, ?_⟩) (fun e => k _ (fun d hd hn => ?_))
      · simp only [Bool.and_eq_true, Bool.not_eq_true', bne_iff_ne, ne_eq] at e
        cases hp : plainB x with
        | false => rfl
        | true =>
          have hb := (plain_bare hx).1 hp
          exact absurd (hb.2.2.1 c hL (by have := e.1; simpa using this)) e.2
      · rw [List.take_add_one, hc] at hd
        rcases List.mem_append.1 hd with hd | hd
        · exact hs d hd hn
        · have : d = c := by simpa using hd
          subst this
          by_cases hz : fld x d = 0
          · exact hz
          · have : (!(chs x.What x.Res.Out).contains d && fld x d != 0) = true := by
              simp [hn, hz]
            rw [this] at e
            cases e
    · cases r with
      | inr b =>
        obtain ⟨hr1, hr2⟩ := hr
        exact OK.ret (by rw [hr1, hr2])
      | inl t =>
        have hr : ∀ c ∈ lets20, c ∉ chs x.What x.Res.Out → fld x c = 0 := hr
        simp only
        refine OK.bind2 (R := fun b => b = plainB x) ?_ (fun b hb => OK.ret hb)
        have hbase : (x.Res.Out = true → hasR x.What = true) → plainB x = true := fun ho => (plain_bare hx).2 ⟨h.1, h.2, fun c hc hn => hr c (let_mem hc) hn, ho⟩
        cases ho : x.Res.Out with
        | false => exact OK.ret (hbase (fun e => by rw [ho] at e; cases e)).symm
        | true =>
          refine OK.ite_false rfl ?_
          rw [← ho, has_eq (by omega)]
          simp only [Option.bind_some]
          refine OK.ret ?_
          show (chs x.What x.Res.Out).contains 121 = _
          rw [O.y]
          cases hh : hasR x.What with
          | true => exact (hbase (fun _ => hh)).symm
          | false =>
            cases hp : plainB x with
            | false => rfl
            | true =>
              have := ((plain_bare hx).1 hp).2.2.2 ho
              rw [hh] at this
              cases this
  · have hp : plainB x = false := by
      cases hp : plainB x with
      | false => rfl
      | true =>
        have := (plain_bare hx).1 hp
        exact absurd ⟨this.1, this.2.1⟩ h
    unfold tappetref26_Plain
    rw [(name_eq x.What).1, if_neg h, hp]
    simp only [Option.bind_some]
    rw [if_pos (sEq_iff.2 rfl)]
theorem text_bytes (s : ByteArray) : strOfNums (bytesOf s) = s := by
  apply ba_ext
  unfold strOfNums bytesOf
  have hf : ((fun (n : Int) => UInt8.ofNat n.toNat) ∘ fun (b : UInt8) => (b.toNat : Int)) = id := by
    funext b
    simp
  rw [List.map_map, hf, List.map_id]
theorem bytes_app (a b : ByteArray) : bytesOf (a ++ b) = bytesOf a ++ bytesOf b := by
  unfold bytesOf
  rw [app_list, List.map_append]
theorem lineT_is {x : api_Entry} (hx : good x) : lineT x = lineB x ++ nl ∧ (lineB x).size ≤ 500 := by
  have hb := (plain_bare hx.1).1 hx.2
  unfold lineT
  rw [line_is hx.1 hb.1 hb.2.1]
  exact ⟨rfl, (line_words hx.1 hb.1 hb.2.1).2.2.2⟩
theorem refPrint_eq {fu : Nat} (hf : 30 ≤ fu) {l : List api_Entry} (hl : l.length ≤ 1048576) (hI : ∀ x ∈ l, wfE x) : tappetref26_Print fu l = some (if l.all plainB then (catL (l.map lineT), 0) else (ByteArray.empty, 12)) := by
  refine OK.is ?_
  unfold tappetref26_Print
  refine OK.bind2 (OK.count (Q := fun o => match o with | .inl s => l.all plainB = true ∧ s = bytesOf (catL (l.map lineT)) | .inr r => l.all plainB = false ∧ r = (ByteArray.empty, 12))
    (fun i s => (l.take i).all plainB = true ∧ s = bytesOf (catL ((l.take i).map lineT)) ∧ (catL ((l.take i).map lineT)).size ≤ i * 501) ⟨by simp, rfl, by rw [List.take_zero]; decide⟩ (fun i s again hi hs k => ?_) (fun s hs => ?_)) (fun o ho => ?_)
  · obtain ⟨hs1, hs2, hs3⟩ := hs
    unfold tappetref26_Print_l1
    refine OK.bind (OK.getN hi (fun x hx => ?_))
    have hmem := List.mem_of_getElem? hx
    rw [refPlain_eq (hI x hmem)]
    simp only [Option.bind_some]
    cases hr : plainB x with
    | false =>
      refine OK.ite_true rfl (OK.ret ⟨?_, rfl⟩)
      cases ha : l.all plainB with
      | false => rfl
      | true =>
        have := List.all_eq_true.1 ha x hmem
        rw [hr] at this
        cases this
    | true =>
      refine OK.ite_false rfl ?_
      have hg : good x := ⟨hI x hmem, hr⟩
      have hb := (plain_bare hg.1).1 hr
      obtain ⟨t1, t2⟩ := lineT_is hg
      rw [refLine_is hf hg.1 hb.1 hb.2.1]
      simp only [Option.bind_some]
      have hsl : s.length ≤ i * 501 := by rw [hs2, bytesOf_len]; exact hs3
      refine OK.bind (OK.hasRoom (by omega) ?_)
      refine OK.bind (OK.hasRoom (by rw [List.length_append, bytesOf_len]; simp; omega) ?_)
      have hcat : catL ((l.take (i + 1)).map lineT) = catL ((l.take i).map lineT) ++ (lineB x ++ nl) := by
        rw [List.take_add_one, hx]
        simp only [Option.toList_some, List.map_append, List.map_cons, List.map_nil]
        rw [catL_snoc, t1]
      refine k _ ⟨?_, ?_, ?_⟩
      · rw [List.take_add_one, hx]
        simp [hs1, hr]
      · rw [hcat, bytes_app, bytes_app, ← hs2, List.append_assoc]
        rfl
      · rw [hcat, ByteArray.size_append, ByteArray.size_append, show nl.size = 1 from rfl]
        omega
  · rw [List.take_length] at hs
    exact ⟨hs.1, hs.2.1⟩
  · cases o with
    | inl s =>
      obtain ⟨a, b⟩ := ho
      refine OK.ret ?_
      rw [a, b, text_bytes]
      rfl
    | inr r =>
      obtain ⟨a, b⟩ := ho
      exact OK.ret (by rw [a, b]; rfl)
theorem tracePrints_law (p0 : List api_Entry) (p1 : Int) (hl : p0.length ≤ 1048575) (hI : ∀ x ∈ p0, wfE x) : tappetlaw26_TracePrints 1000 p0 p1 = some true := by
  have sne : ∀ a : ByteArray, sNe a a = false := fun a => by unfold sNe; rw [sEq_iff.2 rfl]; rfl
  refine OK.is ?_
  unfold tappetlaw26_TracePrints
  rw [awake_fu (by omega)]
  simp only [Option.bind_some, Bool.not_true, Bool.false_eq_true, if_false]
  rw [(name_eq p1).1, (name_eq p1).2]
  simp only [Option.bind_some, sne, Bool.false_eq_true, if_false, List.nil_append, List.length_nil, Nat.zero_add]
  refine OK.bind (OK.hasRoom (by omega) ?_)
  refine OK.bind2 (OK.count (Q := fun o => match o with | .inl s => s = p0.all plainB | .inr _ => False) (fun i s => s = (p0.take i).all plainB) (by simp) (fun i s again hi hs k => ?_) (fun s hs => by rw [List.take_length] at hs; exact hs)) (fun o ho => ?_)
  · unfold tappetlaw26_TracePrints_l1
    refine OK.bind (OK.getN hi (fun x hx => ?_))
    have hx' := hI x (List.mem_of_getElem? hx)
    have hone : ∀ y ∈ [x], wfE y := fun y hy => by rw [List.mem_singleton] at hy; subst hy; exact hx'
    rw [refPlain_eq hx', Print_eq (l := [x]) (by simp) hone]
    simp only [Option.bind_some]
    have hcut : cut p0 (i : Int) (w64 ((i : Int) + 1)) = some [x] := by
      rw [w64_eq (by omega) (by omega)]
      unfold cut
      rw [if_pos (by omega), show ((i : Int) + 1).toNat = i + 1 by omega, Int.toNat_natCast]
      have := List.getElem?_eq_some_iff.1 hx
      obtain ⟨hlt, he⟩ := this
      have hd : p0.drop i = x :: p0.drop (i + 1) := by rw [← he, List.getElem_cons_drop]
      first
        | (rw [hd, show i + 1 - i = 1 by omega]; rfl)
        | (rw [List.drop_take, hd, show i + 1 - i = 1 by omega]; rfl)
    rw [hcut]
    simp only [Option.bind_some]
    rw [refPrint_eq (by omega) (l := [x]) (by simp) hone]
    simp only [Option.bind_some]
    rw [plains_eq hone]
    simp only [Option.bind_some]
    have hall : [x].all plainB = plainB x := by simp
    rw [hall, (name_eq x.What).1, (name_eq x.What).2]
    simp only [Option.bind_some, beq_self_eq_true, Bool.not_true, Bool.false_eq_true, if_false, sne, bne_self_eq_false]
    refine k _ ?_
    rw [List.take_add_one, hx, hs]
    simp
  · cases o with
    | inr r => exact ho.elim
    | inl t =>
      have ho : t = p0.all plainB := ho
      subst ho
      simp only
      rw [Print_eq (by omega) hI, refPrint_eq (by omega) (by omega) hI, plains_eq hI, logs_refl]
      simp only [Option.bind_some, beq_self_eq_true, if_true]
      rw [sEq_iff.2 rfl]
      exact OK.ret rfl
end Go.Proofs.YtalllncanpcmfaaDoor
