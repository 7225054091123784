/-
  The walk by computing is sound: operations that make memory, regions in the text's order, code, loops by contract, calls. Told from without: which aggregates are compared cell by cell, contracts of functions and of loops.
-/
import Derived.Test.YtmbahohmiecfiaaSymR
namespace Go.Proofs.Ytmbahohmiecfiaa.sym
open Go.RowKit
set_option linter.unusedVariables false
set_option linter.unusedSimpArgs false

/-- What a call that is walked in place comes to. -/
def CallOne (P : Program) (w0 : World) (f : FuncId) (args : List AV) (h : List Blk) (t : T (AV × List Blk)) : Prop :=
  ∀ K, t.holds K → (∃ fn, P.funcs[f]? = some fn ∧ fn.body.isSome = true) ∧ ∀ (bs : List Nat) (us : List Value), us.length = args.length → (∀ (j : Nat) (y : AV), args[j]? = some y → y.Is bs (us.getD j undef) ∧ y.wf (lt h.length) = true) →
    ∀ w, Rep (lt h.length) w0 bs h w → Calls P f us.toArray w fun e w' => ∃ u x h' more, e = .returned u ∧ K (x, h') ∧ x.Is (bs ++ more) u ∧ Rep (lt h'.length) w0 (bs ++ more) h' w'

def CallOk (P : Program) (w0 : World) (call : FuncId → List AV → List Blk → T (AV × List Blk)) : Prop := ∀ f args h, CallOne P w0 f args h (call f args h)

section
variable {P : Program} {w0 : World} {bs : List Nat} {eqT : TypeId → Bool} {ctr : FuncId → List AV → List Blk → Option (T AV × Option Nat)} {call : FuncId → List AV → List Blk → T (AV × List Blk)}

/-- In the text's order a block that comes is the last one. -/
theorem Loc.self {o : Oper} {s : ASt} {x : AV} {e : Eff} {a : Act} {w : World} {K : AV × Eff → Prop} (l : Loc P w0 o s.ts s.h x e) (hk : K (x, e)) (hew : e.wf (lt s.h.length) = true) (ht : TOk bs s.ts a) (hw : TWf (lt s.h.length) s.ts) (R : Rep (lt s.h.length) w0 bs s.h w) : Up P o a.eval w (Goes w0 bs s K) := by
  cases e with
  | full h' => exact absurd rfl (l.1.2.1 h')
  | none =>
    refine (l.2 bs a.eval (fun y _ => ht.opd y) _ s.h w trivial trivial R).mono fun u w' ⟨b', hn, hu, hR⟩ => ⟨x, _, [], hk, ?_, ?_⟩
    · rw [List.append_nil, ← (show b' = bs from hn)]; subst hu; exact AV.is_refl _ x
    · rw [List.append_nil, ← (show b' = bs from hn)]; exact hR
  | rd r off n =>
    obtain ⟨k, hk'⟩ := l.1.2.2
    refine (l.2 bs a.eval (fun y _ => ht.opd y) _ s.h w (fun k hk => ⟨k, hk, ⟨rfl, rfl, rfl⟩, fun _ _ => rfl⟩) (lt_iff.2 (List.getElem?_eq_some_iff.1 hk').1) R).mono fun u w' ⟨b', hn, hu, hR⟩ => ⟨x, _, [], hk, ?_, ?_⟩
    · rw [List.append_nil, ← (show b' = bs from hn)]; subst hu; exact AV.is_refl _ x
    · rw [List.append_nil, ← (show b' = bs from hn)]; exact hR
  | wr r off cs =>
    obtain ⟨k, hk', _⟩ := l.1.2.2
    refine (l.2 bs a.eval (fun y _ => ht.opd y) _ s.h w (fun k hk => ⟨k, hk, rfl, rfl⟩) ⟨lt_iff.2 (List.getElem?_eq_some_iff.1 hk').1, fun c hc => List.all_eq_true.1 hew c hc⟩ R).mono fun u w' ⟨b', hn, hu, hR⟩ => ⟨x, _, [], hk, ?_, ?_⟩
    · rw [List.append_nil, ← (show b' = bs from hn)]; subst hu; exact AV.is_refl _ x
    · rw [List.append_nil, ← (show b' = bs from hn)]
      simp only [Eff.app, updBlk_length]
      exact hR
  | new k =>
    have R1 := R.room k
    have ht1 : TOk (bs ++ [0]) s.ts a := ht.like (like_of_lt R.len) hw
    refine (l.2 (bs ++ [0]) a.eval (fun y _ => ht1.opd y) _ (s.h ++ [k]) w (by show (s.h ++ [k])[s.h.length]? = some k; simp) ⟨by (cases hh : lt s.h.length s.h.length with | false => rfl | true => (rw [lt_iff] at hh; omega)), fun c hc => List.all_eq_true.1 hew c hc⟩ R1).mono fun u w' ⟨b', ⟨z, hn⟩, hu, hR⟩ => ⟨x, _, [z], hk, ?_, ?_⟩
    · have e : b' = bs ++ [z] := by rw [hn, ← R.len]; simp
      rw [← e]; subst hu; exact AV.is_refl _ x
    · have e : b' = bs ++ [z] := by rw [hn, ← R.len]; simp
      rw [← e]
      simp only [Eff.app, List.length_append, List.length_singleton]
      exact hR.congr (also_lt _)

theorem opT_ok (hN : NamesOk P) (hE : EqOk P eqT) (hC : CtrOk P w0 ctr) (hT : CtrThere P ctr) (hcall : CallOk P w0 call) (s : ASt) (o : Oper) (K : AV × Eff → Prop) (hK : (opT P w0 eqT ctr call s o).holds fun r => r.2.wf (lt s.h.length) = true ∧ K r) {a : Act} {w : World} (ht : TOk bs s.ts a) (hw : TWf (lt s.h.length) s.ts) (R : Rep (lt s.h.length) w0 bs s.h w) :
    Up P o a.eval w (Goes w0 bs s K) := by
  have byLoc : (locT P w0 eqT ctr s o).holds (fun r => r.2.wf (lt s.h.length) = true ∧ K r) → Up P o a.eval w (Goes w0 bs s K) := fun h => by
    obtain ⟨x, e, ⟨hew, hx⟩, hl⟩ := locT_ok hN hE hC hT s o _ h
    exact hl.self hx hew ht hw R
  obtain ⟨d, op, ty, pos, af, g⟩ := o
  revert hK
  unfold opT
  simp only
  intro hK
  split at hK
  · rename_i f args ats
    split at hK
    · rename_i g0 caps hg
      split at hK
      · rename_i t htt
        obtain ⟨x, e, ⟨hew, hx⟩, hl⟩ := loc_call hN hC hT (h := s.h) (o := ⟨d, .call ⟨.value f, args, ats⟩, ty, pos, af, g⟩) rfl hg htt _ hK
        exact hl.self hx hew ht hw R
      · rw [T.holds_map] at hK
        obtain ⟨⟨fn, hf, hb⟩, hc⟩ := hcall _ _ _ _ hK
        have ef := ht.opd f
        rw [hg] at ef
        have ef' : a.eval f = .func (.func g0) #[] (caps.map (capV bs)).toArray := ef
        unfold Up
        rw [exec_call hN hf hb ef' w]
        simp only
        have harr : args.map a.eval ++ (caps.map (capV bs)).toArray = (args.toList.map a.eval ++ caps.map (capV bs)).toArray := by
          apply Array.ext'; simp
        rw [harr]
        have hgwf := hw.opd f
        rw [hg] at hgwf
        refine (hc bs (args.toList.map a.eval ++ caps.map (capV bs)) (by simp [argsOf]) (fun j y hj => ?_) w R).mono fun e w' ⟨u, x, h', more, he, ⟨_, hk⟩, hu, hR⟩ => ⟨u, he, x, _, more, hk, hu, hR⟩
        rw [List.getElem?_append] at hj
        simp only [argsOf, List.length_map] at hj
        rw [List.getD_eq_getElem?_getD, List.getElem?_append]
        simp only [List.length_map]
        split at hj
        · rename_i hlt
          rw [if_pos hlt]
          rw [List.getElem?_map] at hj ⊢
          cases ha : args.toList[j]? with
          | none => rw [ha] at hj; cases hj
          | some z => rw [ha] at hj; cases hj; exact ⟨ht.opd z, hw.opd z⟩
        · rename_i hlt
          rw [if_neg hlt]
          rw [List.getElem?_map] at hj ⊢
          cases ha : caps[j - args.toList.length]? with
          | none => rw [ha] at hj; cases hj
          | some z =>
            rw [ha] at hj
            cases hj
            exact ⟨rfl, List.all_eq_true.1 hgwf z (List.mem_of_getElem? ha)⟩
    · rename_i g0 first caps hg
      split at hK
      · rename_i v hfi hca
        rw [T.holds_map] at hK
        obtain ⟨⟨fn, hf, hb⟩, hc⟩ := hcall _ _ _ _ hK
        have ef := ht.opd f
        rw [hg] at ef
        have hfi : first = #[v] := by apply Array.ext'; simpa using hfi
        have hca : caps = #[] := by apply Array.ext'; simpa using hca
        subst hfi hca
        have ef' : a.eval f = .func (.func g0) #[v] #[] := ef
        unfold Up
        rw [exec_callB hN hf hb ef' w]
        simp only
        have harr : #[v] ++ args.map a.eval = (v :: args.toList.map a.eval).toArray := by
          apply Array.ext'; simp
        rw [harr]
        refine (hc bs (v :: args.toList.map a.eval) (by simp [argsOf]) (fun j y hj => ?_) w R).mono fun e w' ⟨u, x, h', more, he, ⟨_, hk⟩, hu, hR⟩ => ⟨u, he, x, _, more, hk, hu, hR⟩
        cases j with
        | zero => cases hj; exact ⟨rfl, rfl⟩
        | succ j =>
          rw [List.getElem?_cons_succ] at hj
          simp only [argsOf, List.getElem?_map] at hj
          rw [List.getD_eq_getElem?_getD, List.getElem?_cons_succ, List.getElem?_map]
          cases ha : args.toList[j]? with
          | none => rw [ha] at hj; cases hj
          | some z => rw [ha] at hj; cases hj; exact ⟨ht.opd z, hw.opd z⟩
      · exact hK.elim
    · exact hK.elim
  · split at hK
    · rename_i t htt
      exact (rowT_ok htt hK (fun y _ => ht.opd y) hw R).mono fun u w' ⟨x, e, more, ⟨_, hk⟩, hu, hR⟩ => ⟨x, e, more, hk, hu, hR⟩
    · exact byLoc hK

theorem regSeq_ok (hN : NamesOk P) (hE : EqOk P eqT) (hC : CtrOk P w0 ctr) (hT : CtrThere P ctr) (hcall : CallOk P w0 call) (ops : Array Oper) {Q : Exit → Act → World → Prop} : ∀ (l : List Oper) (bs : List Nat) (s : ASt) (a : Act) (w : World) (K : ASt → Prop),
    (regSeq P w0 eqT ctr call ops l s).holds K → TOk bs s.ts a → TWf (lt s.h.length) s.ts → Rep (lt s.h.length) w0 bs s.h w → (∀ more s' a' w', K s' → TOk (bs ++ more) s'.ts a' → TWf (lt s'.h.length) s'.ts → Rep (lt s'.h.length) w0 (bs ++ more) s'.h w' → Q .normal a' w') → wpList P ops Q l a w
  | [], bs, s, a, w, K, h, ht, hw, R, hQ => hQ [] s a w h (by rw [List.append_nil]; exact ht) hw (by rw [List.append_nil]; exact R)
  | o :: rest, bs, s, a, w, K, h, ht, hw, R, hQ => by
    unfold regSeq at h
    refine wpList_step fun K' hK' => ?_
    rcases wantT_ok (F := fun b => b = bs) (A := fun _ => a) h (fun b hb => by subst hb; exact ht) with ⟨ts', ht', hw', h⟩ | ⟨ts', ht', hw', h⟩
    · obtain ⟨ht'', hwa⟩ := ht' bs rfl
      rw [if_pos hwa]
      rw [T.holds_bind] at h
      have h2 := T.mono (K' := fun r => r.2.wf (lt s.h.length) = true ∧ (r.1.wf (lt (r.2.app s.h).length) = true ∧ (regSeq P w0 eqT ctr call ops rest ⟨putA ts' o.dst r.1, r.2.app s.h⟩).holds K)) (fun r hr => by
        split at hr
        · rename_i hh
          simp only [Bool.and_eq_true] at hh
          exact ⟨hh.2, hh.1, hr⟩
        · exact hr.elim) _ h
      refine (opT_ok hN hE hC hT hcall ⟨ts', s.h⟩ o _ (T.holds_tag h2) ht'' (hw' _ hw) R).wp fun u w' ⟨x, e, more, ⟨hwf, hx⟩, hu, hR⟩ => ?_
      have hle : s.h.length ≤ (e.app s.h).length := by
        have h1 := hR.len
        have h3 := R.len
        simp only [List.length_append] at h1
        omega
      refine hK' _ _ (regSeq_ok hN hE hC hT hcall ops rest (bs ++ more) ⟨putA ts' o.dst x, e.app s.h⟩ _ _ K hx ((ht''.like (like_of_lt R.len) (hw' _ hw)).put o.dst hu) (((hw' _ hw).mono (lt_mono hle)).put o.dst hwf) hR fun m s' a' w' hk h1 h4 h3 => hQ (more ++ m) s' a' w' hk ?_ h4 ?_)
      · rw [← List.append_assoc]; exact h1
      · rw [← List.append_assoc]; exact h3
    · obtain ⟨ht'', hwa⟩ := ht' bs rfl
      rw [if_neg (by simp [hwa])]
      exact hK' _ _ (regSeq_ok hN hE hC hT hcall ops rest bs ⟨putA ts' o.dst .undef, s.h⟩ _ _ K h (ht''.put o.dst (AV.is_refl bs .undef)) ((hw' _ hw).put o.dst rfl) R hQ)

theorem pureT_ok (hE : EqOk P eqT) {ts : List AV} {o : Oper} {t : T AV} (e : pureT P w0 eqT ts o = some t) {K : AV → Prop} (hK : t.holds K) : ∃ x, K x ∧ x ≠ .any ∧ ∀ (bs : List Nat) (ev : Operand → Value), (∀ y ∈ o.op.operands, (opd ts y).Is bs (ev y)) → ∀ w, (execOp ev o).run P w = .ok (.value (x.γ bs)) w := by
  have isγ : ∀ {bs : List Nat} {x : Operand} {v : Value}, (opd ts x).Is bs v → opd ts x ≠ .any → v = (opd ts x).γ bs := fun h hn => AV.Is.eq h hn
  obtain ⟨d, op', ty, pos, af, g⟩ := o
  unfold pureT at e
  simp only at e ⊢
  split at e
  · rename_i x
    split at e
    · cases e; exact hK.elim
    · rename_i hne
      cases e
      refine ⟨_, hK, (fun e => hne e), fun bs ev hev w => ?_⟩
      have e1 := isγ (hev x (by simp [Op.operands])) hne
      simp [execOp, e1]
  · rename_i x
    split at e
    · cases e; exact hK.elim
    · rename_i hne
      cases e
      refine ⟨_, hK, (fun e => hne e), fun bs ev hev w => ?_⟩
      have e1 := isγ (hev x (by simp [Op.operands])) hne
      simp [execOp, e1]
  · rename_i t x lo hi
    cases e
    obtain ⟨z, hz, hn, hr⟩ := sliceT_ok (P := P) t _ _ _ _ hK
    have ne := sliceT_ne hK
    refine ⟨_, hz, hn, fun bs ev hev w => ?_⟩
    have e1 := isγ (hev x (by simp [Op.operands])) ne.1
    have e2 : lo.map ev = (lo.map (opd ts)).map (AV.γ bs) := by
      cases lo with
      | none => rfl
      | some y => simp only [Option.map_some]; rw [isγ (hev y (by simp [Op.operands])) (ne.2.1 _ rfl)]
    have e3 : hi.map ev = (hi.map (opd ts)).map (AV.γ bs) := by
      cases hi with
      | none => rfl
      | some y => simp only [Option.map_some]; rw [isγ (hev y (by simp [Op.operands])) (ne.2.2 _ rfl)]
    simp only [execOp, e1, e2, e3, Option.map_none]
    exact vrun (hr bs w)
  · rename_i op t x y yt
    cases e
    obtain ⟨z, hz, hn, hr⟩ := binT_ok (P := P) hE op t _ _ x y _ hK
    have ne := binT_ne hK
    refine ⟨_, hz, hn, fun bs ev hev w => ?_⟩
    have e1 := isγ (hev x (by simp [Op.operands])) ne.1
    have e2 := isγ (hev y (by simp [Op.operands])) ne.2
    simp only [execOp, e1, e2]
    exact vrun (hr bs w)
  · rename_i t x f
    cases e
    obtain ⟨z, hz, hn, hr⟩ := fieldT_ok (P := P) t _ f _ hK
    have ne := fieldT_ne hK
    refine ⟨_, hz, hn, fun bs ev hev w => ?_⟩
    have e1 := isγ (hev x (by simp [Op.operands])) ne
    simp only [execOp, e1]
    exact vrun (hr bs w)
  · rename_i t x i
    cases e
    obtain ⟨z, hz, hn, hr⟩ := indexAddrT_ok (P := P) (w0 := w0) t _ _ _ hK
    have ne := indexAddrT_ne hK
    refine ⟨_, hz, hn, fun bs ev hev w => ?_⟩
    have e1 := isγ (hev x (by simp [Op.operands])) ne.1
    have e2 := isγ (hev i (by simp [Op.operands])) ne.2
    simp only [execOp, e1, e2]
    exact vrun (hr bs w)
  · rename_i t parts
    split at e
    · rename_i l hl
      split at e
      · rename_i cs hcs
        cases e
        refine ⟨_, hK, (fun e => by cases e), fun bs ev hev w => ?_⟩
        have hp := partsOf_ok (bs := bs) (ev := ev) parts.toList l (fun x hx => hev x.2 (by
          simp only [Op.operands, List.mem_toArray, List.mem_map]
          exact ⟨x, hx, rfl⟩)) hl
        simp only [execOp]
        refine vrun ?_
        exact buildV_ok hcs _ (by simpa using hp) w
      · cases e
    · cases e
  · rename_i src dst x
    split at e
    · cases e
    · cases e
      obtain ⟨z, hz, hn, hr⟩ := convT_ok (P := P) src dst _ _ hK
      have ne := convT_ne hK
      refine ⟨_, hz, hn, fun bs ev hev w => ?_⟩
      have e1 := isγ (hev x (by simp [Op.operands])) ne
      simp only [execOp, e1]
      exact vrun (hr bs w)
    · cases e
  · rename_i x i
    cases e
    obtain ⟨z, hz, hn, hr⟩ := extractT_ok (P := P) _ i _ hK
    have ne := extractT_ne hK
    refine ⟨_, hz, hn, fun bs ev hev w => ?_⟩
    have e1 := isγ (hev x (by simp [Op.operands])) ne
    simp only [execOp, e1]
    exact vrun (hr bs w)
  · rename_i f first caps
    split at e
    · rename_i h0
      split at e
      · rename_i l hl
        cases e
        refine ⟨_, hK, by simp, fun bs ev hev w => ?_⟩
        have hf : first = #[] := Array.eq_empty_of_size_eq_zero h0
        subst hf
        have hc := caps_ok (bs := bs) (ev := ev) caps.toList l (fun x hx => hev x (by simp [Op.operands]; simpa using hx)) hl
        have ha : caps.map ev = (l.map (capV bs)).toArray := by
          apply Array.ext'
          rw [Array.toList_map]
          exact hc
        simp only [execOp, Instr.makeFunc, ha]
        exact vrun (by simp [AV.γ, V.γ, Sc.γ])
      · cases e
    · cases e
  · rename_i t x f
    cases e
    obtain ⟨z, hz, hn, hr⟩ := fieldAddrT_ok (P := P) (w0 := w0) t _ f _ hK
    have ne := fieldAddrT_ne hK
    refine ⟨_, hz, hn, fun bs ev hev w => ?_⟩
    have e1 := isγ (hev x (by simp [Op.operands])) ne
    simp only [execOp, e1]
    exact vrun (hr bs w)
  · cases e
theorem conjT_ok {α : Type} {K : α → Prop} : ∀ {l : List (T α)}, (conjT l).holds K → ∀ t ∈ l, t.holds K
  | [], h, t, ht => by cases ht
  | [t0], h, t, ht => by simp at ht; subst ht; exact h
  | t0 :: t1 :: l, h, t, ht => by
    rcases List.mem_cons.1 ht with rfl | ht
    · exact (h true).1 rfl
    · exact conjT_ok (l := t1 :: l) ((h false).2 rfl) t ht
theorem mixT_ok (hN : NamesOk P) (hE : EqOk P eqT) (hC : CtrOk P w0 ctr) (hT : CtrThere P ctr) (hcall : CallOk P w0 call) {ops : Array Oper} (hsel : Region.noSelect ops = true) {Q : Exit → Act → World → Prop} (hQp : ∀ c a w a', Q (.panic c) a w → Q (.panic c) a' w) : ∀ (g : Nat) (listed : Array Bool) (bs : List Nat) (s : ASt) (a : Act) (w : World) (K : ASt → Prop),
    (mixT P w0 eqT ctr call ops g listed s).holds K → TOk bs s.ts a → TWf (lt s.h.length) s.ts → Rep (lt s.h.length) w0 bs s.h w → (∀ more s' a' w', K s' → TOk (bs ++ more) s'.ts a' → TWf (lt s'.h.length) s'.ts → Rep (lt s'.h.length) w0 (bs ++ more) s'.h w' → Q .normal a' w') → wpAny P .any ops Q g listed a w := by
  intro g
  induction g with
  | zero =>
    intro listed bs s a w K h ht hw R hQ
    unfold mixT at h
    split at h
    · rename_i hr
      exact ⟨hr, hQ [] s a w h (by rw [List.append_nil]; exact ht) hw (by rw [List.append_nil]; exact R)⟩
    · exact h.elim
  | succ g ih =>
    intro listed bs s a w K h ht hw R hQ
    unfold mixT at h
    split at h
    · rename_i hr
      exact wpAny_done hr (hQ [] s a w h (by rw [List.append_nil]; exact ht) hw (by rw [List.append_nil]; exact R)) _
    · rename_i rs hrs
      have undo : ∀ {i : Nat} {o : Oper} {ts' : List AV}, TOk bs ts' a → (∀ m, TWf m s.ts → TWf m ts') → (mixT P w0 eqT ctr call ops g (listed.setIfInBounds i true) ⟨putA ts' o.dst .undef, s.h⟩).holds K → wpAny P .any ops Q g (listed.setIfInBounds i true) (a.put o.dst undef) w :=
        fun ht' hw' h => ih _ bs ⟨_, s.h⟩ _ w K h (ht'.put _ (AV.is_refl bs .undef)) ((hw' _ hw).put _ rfl) R hQ
      split at h
      · rename_i i hfind
        have hmem := List.mem_of_find?_eq_some hfind
        have hcond := List.find?_some hfind
        simp only [Bool.and_eq_true] at hcond
        split at h
        · rename_i o ho
          have hrdy : (Region.ready .any ops listed).contains i = true := by simpa using hmem
          rcases wantT_ok (F := fun b => b = bs) (A := fun _ => a) h (fun b hb => by subst hb; exact ht) with ⟨ts', ht', hw', h⟩ | ⟨ts', ht', hw', h⟩
          · obtain ⟨ht'', hwa⟩ := ht' bs rfl
            split at h
            · rename_i t htt
              rw [T.holds_bind] at h
              obtain ⟨x, hx, hn, hr⟩ := pureT_ok hE htt (T.holds_tag h)
              split at hx
              · rename_i hxw
                exact wpAny_take ho hsel hcond.2 hrdy (fun c a w hq => hQp c _ w _ hq) (.inl ⟨hwa, hr bs a.eval fun y _ => ht''.opd y⟩) (ih _ bs ⟨_, s.h⟩ _ w K hx (ht''.put _ (AV.is_refl bs x)) ((hw' _ hw).put _ hxw) R hQ)
              · exact hx.elim
            · exact h.elim
          · obtain ⟨ht'', hwa⟩ := ht' bs rfl
            exact wpAny_take ho hsel hcond.2 hrdy (fun c a w hq => hQp c _ w _ hq) (.inr ⟨hwa, rfl⟩) (undo ht'' hw' h)
        · exact h.elim
      · refine wpAny_all rfl (fun e => hrs e) fun i hi => ?_
        have h0 := conjT_ok h _ (List.mem_map.2 ⟨i, hi, rfl⟩)
        unfold wpOp
        split at h0
        · rename_i o ho
          simp only [ho]
          rcases wantT_ok (F := fun b => b = bs) (A := fun _ => a) h0 (fun b hb => by subst hb; exact ht) with ⟨ts', ht', hw', h⟩ | ⟨ts', ht', hw', h⟩
          · obtain ⟨ht'', hwa⟩ := ht' bs rfl
            rw [if_pos hwa]
            left
            rw [T.holds_bind] at h
            have h2 := T.mono (K' := fun r => r.2.wf (lt s.h.length) = true ∧ (r.1.wf (lt (r.2.app s.h).length) = true ∧ (mixT P w0 eqT ctr call ops g (listed.setIfInBounds i true) ⟨putA ts' o.dst r.1, r.2.app s.h⟩).holds K)) (fun r hr => by
              split at hr
              · rename_i hh
                simp only [Bool.and_eq_true] at hh
                exact ⟨hh.2, hh.1, hr⟩
              · exact hr.elim) _ h
            refine (opT_ok hN hE hC hT hcall ⟨ts', s.h⟩ o _ (T.holds_tag h2) ht'' (hw' _ hw) R).wp fun u w' ⟨x, e, more, ⟨hwf, hx⟩, hu, hR⟩ => ?_
            have hle : s.h.length ≤ (e.app s.h).length := by
              have h1 := hR.len
              have h3 := R.len
              simp only [List.length_append] at h1
              omega
            refine ih _ (bs ++ more) ⟨putA ts' o.dst x, e.app s.h⟩ _ _ K hx ((ht''.like (like_of_lt R.len) (hw' _ hw)).put o.dst hu) (((hw' _ hw).mono (lt_mono hle)).put o.dst hwf) hR fun m s' a' w' hk h1 h4 h3 => hQ (more ++ m) s' a' w' hk ?_ h4 ?_
            · rw [← List.append_assoc]; exact h1
            · rw [← List.append_assoc]; exact h3
          · obtain ⟨ht'', hwa⟩ := ht' bs rfl
            rw [if_neg (by simp [hwa])]
            exact undo ht'' hw' h
        · exact h0.elim
/-- What a piece of code comes to, by the tree. -/
def exOf : Ex → Exit
  | .normal => .normal
  | .exit id => .exit id
  | .ret => .ret
  | .goto l => .goto l
def Comes (w0 : World) (bs : List Nat) (K : Ex × ASt → Prop) (Q : Exit → Act → World → Prop) : Prop := ∀ more e s a w, K (e, s) → TOk (bs ++ more) s.ts a → TWf (lt s.h.length) s.ts → Rep (lt s.h.length) w0 (bs ++ more) s.h w → Q (exOf e) a w
theorem Comes.more {w0 : World} {bs : List Nat} {K : Ex × ASt → Prop} {Q : Exit → Act → World → Prop} (h : Comes w0 bs K Q) (m : List Nat) : Comes w0 (bs ++ m) K Q := fun more e s a w hk h1 h3 h2 => h (m ++ more) e s a w hk (by rw [← List.append_assoc]; exact h1) h3 (by rw [← List.append_assoc]; exact h2)
theorem Comes.now {w0 : World} {bs : List Nat} {K : Ex × ASt → Prop} {Q : Exit → Act → World → Prop} (h : Comes w0 bs K Q) {e : Ex} {s : ASt} {a : Act} {w : World} (hk : K (e, s)) (h1 : TOk bs s.ts a) (h3 : TWf (lt s.h.length) s.ts) (h2 : Rep (lt s.h.length) w0 bs s.h w) : Q (exOf e) a w := h [] e s a w hk (by rw [List.append_nil]; exact h1) h3 (by rw [List.append_nil]; exact h2)
/-- A loop's contract is so. -/
def LoopOk (P : Program) (w0 : World) (id : Nat) (body : Code) (s : ASt) (t : T (Ex × ASt)) : Prop :=
  ∀ bs K Q a w, t.holds K → TOk bs s.ts a → TWf (lt s.h.length) s.ts → Rep (lt s.h.length) w0 bs s.h w → Comes w0 bs K Q → body.wp P Q a w
def LcOk (P : Program) (w0 : World) (lc : Nat → ASt → Option (Code × T (Ex × ASt))) : Prop := ∀ id s body t, lc id s = some (body, t) → LoopOk P w0 id body s t

theorem knowsO_ok {ts : List AV} {a : Act} (h : TOk bs ts a) {l b : Bool} {c : Operand} (hc : opd ts c = .v (.one (.bool l b))) {b' : Bool} (hb : b = b') : TOk bs (knowsO l ts c b') a := by
  cases c with
  | tmp t =>
    simp only [sym.opd] at hc
    cases ht : ts[t]? with
    | none => simp [ht] at hc
    | some x => simp [ht] at hc; subst hc; exact h.knows ht hb
  | const v => exact h
  | global g => exact h
  | func f => exact h

theorem tailAt_le (ops : Array Oper) : ∀ t, tailAt ops t ≤ t
  | 0 => Nat.le_refl _
  | t + 1 => by
    unfold tailAt
    split
    · exact Nat.le_succ_of_le (tailAt_le ops t)
    · exact Nat.le_refl _
theorem tailAt_last (ops : Array Oper) : ∀ m t, tailAt ops m ≤ t → t < m → lastOk ops t = true
  | 0, t, _, h => by omega
  | m + 1, t, h1, h2 => by
    unfold tailAt at h1
    split at h1
    · rename_i hl
      by_cases e : t = m
      · subst e; exact hl
      · exact tailAt_last ops m t h1 (by omega)
    · omega

theorem knowsO_wf {m : Nat → Bool} {ts : List AV} (h : TWf m ts) (l : Bool) (c : Operand) (b : Bool) : TWf m (knowsO l ts c b) := by
  cases c with
  | tmp t => exact h.knows l t b
  | const v => exact h
  | global g => exact h
  | func f => exact h
/-- Room for blocks to come. -/
theorem rooms {n : Nat} {w0 w : World} : ∀ (l : List Blk) {bs : List Nat} {h : List Blk}, Rep (lt n) w0 bs h w → ∃ b, Like (lt n) bs b ∧ Rep (lt n) w0 b (h ++ l) w
  | [], bs, h, R => ⟨bs, fun _ _ => rfl, by rw [List.append_nil]; exact R⟩
  | k :: l, bs, h, R => by
    have hn : ∀ r, lt n r = true → r < bs.length := fun r hr => by rw [R.len]; exact R.inm r hr
    have hlk : Like (lt n) bs (bs ++ [0]) := fun r hr => like_more bs [0] r (lt_iff.2 (hn r hr))
    have R1 : Rep (lt n) w0 (bs ++ [0]) (h ++ [k]) w := by
      have old : ∀ {r : Nat} {k' : Blk}, lt n r = true → (h ++ [k])[r]? = some k' → h[r]? = some k' := fun hr g => by
        rw [List.getElem?_append_left (R.inm _ hr)] at g
        exact g
      refine ⟨R.below, by simp [R.len], fun r hr => by have := R.inm r hr; simp; omega, fun r k' hr hk' => ?_, fun r r' k1 k2 hr hr' g1 g2 l1 l2 e => ?_, fun r k' hr hk' => R.wf r k' hr (old hr hk'), fun r k' hr hk' f hf b off ha hne => ⟨fun r1 k1 h1 g1 l1 => ?_, fun r1 k1 L O h1 g1 hkp => (R.far r k' hr (old hr hk') f hf b off ha hne).2 r1 k1 L O h1 (old h1 g1) hkp⟩, fun r k' L O hr hk' hkp r1 k1 h1 g1 l1 => ?_⟩
      rotate_left 2
      · rw [hlk r1 h1]
        exact (R.far r k' hr (old hr hk') f hf b off ha hne).1 r1 k1 h1 (old h1 g1) l1
      · rw [hlk r1 h1]
        exact R.kept r k' L O hr (old hr hk') hkp r1 k1 h1 (old h1 g1) l1
      · have hk' := old hr hk'
        rw [hlk r hr]
        exact (R.blk r k' hr hk').to (fun _ => rfl) (fun _ => rfl) (fun f hf => (R.blk r k' hr hk').ice hf) (fun _ _ _ _ _ _ => rfl) (map_γ_like hlk (R.wf r k' hr hk'))
      · rw [hlk r hr, hlk r' hr'] at e; exact R.apart _ _ _ _ hr hr' (old hr g1) (old hr' g2) l1 l2 e
    obtain ⟨b, hb, hR⟩ := rooms l R1
    exact ⟨b, fun r hr => (hb r hr).trans (hlk r hr), by rw [List.append_assoc] at hR; exact hR⟩

theorem iter_ok {c : Code} {body : ASt → T (Ex × ASt)} (hb : ∀ (bs : List Nat) (s : ASt) (K : Ex × ASt → Prop) (Q : Exit → Act → World → Prop) (a : Act) (w : World), (body s).holds K → TOk bs s.ts a → TWf (lt s.h.length) s.ts → Rep (lt s.h.length) w0 bs s.h w → Comes w0 bs K Q → c.wp P Q a w)
    {Q : Exit → Act → World → Prop} {K : Ex × ASt → Prop} : ∀ (n : Nat) (bs : List Nat) (s : ASt) (a : Act) (w : World), (iter body n s).holds K → TOk bs s.ts a → TWf (lt s.h.length) s.ts → Rep (lt s.h.length) w0 bs s.h w → Comes w0 bs K Q → Code.rounds P c Q n a w
  | 0, bs, s, a, w, h, _, _, _, _ => h.elim
  | n + 1, bs, s, a, w, h, ht, hw, R, hQ => by
    rw [rounds_succ]
    unfold iter at h
    rw [T.holds_bind] at h
    refine hb bs s _ _ a w h ht hw R ?_
    intro more e s' a' w' hk ht' hw' R'
    cases e with
    | normal => exact iter_ok hb n (bs ++ more) s' a' w' hk ht' hw' R' (hQ.more more)
    | exit id => exact hQ more (.exit id) s' a' w' hk ht' hw' R'
    | ret => exact hQ more .ret s' a' w' hk ht' hw' R'
    | goto l => exact hQ more (.goto l) s' a' w' hk ht' hw' R'

/-! ### A region whose paths are made one -/
theorem holds_tag' {α : Type} {s : String} {t : T α} {K : α → Prop} (h : t.holds K) : (t.tag s).holds K := by
  unfold T.tag
  split
  · exact h
  · exact h
theorem opT_pure {ts : List AV} {h : List Blk} {o : Oper} {t : T AV} (e : pureB P eqT ts o = some t) : opT P w0 eqT ctr call ⟨ts, h⟩ o = t.map fun v => (v, .none) := by
  obtain ⟨d, op, ty, pos, af, g⟩ := o
  unfold pureB at e
  simp only at e
  split at e
  · rename_i x
    split at e
    · cases e
    · rename_i hne
      cases e
      simp only [opT, rowT, locT]
      rfl
  · rename_i x
    split at e
    · cases e
    · rename_i hne
      cases e
      simp only [opT, rowT, locT]
      rfl
  · cases e
    simp only [opT, rowT, locT]
  · split at e
    · rename_i h1 h2 h3
      cases e
      simp only [opT, rowT, locT, h1, h2, h3]
    · rename_i h1 h2 h3
      cases e
      simp only [opT, rowT, locT, h1, h2]
      try (split <;> simp_all)
    · rename_i h1 h2 h3
      cases e
      simp only [opT, rowT, locT, h1, h3]
      split <;> simp_all
    · cases e
  · cases e
/-- What stands apart from what the operations name. -/
def Off (ops : List Oper) (ts ts' : List AV) : Prop := ts'.length = ts.length ∧ ∀ j, (∀ o ∈ ops, o.dst ≠ some j) → ts'[j]? = ts[j]?
theorem Off.refl (ops : List Oper) (ts : List AV) : Off ops ts ts := ⟨rfl, fun _ _ => rfl⟩
theorem Off.trans {ops : List Oper} {a b c : List AV} (h1 : Off ops a b) (h2 : Off ops b c) : Off ops a c := ⟨h2.1.trans h1.1, fun j hj => (h2.2 j hj).trans (h1.2 j hj)⟩
theorem Off.put {ops : List Oper} {ts : List AV} {o : Oper} (ho : o ∈ ops) (x : AV) : Off ops ts (putA ts o.dst x) := by
  cases hd : o.dst with
  | none => exact Off.refl _ _
  | some t =>
    refine ⟨by simp [putA], fun j hj => ?_⟩
    have : t ≠ j := fun e => hj o ho (by rw [hd, e])
    simp only [putA, List.getElem?_set_ne this]
theorem Off.knows {ops : Array Oper} {ts : List AV} {g : Nat} {t : Tmp} (hg : (ops[g]?).bind (·.dst) = some t) (l b : Bool) : Off ops.toList ts (sym.knows l ts t b) := by
  cases l with
  | true => exact Off.refl _ _
  | false =>
    refine ⟨by simp [sym.knows], fun j hj => ?_⟩
    have : t ≠ j := by
      rintro rfl
      cases ho : ops[g]? with
      | none => rw [ho] at hg; cases hg
      | some o =>
        rw [ho] at hg
        exact hj o (by have := Array.mem_of_getElem? ho; simpa using this) hg
    simp only [sym.knows, List.getElem?_set_ne this]
theorem want_map {α β : Type} {ops : Array Oper} {ts : List AV} {o : Oper} {yes no : List AV → T α} {yes' no' : List AV → T β} {K : α → Prop} {K' : β → Prop} (h : (wantT ops ts o yes no).holds K) (hy : ∀ ts', Off ops.toList ts ts' → (yes ts').holds K → (yes' ts').holds K') (hn : ∀ ts', Off ops.toList ts ts' → (no ts').holds K → (no' ts').holds K') : (wantT ops ts o yes' no').holds K' := by
  have hf : ∀ {l b : Bool} {t e : T α} {t' e' : T β}, (fork l b t e).holds K → (t.holds K → t'.holds K') → (e.holds K → e'.holds K') → (fork l b t' e').holds K' := by
    intro l b t e t' e' h h1 h2
    cases l <;> cases b
    · exact ⟨fun hc => h1 (h.1 hc), fun hc => h2 (h.2 hc)⟩
    · exact ⟨fun hc => h1 (h.1 hc), fun hc => h2 (h.2 hc)⟩
    · exact h2 h
    · exact h1 h
  unfold wantT at h ⊢
  cases hg : o.guard with
  | none =>
    simp only [hg] at h ⊢
    exact hy _ (Off.refl _ _) h
  | some gw =>
    obtain ⟨g, want⟩ := gw
    simp only [hg] at h ⊢
    cases hd : (ops[g]?).bind (·.dst) with
    | none =>
      simp only [hd] at h ⊢
      exact hn _ (Off.refl _ _) h
    | some t =>
      simp only [hd] at h ⊢
      cases hs : ts[t]? with
      | none =>
        simp only [hs] at h ⊢
        exact hn _ (Off.refl _ _) h
      | some x =>
        simp only [hs] at h ⊢
        split at h
        · rename_i heq; cases heq
        · rename_i l b heq
          cases heq
          cases want with
          | true => exact hf h (hy _ (Off.knows hd _ _)) (hn _ (Off.knows hd _ _))
          | false => exact hf h (hn _ (Off.knows hd _ _)) (hy _ (Off.knows hd _ _))
        · rename_i heq
          cases heq
          exact hn _ (Off.refl _ _) h
        · exact h.elim
theorem regSeqB_off {n : Nat} {ops : Array Oper} : ∀ {l : List Oper} {ts : List AV} {K : List AV → Prop}, (∀ o ∈ l, o ∈ ops.toList) → (regSeqB P eqT n ops l ts).holds K → (regSeqB P eqT n ops l ts).holds fun ts' => K ts' ∧ Off ops.toList ts ts'
  | [], ts, K, _, h => ⟨h, Off.refl _ _⟩
  | o :: l, ts, K, hm, h => by
    have ho := hm o (List.mem_cons_self ..)
    have hm' : ∀ o ∈ l, o ∈ ops.toList := fun o' h' => hm o' (List.mem_cons_of_mem _ h')
    unfold regSeqB at h ⊢
    refine want_map h (fun ts' hts' h => ?_) (fun ts' hts' h => ?_)
    · skip
      split
      · rename_i t he
        simp only [he] at h
        rw [T.holds_bind] at h ⊢
        refine T.mono (fun x hx => ?_) _ h
        split
        · rename_i hw
          simp only [hw] at hx
          exact T.mono (fun ts2 h2 => ⟨h2.1, (hts'.trans (Off.put ho x)).trans h2.2⟩) _ (regSeqB_off hm' hx)
        · rename_i hw
          simp only [hw] at hx
          exact hx
      · rename_i he
        simp only [he] at h
        exact h
    · exact T.mono (fun ts2 h2 => ⟨h2.1, (hts'.trans (Off.put ho .undef)).trans h2.2⟩) _ (regSeqB_off hm' h)
theorem regSeqB_seq {ops : Array Oper} : ∀ {l : List Oper} {ts : List AV} {h : List Blk} {K : List AV → Prop}, (regSeqB P eqT h.length ops l ts).holds K → (regSeq P w0 eqT ctr call ops l ⟨ts, h⟩).holds fun s => K s.ts ∧ s.h = h
  | [], ts, h, K, hk => ⟨hk, rfl⟩
  | o :: l, ts, h, K, hk => by
    unfold regSeqB at hk
    unfold regSeq
    have yes : ∀ ts', (match pureB P eqT ts' o with
        | some t => (t.tag o.pos).bind fun x => match x.wf (lt h.length) with
          | true => regSeqB P eqT h.length ops l (putA ts' o.dst x)
          | false => .fail
        | none => .fail "merge" : T (List AV)).holds K → (((opT P w0 eqT ctr call ⟨ts', h⟩ o).tag o.pos).bind fun r => match r.1.wf (lt (r.2.app h).length) && r.2.wf (lt h.length) with
        | true => regSeq P w0 eqT ctr call ops l ⟨putA ts' o.dst r.1, r.2.app h⟩
        | false => .fail).holds fun s => K s.ts ∧ s.h = h := by
      intro ts' hh
      split at hh
      · rename_i t he
        rw [T.holds_bind] at hh ⊢
        rw [opT_pure he]
        refine holds_tag' ((T.holds_map _ _ _).2 (T.mono (fun x hx => ?_) _ (T.holds_tag hh)))
        split at hx
        · rename_i hw
          have e2 : (x.wf (lt (Eff.none.app h).length) && Eff.none.wf (lt h.length)) = true := by
            show (x.wf (lt h.length) && true) = true
            rw [hw]; rfl
          rw [e2]
          exact regSeqB_seq hx
        · exact hx.elim
      · exact hh.elim
    have no : ∀ ts', (regSeqB P eqT h.length ops l (putA ts' o.dst .undef)).holds K → (regSeq P w0 eqT ctr call ops l ⟨putA ts' o.dst .undef, h⟩).holds fun s => K s.ts ∧ s.h = h := fun ts' hh => regSeqB_seq hh
    exact want_map hk (fun ts' _ => yes ts') (fun ts' _ => no ts')
theorem mergeB_ok {β : Type} {K : β → Prop} {k : Nat} : ∀ {t : T (List AV)} {f : Bool → T β}, (mergeB k t f).holds K → ∃ b, (f b).holds K ∧ t.holds fun ts => ∃ l, ts[k]? = some (.v (.one (.bool l b)))
  | .leaf ts, f, h => by
    unfold mergeB at h
    split at h
    · rename_i l b hb
      exact ⟨b, h, l, hb⟩
    · exact h.elim
  | .br c t e, f, h => by
    unfold mergeB at h
    obtain ⟨bt, h1, ht⟩ := mergeB_ok h
    obtain ⟨be, h2, he⟩ := mergeB_ok h1
    exact ⟨_, h2, fun hc => by subst hc; exact ht, fun hc => by subst hc; exact he⟩
  | .chk p t, f, h => h.elim
  | .all f', f, h => h.elim
  | .fail s, f, h => h.elim
theorem blank_at : ∀ (ops : List Oper) (ts : List AV) (j : Nat) (x : AV), (blank ops ts)[j]? = some x → x = .any ∨ ((∀ o ∈ ops, o.dst ≠ some j) ∧ ts[j]? = some x)
  | [], ts, j, x, h => .inr ⟨fun _ h => by (cases h), h⟩
  | o :: l, ts, j, x, h => by
    unfold blank at h
    cases hd : o.dst with
    | none =>
      rw [hd] at h
      rcases blank_at l ts j x h with h1 | ⟨h1, h2⟩
      · exact .inl h1
      · refine .inr ⟨fun o' ho' => ?_, h2⟩
        rcases List.mem_cons.1 ho' with rfl | h3
        · rw [hd]; exact fun e => by cases e
        · exact h1 o' h3
    | some t =>
      rw [hd] at h
      simp only [putA, List.getElem?_set] at h
      split at h
      · split at h
        · cases h; exact .inl rfl
        · cases h
      · rename_i hne
        rcases blank_at l ts j x h with h1 | ⟨h1, h2⟩
        · exact .inl h1
        · refine .inr ⟨fun o' ho' => ?_, h2⟩
          rcases List.mem_cons.1 ho' with rfl | h3
          · rw [hd]; exact fun e => hne (by cases e; rfl)
          · exact h1 o' h3
theorem blank_length : ∀ (ops : List Oper) (ts : List AV), (blank ops ts).length = ts.length
  | [], ts => rfl
  | o :: l, ts => by
    unfold blank
    cases o.dst with
    | none => exact blank_length l ts
    | some t => simp [putA, blank_length l ts]
theorem merged {ops : List Oper} {ts ts' : List AV} {k : Nat} {b l : Bool} {bs : List Nat} {a : Act} {m : Nat → Bool} (ho : Off ops ts ts') (hk : ts'[k]? = some (.v (.one (.bool l b)))) (ht : TOk bs ts' a) (hw : TWf m ts') : TOk bs ((blank ops ts).set k (.v (.one (.bool false b)))) a ∧ TWf m ((blank ops ts).set k (.v (.one (.bool false b)))) := by
  have key : ∀ (j : Nat) (x : AV), ((blank ops ts).set k (.v (.one (.bool false b))))[j]? = some x → x.Is bs (a.tmps.getD j undef) ∧ x.wf m = true := by
    intro j x hx
    simp only [List.getElem?_set] at hx
    split at hx
    · rename_i e
      subst e
      split at hx
      · cases hx
        have h9 := ht.at_ k _ hk
        exact ⟨h9, rfl⟩
      · cases hx
    · rcases blank_at _ _ _ _ hx with rfl | ⟨h1, h2⟩
      · exact ⟨trivial, rfl⟩
      · have h3 := (ho.2 j h1).trans h2
        exact ⟨ht.at_ j x h3, hw x (List.mem_of_getElem? h3)⟩
  refine ⟨⟨ht.defers, by rw [ht.size, ho.1, List.length_set, blank_length], fun j x hx => (key j x hx).1⟩, fun x hx => ?_⟩
  obtain ⟨j, hj⟩ := List.getElem?_of_mem hx
  exact (key j x hj).2


theorem codeT_ok (hM : P.follows .mixedOrders = true) (hN : NamesOk P) (hE : EqOk P eqT) (hC : CtrOk P w0 ctr) (hT : CtrThere P ctr) (hcall : CallOk P w0 call) {lc : Nat → ASt → Option (Code × T (Ex × ASt))} (hL : LcOk P w0 lc) :
    ∀ (c : Code) (bs : List Nat) (s : ASt) (K : Ex × ASt → Prop) (Q : Exit → Act → World → Prop) (a : Act) (w : World), (codeT P w0 eqT ctr call lc c s).holds K → TOk bs s.ts a → TWf (lt s.h.length) s.ts → Rep (lt s.h.length) w0 bs s.h w → Comes w0 bs K Q → c.wp P Q a w := by
  intro c
  induction c with
  | skip => exact fun bs s K Q a w h ht hw R hQ => wp_skip (hQ.now h ht hw R)
  | region id ops draw =>
    intro bs s K Q a w h ht hw R hQ
    cases draw with
    | false =>
      simp only [codeT] at h
      split at h
      · split at h
        case h_2 => exact h.elim
        rename_i k hk0
        obtain ⟨b, hb, hm⟩ := mergeB_ok h
        have h1 := regSeqB_seq (w0 := w0) (ctr := ctr) (call := call) (h := s.h) (regSeqB_off (fun o ho => ho) hm)
        refine wp_region_list (regSeq_ok hN hE hC hT hcall ops _ bs s a w _ h1 ht hw R fun more s' a' w' hk ht' hw' R' => ?_)
        obtain ⟨⟨⟨l, hl⟩, ho⟩, hh⟩ := hk
        rw [hh] at hw' R'
        obtain ⟨m1, m2⟩ := merged ho hl ht' hw'
        exact hQ more .normal _ a' w' hb m1 m2 R'
      · rw [T.holds_map] at h
        exact wp_region_list (regSeq_ok hN hE hC hT hcall ops _ bs s a w _ h ht hw R fun more s' a' w' hk ht' hw' R' => hQ more .normal s' a' w' hk ht' hw' R')
    | true =>
      simp only [codeT] at h
      split at h
      · split at h
        · rename_i hsel
          rw [T.holds_map] at h
          have hm := wp_region_any (id := id) hM (mixT_ok hN hE hC hT hcall hsel (Q := fun e a w => match e with | .normal => Q .normal a w | _ => False) (fun c a w a' hq => hq.elim) ops.size _ bs s a { w with drawn := w.drawn + 1 } _ h ht hw R.drew fun more s' a' w' hk ht' hw' R' => hQ more .normal s' a' w' hk ht' hw' R')
          refine wp_mono hm fun e a w hq => ?_
          cases e <;> first | exact hq | exact hq.elim
        · exact h.elim
      rw [T.holds_bind] at h
      have hn : tailAt ops ops.size ≤ ops.size := tailAt_le ops _
      generalize hng : tailAt ops ops.size = n at *
      obtain ⟨rs, s', A, H, hK, hA, hH, hts, hwf, hsh, hx⟩ := regAny_ok (F := fun b => Like (lt s.h.length) bs b) hN hE hC hT ops _ s [] (fun _ => a) _ h (fun b hb => ht.like hb hw) hw
      simp only [List.reverse_nil, List.nil_append] at hK
      have hlen : (ops.toList.take n).length = n := by simp; omega
      rw [hlen] at hts hsh
      split at hK
      · rename_i hok
        rw [T.holds_map] at hK
        refine wp_region_any hM ?_
        have hgrow := hx.grows hn 0 n (by omega) (Nat.le_refl _)
        have hz := any_order (a0 := a) (n0 := s.h.length) hx hn hok (fun t h1 h2 => by rw [← hng] at h1; exact tailAt_last ops _ t h1 h2) (fun b => by rw [hA]) (by rw [hH]) (fun b i x hb hi r hr => by
            rw [← hb r hr]
            rw [lt_iff] at hr
            rw [List.getD_eq_getElem?_getD, List.getD_eq_getElem?_getD, List.getElem?_set_ne (by omega)]) (Q := Q) (fun b a' w' hb ha hR => ?_) n (Array.replicate ops.size false) a { w with drawn := w.drawn + 1 } (by simp) (by simp; omega) (fun j _ _ => getD_replicate_false _ _) (fun j oj hoj hl => by rw [getD_replicate_false] at hl; cases hl) ?_
        · rw [show n + (ops.size - n) = ops.size by omega] at hz
          exact hz
        · subst ha
          have hb2 : b = bs ++ b.drop bs.length := by
            apply List.ext_getElem?
            intro r
            have hlb : b.length = (H n).length := hR.len
            by_cases hr : r < s.h.length
            · have h1 := hb r (lt_iff.2 hr)
              have hr1 : r < bs.length := by rw [R.len]; exact hr
              have hr2 : r < b.length := by rw [hlb]; rw [hH] at hgrow; omega
              rw [List.getElem?_append_left hr1, List.getElem?_eq_getElem hr1, List.getElem?_eq_getElem hr2]
              rw [List.getD_eq_getElem?_getD, List.getD_eq_getElem?_getD, List.getElem?_eq_getElem hr1, List.getElem?_eq_getElem hr2] at h1
              exact congrArg some h1
            · rw [List.getElem?_append_right (by rw [R.len]; omega), List.getElem?_drop]
              congr 1
              rw [R.len]
              omega
          rw [hb2] at hR
          have hts' := hts b hb
          rw [hb2] at hts'
          rw [← hb2] at hts'
          refine regSeq_ok hN hE hC hT hcall ops _ b s' _ w' _ hK (hts b hb) hwf (by rw [hsh, hb2]; exact hR) fun more s2 a2 w2 hk2 ht2 hw2 R2 => hQ (b.drop bs.length ++ more) .normal s2 a2 w2 hk2 ?_ hw2 ?_
          · rw [← List.append_assoc, ← hb2]; exact ht2
          · rw [← List.append_assoc, ← hb2]; exact R2
        · have z : ∀ {V : Type} (wr : Nat → Option V) (b : V) (m : Nat), st wr (fun j => (Array.replicate ops.size false).getD j false) b m = b := by
            intro V wr b m
            induction m with
            | zero => rfl
            | succ m ih =>
              unfold st
              rw [if_neg (by rw [getD_replicate_false]; simp)]
              exact ih
          obtain ⟨bx, hbx, hR⟩ := rooms (news rs) R.drew
          refine ⟨rfl, rfl, bx, Text.room H rs 0, hbx, ?_, Shape.refl _, fun r k k' g g' q c hq => ?_, fun t ht' => ?_⟩
          · unfold Text.room
            rw [List.drop_zero, hH]
            refine hR.congr fun r => ?_
            rw [Bool.eq_iff_iff, mask_iff, lt_iff]
            constructor
            · exact fun h => .inl h
            · rintro (h | ⟨j, _, h, _⟩)
              · exact h
              · rw [getD_replicate_false] at h; cases h
          · rw [z]
            rw [g] at g'
            cases g'
            exact hq
          · rw [z]
            simp [ht']
      · exact hK.elim
  | seq x y ihx ihy =>
    intro bs s K Q a w h ht hw R hQ
    simp only [codeT] at h
    split at h
    · rename_i body' t hl
      obtain ⟨e, h⟩ := h
      subst e
      unfold cutAt at hl
      split at hl
      · exact hL _ s _ t hl bs K Q a w h ht hw R hQ
      · cases hl
    · rw [T.holds_bind] at h
      refine wp_seq (ihx bs s _ _ a w h ht hw R ?_)
      intro more e s' a' w' hk ht' hw' R'
      cases e with
      | normal => exact ihy (bs ++ more) s' K Q a' w' hk ht' hw' R' (hQ.more more)
      | exit id => exact hQ more (.exit id) s' a' w' hk ht' hw' R'
      | ret => exact hQ more .ret s' a' w' hk ht' hw' R'
      | goto l => exact hQ more (.goto l) s' a' w' hk ht' hw' R'
  | cond c x y ihx ihy =>
    intro bs s K Q a w h ht hw R hQ
    simp only [codeT] at h
    split at h
    · rename_i l b hc
      have e1 := ht.opd c
      rw [hc] at e1
      have e1' : a.eval c = .bool b := e1
      rcases fork_holds h with ⟨hb, h⟩ | ⟨hb, h⟩
      · exact wp_cond_true (by rw [e1', hb]) (ihx bs _ K Q a w h (knowsO_ok ht hc hb) (knowsO_wf hw _ _ _) R hQ)
      · exact wp_cond_false (by rw [e1', hb]) (ihy bs _ K Q a w h (knowsO_ok ht hc hb) (knowsO_wf hw _ _ _) R hQ)
    · exact h.elim
  | block id body ih =>
    intro bs s K Q a w h ht hw R hQ
    have close : Comes w0 bs (fun r => K (match r.1 with | .exit id' => if id' = id then (.normal, r.2) else r | _ => r)) (Exit.inBlock id Q) := by
      intro more e s' a' w' hk ht' hw' R'
      cases e with
      | normal => exact hQ more .normal s' a' w' hk ht' hw' R'
      | ret => exact hQ more .ret s' a' w' hk ht' hw' R'
      | goto l => exact hQ more (.goto l) s' a' w' hk ht' hw' R'
      | exit id' =>
        simp only at hk
        simp only [exOf, Exit.inBlock]
        split at hk
        · rename_i e
          rw [if_pos e]
          exact hQ more .normal s' a' w' hk ht' hw' R'
        · rename_i e
          rw [if_neg e]
          exact hQ more (.exit id') s' a' w' hk ht' hw' R'
    simp only [codeT] at h
    split at h
    · rename_i body' t hl
      obtain ⟨e, h⟩ := h
      rw [T.holds_map] at h
      subst e
      exact wp_block (hL id s body t hl bs _ _ a w h ht hw R close)
    · rw [T.holds_map] at h
      exact wp_block (ih bs s _ _ a w h ht hw R close)
  | loop body ih =>
    intro bs s K Q a w h ht hw R hQ
    simp only [codeT] at h
    exact wp_loop_rounds 300 (iter_ok ih 300 bs s a w h ht hw R hQ)
  | scope body ih =>
    intro bs s K Q a w h ht hw R hQ
    simp only [codeT] at h
    split at h
    · rename_i body' t hl
      obtain ⟨e, h⟩ := h
      rw [e]
      exact hL 777 s body' t hl bs K Q a w h ht hw R hQ
    · rw [T.holds_bind] at h
      refine wp_scope_straight (ih bs s _ _ a w h ht hw R ?_)
      intro more e s' a' w' hk ht' hw' R'
      cases e with
      | normal => exact hQ more .normal s' a' w' hk ht' hw' R'
      | exit id => exact hQ more (.exit id) s' a' w' hk ht' hw' R'
      | ret => exact hQ more .ret s' a' w' hk ht' hw' R'
      | goto l => exact hk.elim
  | exit id => exact fun bs s K Q a w h ht hw R hQ => wp_exit (hQ.now (e := .exit id) h ht hw R)
  | ret => exact fun bs s K Q a w h ht hw R hQ => wp_ret (hQ.now (e := .ret) h ht hw R)
  | rangeFunc => exact fun bs s K Q a w h => h.elim
  | label l => exact fun bs s K Q a w h ht hw R hQ => wp_label (hQ.now h ht hw R)
  | goto l => exact fun bs s K Q a w h ht hw R hQ => wp_goto (hQ.now (e := .goto l) h ht hw R)
  | refuse => exact fun bs s K Q a w h => h.elim
end

/-! ### Calls -/
def resSem (tmps : Array Value) : ResultVar → Sem Value
  | .tmp t => pure (tmps.getD t undef)
  | .cell a t => do loadVar t (← asAddr (tmps.getD a undef))
theorem resT_ok {P : Program} {w0 : World} {bs : List Nat} {s : ASt} {r : ResultVar} {K : AV → Prop} (h : (resT P w0 s r).holds K) {a : Act} {w : World} (ht : TOk bs s.ts a) (R : Rep (lt s.h.length) w0 bs s.h w) :
    ∃ x : V, K (.v x) ∧ (resSem a.tmps r).run P w = .ok (x.γ bs) w := by
  cases r with
  | tmp t =>
    simp only [resT] at h
    split at h
    · rename_i x hx
      have h1 := ht.at_ t _ hx
      have h2 : a.tmps.getD t undef = x.γ bs := h1
      exact ⟨x, h, by simp only [resSem, h2]; rfl⟩
    · exact h.elim
  | cell t ty =>
    simp only [resT] at h
    split at h
    · rename_i x hx
      rw [T.holds_map] at h
      obtain ⟨v, e, hK, hf, hw, hid, hmo, hne, ⟨hag, hft⟩, hn, hrun⟩ := loadT_run h
      obtain ⟨ad, hu, hr⟩ := hrun bs _ (ht.at_ t _ hx) (lt s.h.length) s.h w hag hft R
      exact ⟨v, hK, by simp only [resSem, hu, asAddr, Sem.run_bind, Sem.run_pure, Result.andThen_ok, hr]⟩
    · exact h.elim
theorem resAll_ok {P : Program} {w0 : World} {bs : List Nat} {s : ASt} {a : Act} {w : World} (ht : TOk bs s.ts a) (R : Rep (lt s.h.length) w0 bs s.h w) : ∀ (l : List ResultVar) (K : List V → Prop), (resAll P w0 s l).holds K →
    ∃ xs : List V, K xs ∧ (l.mapM (resSem a.tmps)).run P w = .ok (xs.map (V.γ bs)) w
  | [], K, h => ⟨[], h, by simp⟩
  | r :: l, K, h => by
    unfold resAll at h
    rw [T.holds_bind] at h
    obtain ⟨x, hx, hr⟩ := resT_ok h ht R
    simp only [T.holds_map] at hx
    obtain ⟨xs, hxs, hrs⟩ := resAll_ok ht R l _ hx
    exact ⟨x :: xs, hxs, by simp only [List.mapM_cons, Sem.run_bind, hr, Result.andThen_ok, hrs, Sem.run_pure, List.map_cons]⟩
theorem run_results {P : Program} {bs : List Nat} {fn : Func} {tmps : Array Value} {w : World} {xs : List V} (h : (fn.results.toList.mapM (resSem tmps)).run P w = .ok (xs.map (V.γ bs)) w) :
    (results fn tmps).run P w = .ok (match xs with | [x] => x.γ bs | xs => .tuple (xs.map (V.γ bs)).toArray) w := by
  have e : results fn tmps = (do
      let vs ← fn.results.mapM (resSem tmps)
      pure (if h : vs.size = 1 then vs[0] else .tuple vs)) := by
    unfold results
    congr 1
  rw [e]
  simp only [Sem.run_bind, Array.mapM_eq_mapM_toList, Sem.run_map, h, Result.andThen_ok, Sem.run_pure]
  congr 1
  match xs with
  | [] => rfl
  | [x] => rfl
  | x :: y :: r => simp

def LcsOk (P : Program) (w0 : World) (lc : FuncId → Nat → ASt → Option (Code × T (Ex × ASt))) : Prop := ∀ f, LcOk P w0 (lc f)

/-- What is told of a call from without. -/
def PreOk (P : Program) (w0 : World) (pre : FuncId → List AV → List Blk → Option (T (AV × List Blk))) : Prop := ∀ f args h t, pre f args h = some t → CallOne P w0 f args h t
theorem bodyT_ok {P : Program} {w0 : World} {eqT : TypeId → Bool} {ctr : FuncId → List AV → List Blk → Option (T AV × Option Nat)} {call : FuncId → List AV → List Blk → T (AV × List Blk)} {lc : FuncId → Nat → ASt → Option (Code × T (Ex × ASt))}
    (hM : P.follows .mixedOrders = true) (hN : NamesOk P) (hE : EqOk P eqT) (hC : CtrOk P w0 ctr) (hT : CtrThere P ctr) (hcall : CallOk P w0 call) (hL : LcsOk P w0 lc) (f : FuncId) (args : List AV) (h : List Blk) : CallOne P w0 f args h (bodyT P w0 eqT ctr call lc f args h) := fun K hK => by
  unfold bodyT at hK
  split at hK
  · rename_i fn hf
    split at hK
    · rename_i c hb
      refine ⟨⟨fn, hf, by rw [hb]; rfl⟩, fun bs us hlen hus w R => ?_⟩
      rw [T.holds_bind] at hK
      refine calls_of_wp hf hb (codeT_ok hM hN hE hC hT hcall (hL f) c bs _ _ _ _ w hK ⟨rfl, by simp [hlen], fun t x hx => ?_⟩ (fun x hx => ?_) R ?_)
      · rw [List.getElem?_append] at hx
        have e : (us.toArray ++ Array.replicate (fn.ntmps - us.toArray.size) undef).getD t undef = us.getD t undef := by
          rw [Array.getD_eq_getD_getElem?, Array.getElem?_append, List.getD_eq_getElem?_getD]
          simp only [List.size_toArray, List.getElem?_toArray]
          by_cases hlt : t < us.length
          · rw [if_pos hlt]
          · rw [if_neg hlt, List.getElem?_eq_none (by omega)]
            by_cases h2 : t - us.length < fn.ntmps - us.length
            · simp [h2]
            · simp [h2]
        rw [e]
        split at hx
        · exact (hus t x hx).1
        · rename_i hlt
          rw [List.getElem?_replicate] at hx
          split at hx
          · cases hx
            show us.getD t undef = undef
            rw [List.getD_eq_getElem?_getD, List.getElem?_eq_none (by omega)]
            rfl
          · cases hx
      · rcases List.mem_append.1 hx with h1 | h1
        · obtain ⟨j, hj, e⟩ := List.getElem_of_mem h1
          exact (hus j x (by rw [List.getElem?_eq_getElem hj, e])).2
        · rw [List.eq_of_mem_replicate h1]; rfl
      · intro more e s a' w' hk ht' hw' R'
        have fin : (resAll P w0 s fn.results.toList).holds (fun vs => K (match vs with | [x] => (.v x, s.h) | vs => (.tuple vs, s.h))) → a'.defers = [] ∧ ∃ v, (results fn a'.tmps).run P w' = .ok v w' ∧ ∃ u x h' more, Ending.returned v = .returned u ∧ K (x, h') ∧ x.Is (bs ++ more) u ∧ Rep (lt h'.length) w0 (bs ++ more) h' w' := by
          intro hh
          obtain ⟨xs, hxs, hr⟩ := resAll_ok ht' R' _ _ hh
          refine ⟨ht'.defers, _, run_results hr, ?_⟩
          match xs, hxs with
          | [], hxs => exact ⟨_, _, _, more, rfl, hxs, rfl, R'⟩
          | [x], hxs => exact ⟨_, _, _, more, rfl, hxs, rfl, R'⟩
          | x :: y :: r, hxs => exact ⟨_, _, _, more, rfl, hxs, rfl, R'⟩
        cases e with
        | exit id => exact hk.elim
        | goto l => exact hk.elim
        | normal => exact fin (T.mono (fun vs hv => by match vs, hv with | [], hv => exact hv | [x], hv => exact hv | x :: y :: r, hv => exact hv) _ ((T.holds_map _ _ _).1 hk))
        | ret => exact fin (T.mono (fun vs hv => by match vs, hv with | [], hv => exact hv | [x], hv => exact hv | x :: y :: r, hv => exact hv) _ ((T.holds_map _ _ _).1 hk))
    · exact hK.elim
  · exact hK.elim

theorem callT_ok {P : Program} {w0 : World} {eqT : TypeId → Bool} {ctr : FuncId → List AV → List Blk → Option (T AV × Option Nat)} {pre : FuncId → List AV → List Blk → Option (T (AV × List Blk))} {lc : FuncId → Nat → ASt → Option (Code × T (Ex × ASt))}
    (hM : P.follows .mixedOrders = true) (hN : NamesOk P) (hE : EqOk P eqT) (hC : CtrOk P w0 ctr) (hT : CtrThere P ctr) (hP : PreOk P w0 pre) (hL : LcsOk P w0 lc) : ∀ n, CallOk P w0 (callT P w0 eqT ctr pre lc n)
  | 0 => fun f args h K hK => hK.elim
  | n + 1 => fun f args h K hK => by
    unfold callT at hK
    split at hK
    · rename_i t ht
      exact hP f args h t ht K hK
    · exact bodyT_ok hM hN hE hC hT (callT_ok hM hN hE hC hT hP hL n) hL f args h K hK
end Go.Proofs.Ytmbahohmiecfiaa.sym
