/-
  A region whose order is drawn: its operations, walked once in the order of the text, come to the same in whatever order the edges let. No conditions but those that stand in each theorem.
-/
import Derived.Test.YtmbahohmiecfiaaSym5
namespace Go.Proofs.Ytmbahohmiecfiaa.sym
open Go.RowKit
set_option linter.unusedVariables false
set_option linter.unusedSimpArgs false

/-! ### What stands at a place behind some of the writes, taken in the text's order -/
def st {V : Type} (w : Nat → Option V) (f : Nat → Bool) (base : V) : Nat → V
  | 0 => base
  | n + 1 => if f n then (w n).getD (st w f base n) else st w f base n
theorem st_congr {V : Type} (w : Nat → Option V) (f g : Nat → Bool) (base : V) : ∀ n, (∀ j, j < n → w j ≠ none → f j = g j) → st w f base n = st w g base n
  | 0, _ => rfl
  | n + 1, h => by
    have ih := st_congr w f g base n fun j hj => h j (by omega)
    simp only [st]
    rw [ih]
    cases hw : w n with
    | none => simp
    | some v => rw [h n (by omega) (by simp [hw])]
theorem st_upto {V : Type} (w : Nat → Option V) (base : V) (i : Nat) : ∀ n, i ≤ n → st w (fun j => decide (j < i)) base n = st w (fun _ => true) base i
  | 0, h => by
    have : i = 0 := by omega
    subst this; rfl
  | n + 1, h => by
    by_cases e : i = n + 1
    · subst e
      exact st_congr _ _ _ _ _ fun j hj _ => by simp [hj]
    · simp only [st]
      rw [if_neg (by simp; omega)]
      exact st_upto w base i n (by omega)
theorem st_none {V : Type} (w : Nat → Option V) (f : Nat → Bool) (base : V) (i n : Nat) (hi : w i = none) : st w (fun j => if j = i then true else f j) base n = st w f base n :=
  st_congr _ _ _ _ _ fun j hj hw => by
    by_cases e : j = i
    · subst e; exact absurd hi hw
    · simp [e]
theorem st_some {V : Type} (w : Nat → Option V) (f : Nat → Bool) (base : V) (i : Nat) (v : V) (hi : w i = some v) : ∀ n, i < n → (∀ j, i < j → j < n → f j = true → w j = none) → st w (fun j => if j = i then true else f j) base n = v
  | 0, h, _ => by omega
  | n + 1, h, hj => by
    simp only [st]
    by_cases e : n = i
    · subst e; simp [hi]
    · have ih := st_some w f base i v hi n (by omega) fun j h1 h2 => hj j h1 (by omega)
      simp only [e, if_false, ih]
      cases hf : f n with
      | false => simp
      | true => simp [hj n (by omega) (by omega) hf]

/-! ### The text's order, as the walk by computing has it -/
section
variable {P : Program} {w0 : World} {eqT : TypeId → Bool} {ctr : FuncId → List AV → List Blk → Option (T AV × Option Nat)}

theorem knows_ok {F : List Nat → Prop} {A : List Nat → Act} {ts : List AV} (ht : ∀ b, F b → TOk b ts (A b)) {l b b' : Bool} {t : Tmp} (hb : ts[t]? = some (.v (.one (.bool l b)))) (e : b = b') : ∀ bx, F bx → TOk bx (knows l ts t b') (A bx) :=
  fun bx hx => (ht bx hx).knows hb e
/-- Whether an operation is wanted, whatever numbers the blocks have. -/
theorem wantT_ok {α : Type} {ops : Array Oper} {ts : List AV} {o : Oper} {yes no : List AV → T α} {K : α → Prop} {F : List Nat → Prop} {A : List Nat → Act} (h : (wantT ops ts o yes no).holds K) (ht : ∀ b, F b → TOk b ts (A b)) :
    (∃ ts', (∀ b, F b → TOk b ts' (A b) ∧ Region.wanted o (yielded ops (A b).tmps) = true) ∧ (∀ m, TWf m ts → TWf m ts') ∧ (yes ts').holds K) ∨
    (∃ ts', (∀ b, F b → TOk b ts' (A b) ∧ Region.wanted o (yielded ops (A b).tmps) = false) ∧ (∀ m, TWf m ts → TWf m ts') ∧ (no ts').holds K) := by
  unfold wantT at h
  split at h
  · rename_i hg
    exact .inl ⟨ts, fun b hb => ⟨ht b hb, by unfold Region.wanted; rw [hg]⟩, fun _ h => h, h⟩
  · rename_i g want hg
    have key : ∀ (b : List Nat) (t : Tmp) (hd : (ops[g]?).bind (·.dst) = some t) (v : Value), (A b).tmps[t]? = some v → Region.wanted o (yielded ops (A b).tmps) = ((match v with | .bool b => some b | _ => none) == some want) := by
      intro b t hd v hv
      unfold Region.wanted
      rw [hg]
      simp only [yielded, hd, Option.bind_some, hv]
      cases v <;> rfl
    have slot : ∀ (b : List Nat), F b → ∀ (t : Nat) (x : AV), ts[t]? = some x → x ≠ .any → (A b).tmps[t]? = some (x.γ b) := by
      intro b hb t x hx hn
      have h1 := (ht b hb).at_ t x hx
      have hlt : t < (A b).tmps.size := by rw [(ht b hb).size]; exact (List.getElem?_eq_some_iff.1 hx).1
      have h2 := h1.eq hn
      rw [Array.getD, dif_pos hlt] at h2
      rw [Array.getElem?_eq_getElem hlt]
      exact congrArg some h2
    split at h
    · rename_i hd
      exact .inr ⟨ts, fun b hb => ⟨ht b hb, by unfold Region.wanted; rw [hg]; simp [yielded, hd]⟩, fun _ h => h, h⟩
    · rename_i t hd
      split at h
      · rename_i hn
        refine .inr ⟨ts, fun b hb => ⟨ht b hb, ?_⟩, fun _ h => h, h⟩
        have hsz : (A b).tmps.size ≤ t := by rw [(ht b hb).size]; exact List.getElem?_eq_none_iff.1 hn
        unfold Region.wanted
        rw [hg]
        simp [yielded, hd, hsz]
      · rename_i l b hb
        have hs := fun bx hx => key bx t hd _ (slot bx hx t _ hb (by simp))
        simp only [AV.γ, V.γ, Sc.γ] at hs
        split at h
        · rcases fork_holds h with ⟨e, h⟩ | ⟨e, h⟩
          · exact .inl ⟨_, fun bx hx => ⟨knows_ok ht hb e bx hx, by rw [hs bx hx]; simp [e]⟩, fun m hm => hm.knows _ _ _, h⟩
          · exact .inr ⟨_, fun bx hx => ⟨knows_ok ht hb e bx hx, by rw [hs bx hx]; simp [e]⟩, fun m hm => hm.knows _ _ _, h⟩
        · rcases fork_holds h with ⟨e, h⟩ | ⟨e, h⟩
          · exact .inr ⟨_, fun bx hx => ⟨knows_ok ht hb e bx hx, by rw [hs bx hx]; simp [e]⟩, fun m hm => hm.knows _ _ _, h⟩
          · exact .inl ⟨_, fun bx hx => ⟨knows_ok ht hb e bx hx, by rw [hs bx hx]; simp [e]⟩, fun m hm => hm.knows _ _ _, h⟩
      · rename_i hb
        refine .inr ⟨ts, fun b hx => ⟨ht b hx, ?_⟩, fun _ h => h, h⟩
        rw [key b t hd _ (slot b hx t _ hb (by simp))]
        rfl
      · exact h.elim

/-- What the text's order comes to, place by place, whatever numbers the new blocks have. -/
structure Text (P : Program) (w0 : World) (F : List Nat → Prop) (ops : Array Oper) (l : List Oper) (rs : List Rec) (A : Nat → List Nat → Act) (H : Nat → List Blk) : Prop where
  len : rs.length = l.length
  at_ : ∀ i o r, l[i]? = some o → rs[i]? = some r → (A (i + 1) = fun b => (A i b).put o.dst (r.v.γ b)) ∧ H (i + 1) = r.eff.app (H i) ∧ r.n = (H i).length ∧ r.v.wf (lt (H (i + 1)).length) = true ∧ r.eff.wf (lt (H i).length) = true ∧
    ((∀ h', r.eff ≠ .full h') ∧ Within (H i) r.eff) ∧ ∃ ts', (∀ b, F b → TOk b ts' (A i b)) ∧
    (r.want = true → (∀ b, F b → Region.wanted o (yielded ops (A i b).tmps) = true) ∧ Loc P w0 o ts' (H i) r.v r.eff) ∧
    (r.want = false → (∀ b, F b → Region.wanted o (yielded ops (A i b).tmps) = false) ∧ r.v = .undef ∧ r.eff = .none)

theorem app_length {h : List Blk} {e : Eff} (he : ∀ h', e ≠ .full h') : h.length ≤ (e.app h).length := by
  cases e with
  | none => exact Nat.le_refl _
  | rd => exact Nat.le_refl _
  | wr r off cs => simp only [Eff.app, updBlk_length]; exact Nat.le_refl _
  | new k => simp [Eff.app]
  | full h' => exact absurd rfl (he h')
theorem lt_mono {a b : Nat} (h : a ≤ b) : ∀ r, lt a r = true → lt b r = true := fun r hr => by rw [lt_iff] at *; omega

theorem regAny_ok {F : List Nat → Prop} (hN : NamesOk P) (hE : EqOk P eqT) (hC : CtrOk P w0 ctr) (hT : CtrThere P ctr) (ops : Array Oper) : ∀ (l : List Oper) (s : ASt) (acc : List Rec) (A0 : List Nat → Act) (K : ASt × List Rec → Prop),
    (regAny P w0 eqT ctr ops l s acc).holds K → (∀ b, F b → TOk b s.ts (A0 b)) → TWf (lt s.h.length) s.ts →
    ∃ rs s' A H, K (s', acc.reverse ++ rs) ∧ A 0 = A0 ∧ H 0 = s.h ∧ (∀ b, F b → TOk b s'.ts (A l.length b)) ∧ TWf (lt s'.h.length) s'.ts ∧ s'.h = H l.length ∧ Text P w0 F ops l rs A H
  | [], s, acc, A0, K, h, ht, hw => ⟨[], s, fun _ => A0, fun _ => s.h, by simpa [regAny, T.holds] using h, rfl, rfl, ht, hw, rfl, ⟨rfl, fun i o r hi => by simp at hi⟩⟩
  | o :: rest, s, acc, A0, K, h, ht, hw => by
    unfold regAny at h
    have close : ∀ (r : Rec) (ts' : List AV) (s1 : ASt), (∀ b, F b → TOk b ts' (A0 b)) → s1.h = r.eff.app s.h → (∀ b, F b → TOk b s1.ts ((A0 b).put o.dst (r.v.γ b))) → TWf (lt s1.h.length) s1.ts → (regAny P w0 eqT ctr ops rest s1 (r :: acc)).holds K →
        r.n = s.h.length → r.v.wf (lt s1.h.length) = true → r.eff.wf (lt s.h.length) = true → ((∀ h', r.eff ≠ .full h') ∧ Within s.h r.eff) →
        (r.want = true → (∀ b, F b → Region.wanted o (yielded ops (A0 b).tmps) = true) ∧ Loc P w0 o ts' s.h r.v r.eff) → (r.want = false → (∀ b, F b → Region.wanted o (yielded ops (A0 b).tmps) = false) ∧ r.v = .undef ∧ r.eff = .none) →
        ∃ rs s' A H, K (s', acc.reverse ++ rs) ∧ A 0 = A0 ∧ H 0 = s.h ∧ (∀ b, F b → TOk b s'.ts (A (o :: rest).length b)) ∧ TWf (lt s'.h.length) s'.ts ∧ s'.h = H (o :: rest).length ∧ Text P w0 F ops (o :: rest) rs A H := by
      intro r ts' s1 ht' hs1 hts1 hw1 h1 hn hvw hew hfw hwa hnw
      obtain ⟨rs, s', A, H, hK, hA, hH, hfin, hfw', hfh, hx⟩ := regAny_ok hN hE hC hT ops rest s1 (r :: acc) _ K h1 hts1 hw1
      refine ⟨r :: rs, s', fun n => match n with | 0 => A0 | n + 1 => A n, fun n => match n with | 0 => s.h | n + 1 => H n, by simpa using hK, rfl, rfl, hfin, hfw', hfh, ⟨by simp [hx.len], fun i o' r' hi hr => ?_⟩⟩
      cases i with
      | zero =>
        simp at hi hr
        subst hi hr
        exact ⟨hA, by rw [← hs1]; exact hH, hn, by rw [← hH] at hvw; exact hvw, hew, hfw, ts', ht', hwa, hnw⟩
      | succ i =>
        exact hx.at_ i o' r' (by simpa using hi) (by simpa using hr)
    rcases wantT_ok h ht with ⟨ts', ht', hw', h⟩ | ⟨ts', ht', hw', h⟩
    · rw [T.holds_bind] at h
      obtain ⟨x, e, hx, hl⟩ := locT_ok hN hE hC hT ⟨ts', s.h⟩ o _ (T.holds_tag h)
      simp only at hx
      split at hx
      · rename_i hwf
        simp only [Bool.and_eq_true] at hwf
        exact close ⟨x, true, e, s.h.length⟩ ts' ⟨putA ts' o.dst x, e.app s.h⟩ (fun b hb => (ht' b hb).1) rfl (fun b hb => (ht' b hb).1.put o.dst (AV.is_refl b x)) (((hw' _ hw).mono (lt_mono (app_length hl.1.2.1))).put o.dst hwf.1) hx rfl hwf.1 hwf.2 ⟨hl.1.2.1, hl.1.2.2⟩ (fun _ => ⟨fun b hb => (ht' b hb).2, hl⟩) (fun h => by cases h)
      · exact hx.elim
    · exact close ⟨.undef, false, .none, s.h.length⟩ ts' ⟨putA ts' o.dst .undef, s.h⟩ (fun b hb => (ht' b hb).1) rfl (fun b hb => (ht' b hb).1.put o.dst (AV.is_refl b .undef)) ((hw' _ hw).put o.dst rfl) h rfl rfl rfl ⟨fun h' e => by (cases e), trivial⟩ (fun h => by cases h) (fun _ => ⟨fun b hb => (ht' b hb).2, rfl, rfl⟩)

/-! ### Edges -/
def Closed (ops : Array Oper) (listed : Array Bool) : Prop := ∀ j oj, ops[j]? = some oj → listed.getD j false = true → ∀ e ∈ oj.after, Region.binds .any e = true → listed.getD e.on false = true
theorem ancE_bit {acc : List Nat} {j : Nat} : ∀ (l : List Edge), (ancE acc l).testBit j = true → ∃ e ∈ l, Region.binds .any e = true ∧ (e.on = j ∨ (acc.getD e.on 0).testBit j = true)
  | [], h => by simp [ancE] at h
  | e :: r, h => by
    unfold ancE at h
    split at h
    · rename_i hb
      simp only [Nat.testBit_or, Bool.or_eq_true] at h
      rcases h with (h | h) | h
      · refine ⟨e, by simp, hb, .inl ?_⟩
        rw [Nat.testBit_two_pow] at h
        simpa using h
      · exact ⟨e, by simp, hb, .inr h⟩
      · obtain ⟨e', h1, h2⟩ := ancE_bit r h
        exact ⟨e', by simp [h1], h2⟩
    · obtain ⟨e', h1, h2⟩ := ancE_bit r h
      exact ⟨e', by simp [h1], h2⟩
/-- What the list of bits is, place by place. -/
theorem ancs_at : ∀ (l : List Oper) (acc : List Nat), ∃ rest : List Nat, ancs l acc = acc ++ rest ∧ rest.length = l.length ∧ ∀ i o, l[i]? = some o → rest[i]? = some (ancE (acc ++ rest.take i) o.after.toList)
  | [], acc => ⟨[], by simp [ancs], rfl, fun i o h => by simp at h⟩
  | o :: l, acc => by
    obtain ⟨rest, h1, h2, h3⟩ := ancs_at l (acc ++ [ancE acc o.after.toList])
    refine ⟨ancE acc o.after.toList :: rest, by simp [ancs, h1], by simp [h2], fun i o' hi => ?_⟩
    cases i with
    | zero => simp at hi; subst hi; simp
    | succ i =>
      have := h3 i o' (by simpa using hi)
      simpa using this
theorem anc_step {ops : Array Oper} {i j : Nat} (h : anc ops i j = true) : ∃ o e, ops[i]? = some o ∧ e ∈ o.after ∧ Region.binds .any e = true ∧ (e.on = j ∨ (e.on < i ∧ anc ops e.on j = true)) := by
  unfold anc at h
  obtain ⟨rest, h1, h2, h3⟩ := ancs_at ops.toList []
  simp only [List.nil_append] at h1 h3
  rw [h1] at h
  by_cases hi : i < ops.size
  · have ho : ops.toList[i]? = some (ops[i]'hi) := by simp
    have hr := h3 i _ ho
    rw [List.getD_eq_getElem?_getD, hr] at h
    obtain ⟨e, he, hb, hh⟩ := ancE_bit _ h
    refine ⟨ops[i], e, by simp, by simpa using he, hb, ?_⟩
    rcases hh with hh | hh
    · exact .inl hh
    · right
      by_cases hlt : e.on < i
      · refine ⟨hlt, ?_⟩
        unfold anc
        rw [h1]
        rw [List.getD_eq_getElem?_getD, List.getElem?_take, if_pos hlt] at hh
        rw [List.getD_eq_getElem?_getD]
        exact hh
      · rw [List.getD_eq_getElem?_getD, List.getElem?_take, if_neg hlt] at hh
        simp at hh
  · rw [List.getD_eq_getElem?_getD, List.getElem?_eq_none (by rw [h2]; simpa using hi)] at h
    simp at h
theorem anc_listed {ops : Array Oper} {listed : Array Bool} (hc : Closed ops listed) {i : Nat} : ∀ (n j : Nat), j ≤ n → anc ops j i = true → (∀ oj, ops[j]? = some oj → ∀ e ∈ oj.after, Region.binds .any e = true → listed.getD e.on false = true) → listed.getD i false = true := by
  intro n
  induction n with
  | zero =>
    intro j hj h hr
    obtain ⟨o, e, ho, he, hb, hh⟩ := anc_step h
    rcases hh with hh | ⟨hh, _⟩
    · rw [← hh]; exact hr o ho e he hb
    · omega
  | succ n ih =>
    intro j hj h hr
    obtain ⟨o, e, ho, he, hb, hh⟩ := anc_step h
    have hl := hr o ho e he hb
    rcases hh with hh | ⟨hlt, hh⟩
    · rw [← hh]; exact hl
    · exact ih e.on (by omega) hh fun oj hoj => hc e.on oj hoj hl

theorem okAfter_at {ops : Array Oper} {i : Nat} {o : Oper} {e : Rec} : ∀ (l : List Oper) (rs : List Rec) (j0 : Nat), okAfter ops i o e j0 l rs = true → ∀ j o' r', l[j]? = some o' → rs[j]? = some r' → pairOk ops i (j0 + j) o o' e r' = true
  | [], rs, j0, _, j, o', r', hj, _ => by simp at hj
  | _ :: _, [], j0, _, j, o', r', _, hr => by simp at hr
  | o1 :: l, r1 :: rs, j0, h, j, o', r', hj, hr => by
    simp only [okAfter, Bool.and_eq_true] at h
    cases j with
    | zero => simp at hj hr; subst hj hr; exact h.1
    | succ j =>
      have := okAfter_at l rs (j0 + 1) h.2 j o' r' (by simpa using hj) (by simpa using hr)
      rwa [show j0 + 1 + j = j0 + (j + 1) by omega] at this
theorem okOrder_at {ops : Array Oper} : ∀ (l : List Oper) (rs : List Rec) (i0 : Nat), okOrder ops i0 l rs = true → ∀ i o r, l[i]? = some o → rs[i]? = some r →
    edgesOk (i0 + i) o = true ∧ ∀ j o' r', i < j → l[j]? = some o' → rs[j]? = some r' → pairOk ops (i0 + i) (i0 + j) o o' r r' = true
  | [], rs, i0, _, i, o, r, hi, _ => by simp at hi
  | _ :: _, [], i0, _, i, o, r, _, hr => by simp at hr
  | o1 :: l, r1 :: rs, i0, h, i, o, r, hi, hr => by
    simp only [okOrder, Bool.and_eq_true] at h
    cases i with
    | zero =>
      simp at hi hr
      subst hi hr
      refine ⟨h.1.1, fun j o' r' hj hl hr' => ?_⟩
      cases j with
      | zero => omega
      | succ j =>
        have := okAfter_at l rs (i0 + 1) h.1.2 j o' r' (by simpa using hl) (by simpa using hr')
        rwa [show i0 + 1 + j = i0 + (j + 1) by omega] at this
    | succ i =>
      obtain ⟨h1, h2⟩ := okOrder_at l rs (i0 + 1) h.2 i o r (by simpa using hi) (by simpa using hr)
      rw [show i0 + 1 + i = i0 + (i + 1) by omega] at h1 h2
      refine ⟨h1, fun j o' r' hj hl hr' => ?_⟩
      cases j with
      | zero => omega
      | succ j =>
        have := h2 j o' r' (by omega) (by simpa using hl) (by simpa using hr')
        rwa [show i0 + 1 + j = i0 + (j + 1) by omega] at this
end
end Go.Proofs.Ytmbahohmiecfiaa.sym
