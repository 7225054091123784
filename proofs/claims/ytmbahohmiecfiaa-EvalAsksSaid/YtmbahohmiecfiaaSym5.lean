/-
  What the walk by computing says of one operation is so: all operations that make no memory, under one name. Told from without: which aggregates are compared cell by cell, and contracts of functions.
-/
import Derived.Test.YtmbahohmiecfiaaSym4
namespace Go.Proofs.Ytmbahohmiecfiaa.sym
open Go.RowKit
set_option linter.unusedVariables false
set_option linter.unusedSimpArgs false

theorem binT_ne {P eqT op t x y} {K : AV → Prop} (h : (binT P eqT op t x y).holds K) : x ≠ .any ∧ y ≠ .any := by
  unfold binT at h
  split at h <;> simp_all [T.holds]
theorem unT_ne {op x} {K : AV → Prop} (h : (unT op x).holds K) : x ≠ .any := by
  unfold unT at h
  split at h <;> simp_all [T.holds]
theorem convT_ne {P s d x} {K : AV → Prop} (h : (convT P s d x).holds K) : x ≠ .any := by
  unfold convT at h
  split at h <;> simp_all [T.holds]
theorem fieldT_ne {P s f x} {K : AV → Prop} (h : (fieldT P s x f).holds K) : x ≠ .any := by
  unfold fieldT at h
  split at h <;> simp_all [T.holds]
theorem indexT_ne {P t x i} {K : AV → Prop} (h : (indexT P t x i).holds K) : x ≠ .any ∧ i ≠ .any := by
  unfold indexT at h
  split at h <;> simp_all [T.holds]
theorem extractT_ne {x i} {K : AV → Prop} (h : (extractT x i).holds K) : x ≠ .any := by
  unfold extractT at h
  split at h <;> simp_all [T.holds]
theorem fieldAddrT_ne {P w0 s f x} {K : AV → Prop} (h : (fieldAddrT P w0 s x f).holds K) : x ≠ .any := by
  rintro rfl
  unfold fieldAddrT at h
  (repeat' split at h) <;> simp_all [T.holds]
theorem indexAddrT_ne {P w0 t x i} {K : AV → Prop} (h : (indexAddrT P w0 t x i).holds K) : x ≠ .any ∧ i ≠ .any := by
  constructor <;> rintro rfl <;> unfold indexAddrT at h <;> (repeat' split at h) <;> simp_all [T.holds]
theorem lenT_ne {P t x} {K : AV → Prop} (h : (lenT P t x).holds K) : x ≠ .any ∨ ∃ n e, P.underlying t = some (.array n e) := by
  unfold lenT at h
  split at h <;> simp_all [T.holds]
theorem minmaxT_ne {mx x y} {K : AV → Prop} (h : (minmaxT mx [x, y]).holds K) : x ≠ .any ∧ y ≠ .any := by
  unfold minmaxT at h
  split at h <;> simp_all [T.holds]

theorem sliceT_ne {P t x lo hi} {K : AV → Prop} (h : (sliceT P t x lo hi).holds K) : x ≠ .any ∧ (∀ y, lo = some y → y ≠ .any) ∧ (∀ y, hi = some y → y ≠ .any) := by
  refine ⟨?_, ?_, ?_⟩
  · rintro rfl; unfold sliceT at h; (repeat' split at h) <;> simp_all [T.holds]
  · rintro y rfl rfl; unfold sliceT at h; (repeat' split at h) <;> simp_all [T.holds, bnd]
  · rintro y rfl rfl; unfold sliceT at h; (repeat' split at h) <;> simp_all [T.holds, bnd]
theorem capT_ne {P t x} {K : AV → Prop} (h : (capT P t x).holds K) : x ≠ .any := by
  unfold capT at h
  split at h <;> simp_all [T.holds]
theorem Loc.of_pure {P : Program} {w0 : World} {o : Oper} {ts : List AV} {h : List Blk} {x : AV} (hx : x ≠ .any)
    (hr : ∀ (bs : List Nat) (ev : Operand → Value), (∀ y ∈ o.op.operands, (opd ts y).Is bs (ev y)) → ∀ w, (execOp ev o).run P w = .ok (.value (x.γ bs)) w) : Loc P w0 o ts h x .none :=
  ⟨⟨hx, (fun h' e => by cases e), trivial⟩, fun bs ev hev m h' w _ _ R => Up.value (hr bs ev hev w) ⟨bs, rfl, rfl, R⟩⟩
theorem vrun {P : Program} {s : Sem Value} {w : World} {u : Value} (h : s.run P w = .ok u w) : (do pure (Next.value (← s)) : Sem Next).run P w = .ok (.value u) w := by
  simp [Sem.run_bind, h]

theorem caps_ok {bs : List Nat} {ts : List AV} {ev : Operand → Value} : ∀ (cs : List Operand) (l : List (Nat × Nat)), (∀ x ∈ cs, (opd ts x).Is bs (ev x)) → capsOf ts cs = some l → cs.map ev = l.map (capV bs)
  | [], l, _, h => by cases h; rfl
  | x :: r, l, hev, h => by
    unfold capsOf at h
    split at h
    · rename_i r0 off l' hx hr
      cases h
      have e1 := hev x (by simp)
      rw [hx] at e1
      have e1' : ev x = .pointer (some ⟨bs.getD r0 0, off, none⟩) := e1
      simp only [List.map_cons, e1', caps_ok r l' (fun z hz => hev z (by simp [hz])) hr]
      rfl
    · cases h

theorem run_callFunc {P : Program} (hN : NamesOk P) {f : FuncId} {fn : Func} (hf : P.funcs[f]? = some fn) (hb : fn.body.isSome = true) (args : Array Value) (w : World) : (callFunc f args).run P w = .ok (.enter f args) w := by
  have hn := hN f fn hf hb
  simp only [callFunc, Sem.run_bind, run_program, Result.andThen_ok, hf]
  rw [if_neg (by simp [hn]), if_neg (by cases hh : fn.body <;> simp_all)]
  rfl
theorem exec_call {P : Program} (hN : NamesOk P) {ev : Operand → Value} {d : Option Tmp} {fo : Operand} {args : Array Operand} {ats : Array TypeId} {ty : TypeId} {pos : String} {af : Array Edge} {g : Option (Nat × Bool)} {f : FuncId} {cs : Array Value} {fn : Func}
    (hf : P.funcs[f]? = some fn) (hb : fn.body.isSome = true) (he : ev fo = .func (.func f) #[] cs) (w : World) :
    (execOp ev ⟨d, .call ⟨.value fo, args, ats⟩, ty, pos, af, g⟩).run P w = .ok (.enter f (args.map ev ++ cs)) w := by
  simp only [execOp, resolve, he, Deferred.ofValue, Sem.run_bind, Sem.run_pure, Result.andThen_ok, invoke, Array.empty_append]
  exact run_callFunc hN hf hb _ w
theorem exec_callB {P : Program} (hN : NamesOk P) {ev : Operand → Value} {d : Option Tmp} {fo : Operand} {args : Array Operand} {ats : Array TypeId} {ty : TypeId} {pos : String} {af : Array Edge} {g : Option (Nat × Bool)} {f : FuncId} {v : Value} {fn : Func}
    (hf : P.funcs[f]? = some fn) (hb : fn.body.isSome = true) (he : ev fo = .func (.func f) #[v] #[]) (w : World) :
    (execOp ev ⟨d, .call ⟨.value fo, args, ats⟩, ty, pos, af, g⟩).run P w = .ok (.enter f (#[v] ++ args.map ev)) w := by
  simp only [execOp, resolve, he, Deferred.ofValue, Sem.run_bind, Sem.run_pure, Result.andThen_ok, invoke, Array.append_empty]
  exact run_callFunc hN hf hb _ w
/-- Where a contract is, there a function is. -/
def CtrThere (P : Program) (ctr : FuncId → List AV → List Blk → Option (T AV × Option Nat)) : Prop := ∀ f args h t, ctr f args h = some t → ∃ fn, P.funcs[f]? = some fn ∧ fn.body.isSome = true

theorem Agree.whole {h h' : List Blk} {r : Nat} {k : Blk} (hr : h[r]? = some k) (ha : Agree h h' (.rd r 0 k.cells.length)) : h'[r]? = some k := by
  obtain ⟨k', h1, ⟨h2, h3, h4⟩, h5⟩ := ha k hr
  rw [h1]
  congr 1
  obtain ⟨c, t⟩ := k
  obtain ⟨c', t'⟩ := k'
  simp only at h3 h4 h5
  subst h4
  congr 1
  apply List.ext_getElem?
  intro i
  by_cases hi : i < c.length
  · have := h5 i hi
    rwa [Nat.zero_add] at this
  · rw [List.getElem?_eq_none (by omega), List.getElem?_eq_none (by omega)]
theorem loc_call {P : Program} {w0 : World} {ctr : FuncId → List AV → List Blk → Option (T AV × Option Nat)} (hN : NamesOk P) (hC : CtrOk P w0 ctr) (hT : CtrThere P ctr) {ts : List AV} {h : List Blk} {o : Oper} {fo : Operand} {args : Array Operand} {ats : Array TypeId} (ho : o.op = .call ⟨.value fo, args, ats⟩)
    {g : FuncId} {caps : List (Nat × Nat)} (hg : opd ts fo = .v (.one (.fn g caps))) {t : T AV × Option Nat} (ht : ctr g (argsOf ts args.toList ++ caps.map capA) h = some t) (K : AV × Eff → Prop) (hK : (ctrT h t).holds K) : ∃ x e, K (x, e) ∧ Loc P w0 o ts h x e := by
  obtain ⟨d, op, ty, pos, af, gd⟩ := o
  simp only at ho
  subst ho
  obtain ⟨fn, hf, hb⟩ := hT _ _ _ _ ht
  obtain ⟨t, ro⟩ := t
  have hE : ∃ e, t.holds (fun v => K (v, e)) ∧ ((∀ h', e ≠ .full h') ∧ Within h e) ∧ (∀ n m, Near n m h.length e ↔ m = n) ∧ (∀ m, e.more m h.length = m) ∧ (∀ h', e.appW h' = h') ∧ ∀ (m : Nat → Bool) (bs : List Nat) (h' : List Blk) (w : World), Agree h h' e → Foot m h.length e → Rep m w0 bs h' w → ∀ r k, ro = some r → h[r]? = some k → k.plain = true → w.heap[bs.getD r 0]? = some (.cells (k.cells.map (Sc.γ bs)).toArray k.t (0, 0)) := by
    cases ro with
    | none => exact ⟨.none, (T.holds_map _ _ _).1 hK, ⟨(fun h' e => by cases e), trivial⟩, fun _ _ => Iff.rfl, fun _ => rfl, fun _ => rfl, fun _ _ _ _ _ _ _ r k e => by cases e⟩
    | some r0 =>
      unfold ctrT at hK
      simp only at hK
      split at hK
      · rename_i k0 hk0
        split at hK
        · rename_i hp
          refine ⟨.rd r0 0 k0.cells.length, (T.holds_map _ _ _).1 hK, ⟨(fun h' e => by cases e), ⟨k0, hk0⟩⟩, fun _ _ => Iff.rfl, fun _ => rfl, fun _ => rfl, fun m bs h' w ha hm R r k e hk hpk => ?_⟩
          cases e
          rw [hk0] at hk
          cases hk
          exact ((R.blk r0 k0 hm (ha.whole hk0)).plain hp).2
        · exact hK.elim
      · exact hK.elim
  obtain ⟨eff, hK, hw1, hnear, hmore, happ, hsee⟩ := hE
  obtain ⟨x, hx, hn, hcall⟩ := hC _ _ _ _ _ ht _ hK
  refine ⟨x, eff, hx, ⟨hn, hw1⟩, fun bs ev hev m h' w ha hm R => ?_⟩
  have ef := hev fo (by simp [Op.operands, Call.operands])
  rw [hg] at ef
  have ef' : ev fo = .func (.func g) #[] (caps.map (capV bs)).toArray := ef
  unfold Up
  rw [exec_call hN hf hb ef' w]
  simp only
  have harr : args.map ev ++ (caps.map (capV bs)).toArray = (args.toList.map ev ++ caps.map (capV bs)).toArray := by
    apply Array.ext'; simp
  rw [harr]
  refine (hcall bs (args.toList.map ev ++ caps.map (capV bs)) (by simp [argsOf]) (fun j y hj => ?_) w R.below (hsee m bs h' w ha hm R)).mono fun e w' ⟨he, hb⟩ => ⟨_, he, bs, (hnear _ _).2 rfl, rfl, by rw [hmore, happ]; exact R.call hb⟩
  rw [List.getElem?_append] at hj
  simp only [argsOf, List.length_map] at hj
  rw [List.getD_eq_getElem?_getD, List.getElem?_append]
  simp only [List.length_map]
  split at hj
  · rename_i hlt
    rw [if_pos hlt]
    rw [List.getElem?_map] at hj ⊢
    cases ha : args.toList[j]? with
    | none => simp [ha] at hj
    | some z =>
      simp [ha] at hj ⊢
      subst hj
      exact hev z (by
        have := List.mem_of_getElem? ha
        simp [Op.operands, Call.operands]
        exact .inr (by simpa using this))
  · rename_i hlt
    rw [if_neg hlt]
    rw [List.getElem?_map] at hj ⊢
    cases ha : caps[j - args.toList.length]? with
    | none => rw [ha] at hj; cases hj
    | some z => rw [ha] at hj; cases hj; rfl

/-- What a new block's address is, behind it. -/
def newAt (x : AV) (b : Nat) : Value := match x with
  | .v (.one (.ptr _ off)) => .pointer (some ⟨b, off, none⟩)
  | .v (.one (.os _ off len cap)) => .slice (some ⟨b, off, none⟩) len cap
  | _ => undef
/-- It is the address of block n. -/
def isNew (n : Nat) : AV → Bool
  | .v (.one (.ptr r _)) => r == n
  | .v (.one (.os r _ _ _)) => r == n
  | _ => false
theorem loc_new {P : Program} {w0 : World} {o : Oper} {s : ASt} {cells : List Sc} {t : TypeId} {x : AV} {K : AV × Eff → Prop} (hK0 : (newT s cells t x).holds K) (hx : isNew s.h.length x = true)
    (hr : ∀ (bs : List Nat) (ev : Operand → Value), (∀ y ∈ o.op.operands, (opd s.ts y).Is bs (ev y)) → ∀ w, (execOp ev o).run P w = .ok (.value (newAt x w.heap.size)) (w.alloc (.cells (cells.map (Sc.γ bs)).toArray t))) :
    ∃ x e, K (x, e) ∧ Loc P w0 o s.ts s.h x e := by
  unfold newT at hK0
  split at hK0
  case h_2 => exact hK0.elim
  rename_i hpl
  have hK : K (x, .new ⟨cells, t⟩) := hK0
  refine ⟨x, .new ⟨cells, t⟩, hK, ⟨(by rintro rfl; cases hx), (fun h' e => by cases e), trivial⟩, fun bs ev hev m h' w ag ft R => ?_⟩
  refine Up.value (hr bs ev hev w) ⟨bs.set s.h.length w.heap.size, ⟨_, rfl⟩, ?_, R.newPlain ft.1 ag (plain_of_real hpl) ft.2⟩
  have hlt : s.h.length < bs.length := by rw [R.len]; exact (List.getElem?_eq_some_iff.1 ag).1
  have hself : (bs.set s.h.length w.heap.size).getD s.h.length 0 = w.heap.size := by
    rw [List.getD_eq_getElem?_getD, List.getElem?_set_self hlt]
    rfl
  unfold isNew at hx
  split at hx
  · simp only [beq_iff_eq] at hx; subst hx; simp only [newAt, AV.γ, V.γ, Sc.γ, hself]
  · simp only [beq_iff_eq] at hx; subst hx; simp only [newAt, AV.γ, V.γ, Sc.γ, hself]
  · cases hx

theorem run_strOf {P : Program} {w : World} {b off len cap : Nat} {ns : List Int} (hl : ns.length = len) (hc : ∀ j, j < len → w.cell? ⟨b, off + j, none⟩ = some (.int .u8 (ns.getD j 0))) :
    (Conv.bytesToString (.slice (some ⟨b, off, none⟩) len cap)).run P w = .ok (.string (strOf ns)) w := by
  refine run_bytesToString w _ len cap ns ?_
  have := run_loadCells_list (P := P) w ⟨b, off, none⟩ (ns.map (Value.int .u8)) (fun j v hj => by
    rw [List.getElem?_map] at hj
    cases hq : ns[j]? with
    | none => simp [hq] at hj
    | some c =>
      simp [hq] at hj; subst hj
      rw [add_plain, hc j (by rw [← hl]; exact (List.getElem?_eq_some_iff.1 hq).1), List.getD_eq_getElem?_getD, hq]
      rfl)
  rw [List.length_map, hl] at this
  exact this
theorem cutL_get {xs : List Int} {l h sz j : Nat} (hj : j < (cutL xs l h sz).length) : l * sz + j < xs.length ∧ (cutL xs l h sz).getD j 0 = xs.getD (l * sz + j) 0 := by
  unfold cutL at *
  rw [List.length_take, List.length_drop] at hj
  refine ⟨by omega, ?_⟩
  rw [List.getD_eq_getElem?_getD, List.getD_eq_getElem?_getD, List.getElem?_take, if_pos (by omega), List.getElem?_drop]
theorem cutL_length {xs : List Int} {l h sz : Nat} (hle : h * sz ≤ xs.length) : (cutL xs l h sz).length = (h - l) * sz := by
  unfold cutL
  rw [List.length_take, List.length_drop, Nat.sub_mul]
  omega
theorem loc_bytes {P : Program} {w0 : World} {src dst e : TypeId} {s : ASt} {o : Oper} {x : Operand} (ho : o.op = .convert src dst x) (hs : P.underlying src = some (.slice e)) (he : P.underlying e = some (.int .u8)) (hd : P.underlying dst = some .string) {K : AV × Eff → Prop} (hK : (bytesT w0 s.h (opd s.ts x)).holds K) :
    ∃ x e, K (x, e) ∧ Loc P w0 o s.ts s.h x e := by
  obtain ⟨d, op, ty, pos, af, g⟩ := o
  simp only at ho
  subst ho
  have ex : ∀ (ev : Operand → Value) (w : World) (a : Option Addr) (l c : Nat) (t : ByteArray), ev x = .slice a l c → (Conv.bytesToString (.slice a l c)).run P w = .ok (.string t) w → (execOp ev ⟨d, .convert src dst x, ty, pos, af, g⟩).run P w = .ok (.value (.string t)) w := by
    intro ev w a l c t h1 h2
    simp only [execOp, h1]
    exact vrun ((run_convert_bytes_string w src dst e a l c hs he hd).trans h2)
  unfold bytesT at hK
  split at hK
  · rename_i a ks xs len cap hx
    split at hK
    · rename_i hk
      subst hk
      obtain ⟨hX, hK⟩ := hK
      refine ⟨_, _, hK, ⟨by simp, (fun h' e => by cases e), trivial⟩, fun bs ev hev m h' w _ _ R => ?_⟩
      have e1 := hev x (by simp [Op.operands])
      rw [hx] at e1
      have e1' : ev x = .slice a len cap := e1
      refine Up.value (ex ev w _ _ _ _ e1' ?_) ⟨bs, rfl, rfl, R⟩
      have hl : xs.length = len := by simpa using hX.1
      cases hlen : len with
      | zero =>
        have hxs : xs = [] := List.eq_nil_of_length_eq_zero (by omega)
        subst hxs
        cases a with
        | none => rfl
        | some ad =>
          refine run_bytesToString w _ _ _ [] ?_
          simp [loadCells, loadCellsFrom]
      | succ n =>
        obtain ⟨b, off, rfl⟩ := xr_some hX.2 (by omega)
        rw [← hlen]
        refine run_strOf hl fun j hj => ?_
        have := xc_at hX.2 R.below (j := j) (by omega)
        simpa [Nat.mod_one] using this
    · exact hK.elim
  · rename_i r nl sz off len cap hx
    split at hK
    · rename_i nl' ks xs cap' t hro
      obtain ⟨k, hr, hc, rfl⟩ := rowOf_some hro
      split at hK
      · rename_i hk
        obtain ⟨rfl, rfl⟩ := hk
        obtain ⟨⟨rfl, hle⟩, hK⟩ := hK
        refine ⟨_, _, hK, ⟨by simp, (fun h' e => by cases e), ⟨k, hr⟩⟩, fun bs ev hev m h' w ag ft R => ?_⟩
        have e1 := hev x (by simp [Op.operands])
        rw [hx] at e1
        have e1' : ev x = Sc.γ bs (.gs r nl 1 off len cap) := e1
        obtain ⟨k', hr', hc', _⟩ := agree_row ag hr hc
        have hcl := cutL_length (xs := xs) (l := off) (h := off + len) (sz := 1) (by omega)
        cases nl with
        | true =>
          have := (R.blk r k' ft hr').nil _ _ _ hc'
          subst this
          refine Up.value (ex ev w _ _ _ _ e1' ?_) ⟨bs, rfl, rfl, R⟩
          have : cutL [] off (off + len) 1 = [] := by simp [cutL]
          rw [this]
          rfl
        | false =>
          refine Up.value (ex ev w _ _ _ _ e1' ?_) ⟨bs, rfl, rfl, R⟩
          refine run_strOf (by omega) fun j hj => ?_
          obtain ⟨g1, g2⟩ := cutL_get (xs := xs) (l := off) (h := off + len) (sz := 1) (j := j) (by omega)
          have := R.rowCell ft hr' hc' g1
          rw [g2]
          simpa [Nat.mod_one] using this
      · exact hK.elim
    · exact hK.elim
  · rename_i hx
    refine ⟨_, _, hK, ⟨by simp, (fun h' e => by cases e), trivial⟩, fun bs ev hev m h' w _ _ R => ?_⟩
    have e1 := hev x (by simp [Op.operands])
    rw [hx] at e1
    have e1' : ev x = .slice none 0 0 := e1
    exact Up.value (ex ev w _ _ _ _ e1' rfl) ⟨bs, rfl, rfl, R⟩
  · exact hK.elim
theorem locT_ok {P : Program} {w0 : World} {eqT : TypeId → Bool} {ctr : FuncId → List AV → List Blk → Option (T AV × Option Nat)} (hN : NamesOk P) (hE : EqOk P eqT) (hC : CtrOk P w0 ctr) (hT : CtrThere P ctr) (s : ASt) (o : Oper) (K : AV × Eff → Prop) (hK : (locT P w0 eqT ctr s o).holds K) :
    ∃ x e, K (x, e) ∧ Loc P w0 o s.ts s.h x e := by
  have ho : o.op = o.op := rfl
  revert hK
  unfold locT
  have isγ : ∀ {bs : List Nat} {x : Operand} {v : Value}, (opd s.ts x).Is bs v → opd s.ts x ≠ .any → v = (opd s.ts x).γ bs := fun h hn => AV.Is.eq h hn
  generalize hop : o.op = op at *
  obtain ⟨d, op', ty, pos, af, g⟩ := o
  simp only at hop
  subst hop
  simp only
  intro hK
  split at hK
  · -- move
    rename_i x
    split at hK
    · exact hK.elim
    · rename_i hne
      refine ⟨_, _, hK, Loc.of_pure (fun e => hne e) fun bs ev hev w => ?_⟩
      have e1 := isγ (hev x (by simp [Op.operands])) hne
      simp [execOp, e1]
  · rename_i x
    split at hK
    · exact hK.elim
    · rename_i hne
      refine ⟨_, _, hK, Loc.of_pure (fun e => hne e) fun bs ev hev w => ?_⟩
      have e1 := isγ (hev x (by simp [Op.operands])) hne
      simp [execOp, e1]
  · -- pick
    rename_i c x y
    split at hK
    · rename_i l b x' y' hc hx hy
      rw [T.holds_map] at hK
      rcases fork_holds hK with ⟨hb, hK⟩ | ⟨hb, hK⟩
      · refine ⟨_, _, hK, Loc.of_pure (by simp) fun bs ev hev w => ?_⟩
        have e1 := hev c (by simp [Op.operands]); have e2 := hev x (by simp [Op.operands])
        rw [hc] at e1; rw [hx] at e2
        have e1' : ev c = .bool b := e1
        have e2' : ev x = x'.γ bs := e2
        simp [execOp, e1', e2', hb, asBool, AV.γ]
      · refine ⟨_, _, hK, Loc.of_pure (by simp) fun bs ev hev w => ?_⟩
        have e1 := hev c (by simp [Op.operands]); have e2 := hev y (by simp [Op.operands])
        rw [hc] at e1; rw [hy] at e2
        have e1' : ev c = .bool b := e1
        have e2' : ev y = y'.γ bs := e2
        simp [execOp, e1', e2', hb, asBool, AV.γ]
    · rename_i x' hc hx hnn
      refine ⟨_, _, hK, Loc.of_pure (by simp) fun bs ev hev w => ?_⟩
      have e1 := hev c (by simp [Op.operands]); have e2 := hev x (by simp [Op.operands])
      rw [hc] at e1; rw [hx] at e2
      have e1' : ev c = .bool true := e1
      have e2' : ev x = x'.γ bs := e2
      simp [execOp, e1', e2', asBool, AV.γ]
    · rename_i y' hc hy hnn
      refine ⟨_, _, hK, Loc.of_pure (by simp) fun bs ev hev w => ?_⟩
      have e1 := hev c (by simp [Op.operands]); have e2 := hev y (by simp [Op.operands])
      rw [hc] at e1; rw [hy] at e2
      have e1' : ev c = .bool false := e1
      have e2' : ev y = y'.γ bs := e2
      simp [execOp, e1', e2', asBool, AV.γ]
    · exact hK.elim
  · exact loadT_ok _ _ _ rfl _ _ _ hK
  · exact storeT_ok _ _ _ _ rfl _ _ _ hK
  · -- nilCheck
    rename_i x
    split at hK
    · rename_i r off hx
      refine ⟨_, _, hK, Loc.of_pure (by simp) fun bs ev hev w => ?_⟩
      have e1 := hev x (by simp [Op.operands])
      rw [hx] at e1
      have e1' : ev x = .pointer (some ⟨bs.getD r 0, off, none⟩) := e1
      simp [execOp, e1', AV.γ, V.γ, Sc.γ]
    · rename_i a cell sz len i of hx
      obtain ⟨⟨hX, h0, hz⟩, hK⟩ := hK
      obtain ⟨b, off, rfl⟩ := xok_some hX h0 hz
      refine ⟨_, _, hK, Loc.of_pure (by simp) fun bs ev hev w => ?_⟩
      have e1 := hev x (by simp [Op.operands])
      rw [hx] at e1
      have e1' : ev x = .pointer (some ((⟨b, off, none⟩ : Addr).add (i * sz + of))) := e1
      simp [execOp, e1', AV.γ, V.γ, Sc.γ]
    · rename_i f caps hx
      refine ⟨_, _, hK, Loc.of_pure (by simp) fun bs ev hev w => ?_⟩
      have e1 := hev x (by simp [Op.operands])
      rw [hx] at e1
      have e1' : ev x = .func (.func f) #[] (caps.map (capV bs)).toArray := e1
      simp [execOp, e1', AV.γ, V.γ, Sc.γ]
    · rename_i r sz i q hx
      refine ⟨_, _, hK, Loc.of_pure (by simp) fun bs ev hev w => ?_⟩
      have e1 := hev x (by simp [Op.operands])
      rw [hx] at e1
      have e1' : ev x = .pointer (some ⟨bs.getD r 0, i * sz + q, none⟩) := e1
      simp [execOp, e1', AV.γ, V.γ, Sc.γ]
    · exact hK.elim
  · -- binOp
    rename_i op t x y yt
    rw [T.holds_map] at hK
    obtain ⟨z, hz, hn, hr⟩ := binT_ok (P := P) hE op t _ _ x y _ hK
    have ne := binT_ne hK
    refine ⟨_, _, hz, Loc.of_pure hn fun bs ev hev w => ?_⟩
    have e1 := isγ (hev x (by simp [Op.operands])) ne.1
    have e2 := isγ (hev y (by simp [Op.operands])) ne.2
    simp only [execOp, e1, e2]
    exact vrun (hr bs w)
  · rename_i op t x
    rw [T.holds_map] at hK
    obtain ⟨z, hz, hn, hr⟩ := unT_ok (P := P) op _ _ hK
    have ne := unT_ne hK
    refine ⟨_, _, hz, Loc.of_pure hn fun bs ev hev w => ?_⟩
    have e1 := isγ (hev x (by simp [Op.operands])) ne
    simp only [execOp, e1]
    exact vrun (hr bs w)
  · rename_i src dst x
    split at hK
    · rename_i e hd hs
      split at hK
      · rename_i he
        exact loc_bytes rfl hs he hd hK
      · exact hK.elim
    · rw [T.holds_map] at hK
      obtain ⟨z, hz, hn, hr⟩ := convT_ok (P := P) src dst _ _ hK
      have ne := convT_ne hK
      refine ⟨_, _, hz, Loc.of_pure hn fun bs ev hev w => ?_⟩
      have e1 := isγ (hev x (by simp [Op.operands])) ne
      simp only [execOp, e1]
      exact vrun (hr bs w)
  · -- slice
    rename_i t x lo hi mx
    split at hK
    · rw [T.holds_map] at hK
      obtain ⟨z, hz, hn, hr⟩ := sliceT_ok (P := P) t _ _ _ _ hK
      have ne := sliceT_ne hK
      refine ⟨_, _, hz, Loc.of_pure hn fun bs ev hev w => ?_⟩
      have e1 := isγ (hev x (by simp [Op.operands])) ne.1
      have e2 : lo.map ev = (lo.map (opd s.ts)).map (AV.γ bs) := by
        cases lo with
        | none => rfl
        | some y => simp only [Option.map_some]; rw [isγ (hev y (by simp [Op.operands])) (ne.2.1 _ rfl)]
      have e3 : hi.map ev = (hi.map (opd s.ts)).map (AV.γ bs) := by
        cases hi with
        | none => rfl
        | some y => simp only [Option.map_some]; rw [isγ (hev y (by simp [Op.operands])) (ne.2.2 _ rfl)]
      simp only [execOp, e1, e2, e3, Option.map_none]
      exact vrun (hr bs w)
    · exact hK.elim
  · rename_i t x f
    rw [T.holds_map] at hK
    obtain ⟨z, hz, hn, hr⟩ := fieldT_ok (P := P) t _ f _ hK
    have ne := fieldT_ne hK
    refine ⟨_, _, hz, Loc.of_pure hn fun bs ev hev w => ?_⟩
    have e1 := isγ (hev x (by simp [Op.operands])) ne
    simp only [execOp, e1]
    exact vrun (hr bs w)
  · rename_i t x i
    rw [T.holds_map] at hK
    obtain ⟨z, hz, hn, hr⟩ := indexT_ok (P := P) t _ _ _ hK
    have ne := indexT_ne hK
    refine ⟨_, _, hz, Loc.of_pure hn fun bs ev hev w => ?_⟩
    have e1 := isγ (hev x (by simp [Op.operands])) ne.1
    have e2 := isγ (hev i (by simp [Op.operands])) ne.2
    simp only [execOp, e1, e2]
    exact vrun (hr bs w)
  · rename_i t x f
    rw [T.holds_map] at hK
    obtain ⟨z, hz, hn, hr⟩ := fieldAddrT_ok (P := P) (w0 := w0) t _ f _ hK
    have ne := fieldAddrT_ne hK
    refine ⟨_, _, hz, Loc.of_pure hn fun bs ev hev w => ?_⟩
    have e1 := isγ (hev x (by simp [Op.operands])) ne
    simp only [execOp, e1]
    exact vrun (hr bs w)
  · rename_i t x i
    rw [T.holds_map] at hK
    obtain ⟨z, hz, hn, hr⟩ := indexAddrT_ok (P := P) (w0 := w0) t _ _ _ hK
    have ne := indexAddrT_ne hK
    refine ⟨_, _, hz, Loc.of_pure hn fun bs ev hev w => ?_⟩
    have e1 := isγ (hev x (by simp [Op.operands])) ne.1
    have e2 := isγ (hev i (by simp [Op.operands])) ne.2
    simp only [execOp, e1, e2]
    exact vrun (hr bs w)
  · rename_i x i
    rw [T.holds_map] at hK
    obtain ⟨z, hz, hn, hr⟩ := extractT_ok (P := P) _ i _ hK
    have ne := extractT_ne hK
    refine ⟨_, _, hz, Loc.of_pure hn fun bs ev hev w => ?_⟩
    have e1 := isγ (hev x (by simp [Op.operands])) ne
    simp only [execOp, e1]
    exact vrun (hr bs w)
  · rename_i t parts
    split at hK
    · rename_i l hl
      split at hK
      · rename_i cs hcs
        refine ⟨_, _, hK, Loc.of_pure (by simp) fun bs ev hev w => ?_⟩
        have hp := partsOf_ok (bs := bs) (ev := ev) parts.toList l (fun x hx => hev x.2 (by
          simp only [Op.operands, List.mem_toArray, List.mem_map]
          exact ⟨x, hx, rfl⟩)) hl
        simp only [execOp]
        refine vrun ?_
        exact buildV_ok hcs _ (by simpa using hp) w
      · exact hK.elim
    · exact hK.elim
  · rename_i f first caps
    split at hK
    · rename_i h0
      split at hK
      · rename_i l hl
        refine ⟨_, _, hK, Loc.of_pure (by simp) fun bs ev hev w => ?_⟩
        have hf : first = #[] := Array.eq_empty_of_size_eq_zero h0
        subst hf
        have hc := caps_ok (bs := bs) (ev := ev) caps.toList l (fun x hx => hev x (by simp [Op.operands]; simpa using hx)) hl
        have ha : caps.map ev = (l.map (capV bs)).toArray := by
          apply Array.ext'
          rw [Array.toList_map]
          exact hc
        simp only [execOp, Instr.makeFunc, ha]
        exact vrun (by simp [AV.γ, V.γ, Sc.γ])
      · exact hK.elim
    · split at hK
      · rename_i x hx hcp
        split at hK
        · rename_i y hy
          split at hK
          · rename_i hyw
            refine ⟨_, _, hK, Loc.of_pure (by simp) fun bs ev hev w => ?_⟩
            have hf : first = #[x] := by apply Array.ext'; simpa using hx
            have hcp : caps = #[] := by apply Array.ext'; simpa using hcp
            subst hf hcp
            have hxx := hev x (by simp [Op.operands])
            rw [hy] at hxx
            have hxx : ev x = y.γ bs := hxx
            have hxy : ev x = y.γ [] := hxx.trans (V.γ_like (like_none [] bs) hyw)
            simp only [execOp, Instr.makeFunc, List.map_toArray, List.map_cons, List.map_nil, hxy]
            exact vrun rfl
          · exact hK.elim
        · exact hK.elim
      · exact hK.elim
  · -- box
    rename_i e x
    split at hK
    · rename_i y hy
      split at hK
      · rename_i hf
        refine loc_new hK (by simp [isNew]) fun bs ev hev w => ?_
        have e1 := hev x (by simp [Op.operands])
        rw [hy] at e1
        have e1' : ev x = y.γ bs := e1
        simp [execOp, Instr.box, newVar, newRow, e1', V.list_γ hf, newAt]
      · exact hK.elim
    · exact hK.elim
  · -- alloc
    rename_i e
    split at hK
    · rename_i z hz
      split at hK
      · rename_i hf
        refine loc_new hK (by simp [isNew]) fun bs ev hev w => ?_
        simp [execOp, Instr.alloc, newVar, newRow, run_zero (bs := bs) hz, V.list_γ (bs := bs) hf, newAt]
      · exact hK.elim
    · exact hK.elim
  · -- buildSlice
    rename_i t len parts
    split at hK
    · rename_i e hu
      split at hK
      · rename_i sz z l hs hz hl
        split at hK
        · rename_i hle
          split at hK
          · rename_i hzl
            split at hK
            · exact hK.elim
            · rename_i hsz
              split at hK
              · rename_i hzf
                split at hK
                · rename_i cs hcs
                  refine loc_new hK (by simp [isNew]) fun bs ev hev w => ?_
                  have hp := partsOf_ok (bs := bs) (ev := ev) parts.toList l (fun x hx => hev x.2 (by
                    simp only [Op.operands, List.mem_toArray, List.mem_map]
                    exact ⟨x, hx, rfl⟩)) hl
                  have hfill := fillA_ok (bs := bs) _ _ _ _ hcs
                  have hzc := V.list_γ (bs := bs) hzf
                  have hzero : (Array.range (len * sz)).map (fun i => (z.list.map (Sc.γ bs)).toArray[i % (z.list.map (Sc.γ bs)).toArray.size]!) = (((List.range (len * sz)).map fun i => z.list.getD (i % sz) .nil).map (Sc.γ bs)).toArray := by
                    apply Array.ext'
                    simp only [Array.toList_map, Array.toList_range, List.map_map, List.size_toArray, List.length_map, hzl]
                    apply List.map_congr_left
                    intro i hi
                    have hm : i % sz < z.list.length := by rw [hzl]; exact Nat.mod_lt _ (by omega)
                    simp [hm]
                  have hp' : (parts.map fun x => (x.1, ev x.2)).toList = l.map fun x => (x.1, x.2.γ bs) := by simpa using hp
                  simp only [execOp, Instr.buildSlice, Sem.run_bind, run_underlying hu, Result.andThen_ok, run_size hs]
                  rw [if_neg (by omega)]
                  by_cases h0 : len * sz = 0
                  · have hlen : len = 0 := by
                      rcases Nat.mul_eq_zero.1 h0 with h1 | h1
                      · exact h1
                      · exact absurd h1 hsz
                    subst hlen
                    simp only [Nat.zero_mul, List.range_zero, List.map_nil] at hfill
                    have hr0 : ∀ f : Nat → Value, (Array.range 0).map f = #[] := fun f => by simp
                    simp only [Nat.zero_mul, if_true, Sem.run_pure, Result.andThen_ok, hr0, hp', hfill]
                    simp [newRow, newAt]
                  · rw [if_neg h0]
                    simp only [Sem.run_bind, run_zero (bs := bs) hz, Result.andThen_ok, Sem.run_pure, hzc, hzero, hp', hfill]
                    simp [newRow, newAt]
                · exact hK.elim
              · exact hK.elim
          · exact hK.elim
        · exact hK.elim
      · exact hK.elim
    · exact hK.elim
  · rename_i b args ats
    obtain ⟨args⟩ := args
    simp only at hK
    split at hK
    · rename_i x
      split at hK
      · rename_i t hat
        rw [T.holds_map] at hK
        obtain ⟨z, hz, hn, hr⟩ := lenT_ok (P := P) t ty _ _ ats hat hK
        rcases lenT_ne hK with ne | ⟨n, e, hu⟩
        · refine ⟨_, _, hz, Loc.of_pure hn fun bs ev hev w => ?_⟩
          have e1 := isγ (hev x (by simp [Op.operands, Call.operands])) ne
          simp only [execOp, resolve, Sem.run_bind, Sem.run_pure, Result.andThen_ok, invoke, builtin, List.map_toArray, List.map_cons, List.map_nil, e1, hr bs w]
        · refine ⟨_, _, hz, Loc.of_pure hn fun bs ev hev w => ?_⟩
          have h1 := hr bs w
          simp [Builtin.len_, hat, run_underlying hu] at h1
          simp [execOp, resolve, invoke, builtin, Builtin.len_, hat, run_underlying hu, h1]
      · exact hK.elim
    · rename_i x
      split at hK
      · rename_i t hat
        rw [T.holds_map] at hK
        obtain ⟨z, hz, hn, hr⟩ := capT_ok (P := P) t ty _ _ ats hat hK
        have ne := capT_ne hK
        refine ⟨_, _, hz, Loc.of_pure hn fun bs ev hev w => ?_⟩
        have e1 := isγ (hev x (by simp [Op.operands, Call.operands])) ne
        simp only [execOp, resolve, Sem.run_bind, Sem.run_pure, Result.andThen_ok, invoke, builtin, List.map_toArray, List.map_cons, List.map_nil, e1, hr bs w]
      · exact hK.elim
    · rename_i x y
      rw [T.holds_map] at hK
      obtain ⟨z, hz, hn, hr⟩ := minmaxT_ok (P := P) false _ _ _ ats ty hK
      have ne := minmaxT_ne hK
      refine ⟨_, _, hz, Loc.of_pure hn fun bs ev hev w => ?_⟩
      have e1 := isγ (hev x (by simp [Op.operands, Call.operands])) ne.1
      have e2 := isγ (hev y (by simp [Op.operands, Call.operands])) ne.2
      have h1 := hr bs w
      simp only [Bool.false_eq_true, if_false] at h1
      simp only [execOp, resolve, Sem.run_bind, Sem.run_pure, Result.andThen_ok, invoke, builtin, List.map_toArray, List.map_cons, List.map_nil, e1, e2, h1]
    · rename_i x y
      rw [T.holds_map] at hK
      obtain ⟨z, hz, hn, hr⟩ := minmaxT_ok (P := P) true _ _ _ ats ty hK
      have ne := minmaxT_ne hK
      refine ⟨_, _, hz, Loc.of_pure hn fun bs ev hev w => ?_⟩
      have e1 := isγ (hev x (by simp [Op.operands, Call.operands])) ne.1
      have e2 := isγ (hev y (by simp [Op.operands, Call.operands])) ne.2
      have h1 := hr bs w
      simp only [if_true] at h1
      simp only [execOp, resolve, Sem.run_bind, Sem.run_pure, Result.andThen_ok, invoke, builtin, List.map_toArray, List.map_cons, List.map_nil, e1, e2, h1]
    · exact hK.elim
  · rename_i f args ats
    split at hK
    · rename_i g caps hg
      split at hK
      · rename_i t ht
        exact loc_call hN hC hT rfl hg ht K hK
      · exact hK.elim
    · exact hK.elim
  · exact hK.elim
end Go.Proofs.Ytmbahohmiecfiaa.sym
