/-
  What the walk by computing says of one operation is so: each operation that makes no memory, one by one. No conditions but those that stand in each theorem.
-/
import Derived.Test.YtmbahohmiecfiaaSym2
namespace Go.Proofs.Ytmbahohmiecfiaa.sym
open Go.RowKit
set_option linter.unusedVariables false
set_option linter.unusedSimpArgs false

theorem mkI_ok {l k n} {K : AV → Prop} (h : (mkI l k n).holds K) : K (.v (.one (.int l k n))) := h
theorem mkB_ok {l b} {K : AV → Prop} (h : (mkB l b).holds K) : K (.v (.one (.bool l b))) := h

theorem eqGuard_int (P : Program) (w : World) (op : BinOp) (t : TypeId) (x y : Operand) (k k' : IntKind) (a b : Int) : (eqGuard op t x y (.int k a) (.int k' b)).run P w = .ok () w := by
  cases op <;> simp [eqGuard]

theorem intT_ok (P : Program) (op : BinOp) (l1 l2 : Bool) (k : IntKind) (a b : Int) (t : TypeId) (K : AV → Prop) (h : (intT op l1 l2 k a b).holds K) :
    ∃ x, K x ∧ Pure P (fun _ => binOp op t (.int k a) (.int k b)) x := by
  cases op <;> simp only [intT, T.holds, mkI, mkB] at h <;> first
    | exact ⟨_, h, by simp, fun bs w => by simp [binOp, Op.intArith, Op.intBits, Op.intCmp, bits, AV.γ, V.γ, Sc.γ]⟩
    | (obtain ⟨h0, h⟩ := chkT_holds h (fun e => by simp at e; exact e.2)
       exact ⟨_, h, by simp, fun bs w => by simp [binOp, Op.intDiv, h0, AV.γ, V.γ, Sc.γ]⟩)
    | exact h.elim

theorem equal_bool {P : Program} {t : TypeId} (d : Nat) (hu : P.underlying t = some .bool) (a b : Bool) (w : World) : (Op.equalIn (d + 1) t (.bool a) (.bool b)).run P w = .ok (a == b) w := by simp [Op.equalIn, run_underlying hu]
theorem equal_pn {P : Program} {t e : TypeId} (d : Nat) (hu : P.underlying t = some (.pointer e)) (a : Addr) (w : World) : (Op.equalIn (d + 1) t (.pointer (some a)) (.pointer none)).run P w = .ok false w := by simp [Op.equalIn, run_underlying hu]
theorem equal_np {P : Program} {t e : TypeId} (d : Nat) (hu : P.underlying t = some (.pointer e)) (a : Addr) (w : World) : (Op.equalIn (d + 1) t (.pointer none) (.pointer (some a))).run P w = .ok false w := by simp [Op.equalIn, run_underlying hu]
theorem equal_nn {P : Program} {t e : TypeId} (d : Nat) (hu : P.underlying t = some (.pointer e)) (w : World) : (Op.equalIn (d + 1) t (.pointer none) (.pointer none)).run P w = .ok true w := by simp [Op.equalIn, run_underlying hu]
theorem equal_fn {P : Program} {t : TypeId} {a b c} (d : Nat) (hu : P.underlying t = some (.func a b c)) (f : Fn) (x y : Array Value) (w : World) : (Op.equalIn (d + 1) t (.func f x y) .nilFunc).run P w = .ok false w := by simp [Op.equalIn, run_underlying hu]
theorem equal_nf {P : Program} {t : TypeId} {a b c} (d : Nat) (hu : P.underlying t = some (.func a b c)) (f : Fn) (x y : Array Value) (w : World) : (Op.equalIn (d + 1) t .nilFunc (.func f x y)).run P w = .ok false w := by simp [Op.equalIn, run_underlying hu]
theorem equal_ff {P : Program} {t : TypeId} {a b c} (d : Nat) (hu : P.underlying t = some (.func a b c)) (w : World) : (Op.equalIn (d + 1) t .nilFunc .nilFunc).run P w = .ok true w := by simp [Op.equalIn, run_underlying hu]
theorem equal_sn {P : Program} {t e : TypeId} (d : Nat) (hu : P.underlying t = some (.slice e)) (a : Option Addr) (n c n' c' : Nat) (w : World) : (Op.equalIn (d + 1) t (.slice a n c) (.slice none n' c')).run P w = .ok a.isNone w := by cases a <;> simp [Op.equalIn, run_underlying hu]
theorem equal_ns {P : Program} {t e : TypeId} (d : Nat) (hu : P.underlying t = some (.slice e)) (a : Option Addr) (n c n' c' : Nat) (w : World) : (Op.equalIn (d + 1) t (.slice none n' c') (.slice a n c)).run P w = .ok a.isNone w := by cases a <;> simp [Op.equalIn, run_underlying hu]
/-- Equality, and its four words. -/
def Eq4 (P : Program) (t : TypeId) (xo yo : Operand) (u v : Value) (b : Bool) : Prop :=
  (∀ w, (eqGuard .eql t xo yo u v).run P w = .ok () w) ∧ (∀ w, (eqGuard .neq t xo yo u v).run P w = .ok () w) ∧ (∀ w, (binOp .eql t u v).run P w = .ok (.bool b) w) ∧ (∀ w, (binOp .neq t u v).run P w = .ok (.bool (!b)) w)
theorem eq4 {P : Program} {t : TypeId} {xo yo : Operand} {u v : Value} {b : Bool} (g1 : ∀ w, (eqGuard .eql t xo yo u v).run P w = .ok () w) (g2 : ∀ w, (eqGuard .neq t xo yo u v).run P w = .ok () w)
    (e1 : binOp .eql t u v = (do pure (.bool (← Op.equal t u v)))) (e2 : binOp .neq t u v = (do pure (.bool (!(← Op.equal t u v))))) (hr : ∀ w, (Op.equalIn (9999 + 1) t u v).run P w = .ok b w) : Eq4 P t xo yo u v b := by
  have hr' : ∀ w, (Op.equal t u v).run P w = .ok b w := hr
  refine ⟨g1, g2, fun w => ?_, fun w => ?_⟩
  · rw [e1]; simp only [Sem.run_bind, hr', Result.andThen_ok, Sem.run_pure]
  · rw [e2]; simp only [Sem.run_bind, hr', Result.andThen_ok, Sem.run_pure]
theorem gs_nos {P : Program} {t e : TypeId} {xo yo : Operand} (hu : P.underlying t = some (.slice e)) (bs : List Nat) (r : Nat) (nl : Bool) (sz off len cap : Nat) : Eq4 P t xo yo (V.γ bs (.one (.gs r nl sz off len cap))) (V.γ bs (.one .nos)) nl := by
  cases nl
  · exact eq4 (fun w => by simp [eqGuard, V.γ, Sc.γ]) (fun w => by simp [eqGuard, V.γ, Sc.γ]) rfl rfl (equal_sn 9999 hu _ _ _ _ _)
  · exact eq4 (fun w => by simp [eqGuard, V.γ, Sc.γ]) (fun w => by simp [eqGuard, V.γ, Sc.γ]) rfl rfl (equal_sn 9999 hu none _ _ _ _)
theorem nos_gs {P : Program} {t e : TypeId} {xo yo : Operand} (hu : P.underlying t = some (.slice e)) (bs : List Nat) (r : Nat) (nl : Bool) (sz off len cap : Nat) : Eq4 P t xo yo (V.γ bs (.one .nos)) (V.γ bs (.one (.gs r nl sz off len cap))) nl := by
  cases nl
  · exact eq4 (fun w => by simp [eqGuard, V.γ, Sc.γ]) (fun w => by simp [eqGuard, V.γ, Sc.γ]) rfl rfl (equal_ns 9999 hu _ _ _ _ _)
  · exact eq4 (fun w => by simp [eqGuard, V.γ, Sc.γ]) (fun w => by simp [eqGuard, V.γ, Sc.γ]) rfl rfl (equal_ns 9999 hu none _ _ _ _)
theorem eqV_ok {P : Program} {bs : List Nat} {eqT : TypeId → Bool} (hE : EqOk P eqT) {t : TypeId} {x y : V} {l b : Bool} (xo yo : Operand) (he : eqV P eqT t x y = some (l, b)) : Eq4 P t xo yo (x.γ bs) (y.γ bs) b := by
  unfold eqV at he
  split at he
  · split at he
    · rename_i hu; cases he; exact eq4 (fun w => by simp [eqGuard, V.γ, Sc.γ]) (fun w => by simp [eqGuard, V.γ, Sc.γ]) rfl rfl (equal_bool 9999 hu _ _)
    · cases he
  · split at he
    · rename_i hu; cases he; exact eq4 (fun w => by simp [eqGuard, V.γ, Sc.γ]) (fun w => by simp [eqGuard, V.γ, Sc.γ]) rfl rfl (equal_pn 9999 hu _)
    · cases he
  · split at he
    · rename_i hu; cases he; exact eq4 (fun w => by simp [eqGuard, V.γ, Sc.γ]) (fun w => by simp [eqGuard, V.γ, Sc.γ]) rfl rfl (equal_np 9999 hu _)
    · cases he
  · split at he
    · rename_i hu; cases he; exact eq4 (fun w => by simp [eqGuard, V.γ, Sc.γ]) (fun w => by simp [eqGuard, V.γ, Sc.γ]) rfl rfl (equal_nn 9999 hu)
    · cases he
  · split at he
    · rename_i hu; cases he; exact eq4 (fun w => by simp [eqGuard, V.γ, Sc.γ]) (fun w => by simp [eqGuard, V.γ, Sc.γ]) rfl rfl (equal_fn 9999 hu _ _ _)
    · cases he
  · split at he
    · rename_i hu; cases he; exact eq4 (fun w => by simp [eqGuard, V.γ, Sc.γ]) (fun w => by simp [eqGuard, V.γ, Sc.γ]) rfl rfl (equal_nf 9999 hu _ _ _)
    · cases he
  · split at he
    · rename_i hu; cases he; exact eq4 (fun w => by simp [eqGuard, V.γ, Sc.γ]) (fun w => by simp [eqGuard, V.γ, Sc.γ]) rfl rfl (equal_ff 9999 hu)
    · cases he
  · split at he
    · rename_i hu; cases he; exact eq4 (fun w => by simp [eqGuard, V.γ, Sc.γ]) (fun w => by simp [eqGuard, V.γ, Sc.γ]) rfl rfl (equal_fn 9999 hu _ _ _)
    · cases he
  · split at he
    · rename_i hu; cases he; exact gs_nos hu _ _ _ _ _ _ _
    · cases he
  · split at he
    · rename_i hu; cases he; exact nos_gs hu _ _ _ _ _ _ _
    · cases he
  · split at he
    · rename_i hu; cases he; exact eq4 (fun w => by simp [eqGuard, V.γ, Sc.γ]) (fun w => by simp [eqGuard, V.γ, Sc.γ]) rfl rfl (equal_sn 9999 hu _ _ _ _ _)
    · cases he
  · split at he
    · rename_i hu; cases he; exact eq4 (fun w => by simp [eqGuard, V.γ, Sc.γ]) (fun w => by simp [eqGuard, V.γ, Sc.γ]) rfl rfl (equal_ns 9999 hu _ _ _ _ _)
    · cases he
  · split at he
    · rename_i hu; cases he; exact eq4 (fun w => by simp [eqGuard, V.γ, Sc.γ]) (fun w => by simp [eqGuard, V.γ, Sc.γ]) rfl rfl (equal_sn 9999 hu _ _ _ _ _)
    · cases he
  · split at he
    · rename_i hu; cases he; exact eq4 (fun w => by simp [eqGuard, V.γ, Sc.γ]) (fun w => by simp [eqGuard, V.γ, Sc.γ]) rfl rfl (equal_ns 9999 hu _ _ _ _ _)
    · cases he
  · split at he
    · rename_i hu; cases he; exact eq4 (fun w => by simp [eqGuard, V.γ, Sc.γ]) (fun w => by simp [eqGuard, V.γ, Sc.γ]) rfl rfl (equal_sn 9999 hu _ _ _ _ _)
    · cases he
  · split at he
    · cases he
      exact ⟨fun w => by simp [eqGuard, V.γ, Sc.γ], fun w => by simp [eqGuard, V.γ, Sc.γ], fun w => by simp [binOp, Op.stringOp, V.γ, Sc.γ], fun w => by simp [binOp, Op.stringOp, V.γ, Sc.γ]⟩
    · cases he
  · split at he
    · rename_i zs hz
      split at he
      · rename_i hc
        simp only [Bool.and_eq_true] at hc
        obtain ⟨hg, hq⟩ := hE t hc.1.1
        exact eq4 (fun w => run_eqGuard_agg w _ _ _ _ _ _ hg) (fun w => run_eqGuard_agg w _ _ _ _ _ _ hg) rfl rfl (hq bs zs _ _ _ _ hz hc.1.2 hc.2 he)
      · cases he
    · cases he
  · cases he

theorem binT_ok {P : Program} {eqT : TypeId → Bool} (hE : EqOk P eqT) (op : BinOp) (t : TypeId) (x y : AV) (xo yo : Operand) (K : AV → Prop) (h : (binT P eqT op t x y).holds K) :
    ∃ z, K z ∧ Pure P (fun bs => do eqGuard op t xo yo (x.γ bs) (y.γ bs); binOp op t (x.γ bs) (y.γ bs)) z := by
  unfold binT at h
  split at h
  · rename_i l k a l' k' b
    split at h
    · obtain ⟨h0, h⟩ := chkT_holds h (fun e => by simp at e; exact e.2)
      refine ⟨_, h, by simp, fun bs w => ?_⟩
      simp only [AV.γ, V.γ, Sc.γ, Sem.run_bind, eqGuard_int, Result.andThen_ok]
      simp only [binOp, Op.shift, if_neg (Int.not_lt.2 h0)]
      rfl
    · obtain ⟨h0, h⟩ := chkT_holds h (fun e => by simp at e; exact e.2)
      refine ⟨_, h, by simp, fun bs w => ?_⟩
      simp only [AV.γ, V.γ, Sc.γ, Sem.run_bind, eqGuard_int, Result.andThen_ok]
      simp only [binOp, Op.shift, if_neg (Int.not_lt.2 h0)]
      rfl
    · split at h
      · rename_i e
        subst e
        obtain ⟨z, hz, hn, hr⟩ := intT_ok P op l l' k a b t K h
        exact ⟨z, hz, hn, fun bs w => by simp only [AV.γ, V.γ, Sc.γ, Sem.run_bind, eqGuard_int, Result.andThen_ok]; exact hr bs w⟩
      · exact h.elim
  · rename_i x y hne
    have key : ∀ bs l b, eqV P eqT t x y = some (l, b) → Eq4 P t xo yo (x.γ bs) (y.γ bs) b := fun bs l b he => eqV_ok hE xo yo he
    split at h
    · split at h
      · rename_i l b he
        refine ⟨_, mkB_ok h, by simp, fun bs w => ?_⟩
        obtain ⟨k1, k2, k3, k4⟩ := key bs l b he
        simp only [AV.γ, Sem.run_bind, k1, k3, Result.andThen_ok]; rfl
      · exact h.elim
    · split at h
      · rename_i l b he
        refine ⟨_, mkB_ok h, by simp, fun bs w => ?_⟩
        obtain ⟨k1, k2, k3, k4⟩ := key bs l b he
        simp only [AV.γ, Sem.run_bind, k2, k4, Result.andThen_ok]; rfl
      · exact h.elim
    · exact h.elim
  · exact h.elim

theorem unT_ok {P : Program} (op : UnOp) (x : AV) (K : AV → Prop) (h : (unT op x).holds K) : ∃ z, K z ∧ Pure P (fun bs => Op.unary op (x.γ bs)) z := by
  unfold unT at h
  split at h <;> first
    | exact h.elim
    | exact ⟨_, h, by simp, fun bs w => by first | rfl | simp [AV.γ, V.γ, Sc.γ, Op.unary, Op.intArith, Op.intBits, bits]⟩
theorem convT_ok {P : Program} (src dst : TypeId) (x : AV) (K : AV → Prop) (h : (convT P src dst x).holds K) : ∃ z, K z ∧ Pure P (fun bs => convert src dst (x.γ bs)) z := by
  unfold convT at h
  split at h
  · rename_i l k0 n k d hu hd
    exact ⟨_, h, by simp, fun bs w => by simp [convert, run_underlying hd, run_underlying hu, Conv.intToInt, AV.γ, V.γ, Sc.γ]⟩
  · exact h.elim

theorem run_isAgg {P : Program} {t : TypeId} {b : Bool} (h : tAgg P t = some b) (w : World) : (isAgg t).run P w = .ok b w := by
  unfold tAgg at h
  split at h <;> cases h
  · rename_i hu; simp [isAgg, run_underlying hu]
  · rename_i hu; simp [isAgg, run_underlying hu]
  · rename_i d h1 h2 hu
    simp only [isAgg, Sem.run_bind, run_underlying hu, Result.andThen_ok]
    cases d <;> first | rfl | exact (h1 _ rfl).elim | exact (h2 _ _ rfl).elim
theorem run_size {P : Program} {t : TypeId} {n : Nat} (h : tSize P t = some n) (w : World) : (sizeOf t).run P w = .ok n w := by
  unfold tSize at h
  cases hi : P.info? t with
  | none => simp [hi] at h
  | some i => simp [hi] at h; subst h; simp [sizeOf, run_typeInfo w hi]

theorem partV_ok {P : Program} {bs : List Nat} {t : TypeId} {cs : List Sc} {off : Nat} {v : V} (h : partV P t cs off = some v) (w : World) : (part t (cs.map (Sc.γ bs)).toArray off).run P w = .ok (v.γ bs) w := by
  unfold partV at h
  split at h
  · rename_i n ha hs
    split at h
    · cases h
      simp only [part, Sem.run_bind, run_isAgg ha, run_size hs, Result.andThen_ok, if_true, V.γ, Sem.run_pure]
      congr 2
      apply Array.ext'
      simp [Array.toList_extract, List.extract_eq_take_drop, List.map_take, List.map_drop]
    · cases h
  · rename_i n ha hs
    split at h
    · rename_i c hc
      cases h
      simp [part, Sem.run_bind, run_isAgg ha, hc, V.γ]
    · cases h
  · cases h
theorem leafV_ok {o : Option V} {K : AV → Prop} (h : (leafV o).holds K) : ∃ v, o = some v ∧ K (.v v) := by
  cases o with
  | none => exact h.elim
  | some v => exact ⟨v, rfl, h⟩
theorem fieldT_ok {P : Program} (s : TypeId) (x : AV) (f : Nat) (K : AV → Prop) (h : (fieldT P s x f).holds K) : ∃ z, K z ∧ Pure P (fun bs => Instr.field s (x.γ bs) f) z := by
  unfold fieldT at h
  split at h
  · rename_i cs fs hu
    split at h
    · rename_i fd hf
      obtain ⟨v, hv, hK⟩ := leafV_ok h
      refine ⟨_, hK, by simp, fun bs w => ?_⟩
      simp only [AV.γ, V.γ, Instr.field, Sem.run_bind, run_underlying hu, Result.andThen_ok, hf, asAgg, Sem.run_pure]
      exact partV_ok hv w
    · exact h.elim
  · exact h.elim

theorem pickN_ok {α : Type} {f : Nat → T α} {K : α → Prop} : ∀ (m j : Nat) (i : Int), (pickN m j i f).holds K → (j : Int) ≤ i → i < (j + m : Nat) → (f i.toNat).holds K
  | 0, j, i, h, h1, h2 => h.elim
  | 1, j, i, h, h1, h2 => by
    have : i.toNat = j := by omega
    rw [this]
    exact h
  | m + 2, j, i, h, h1, h2 => by
    by_cases e : i = (j : Int)
    · have : i.toNat = j := by omega
      rw [this]
      exact h.1 (by simp [e])
    · exact pickN_ok (m + 1) (j + 1) i (h.2 (by simp [e])) (by omega) (by omega)
theorem pickT_ok {α : Type} {f : Nat → T α} {K : α → Prop} {l : Bool} {n : Nat} {i : Int} (h : (pickT l n i f).holds K) : 0 ≤ i ∧ i < (n : Int) ∧ (f i.toNat).holds K := by
  unfold pickT at h
  split at h
  · split at h
    · rename_i j
      split at h
      · rename_i hj
        have e : ((j : Int)).toNat = j := by omega
        refine ⟨by show (0 : Int) ≤ (j : Int); omega, by show (j : Int) < n; omega, ?_⟩
        show (f ((j : Int)).toNat).holds K
        rw [e]; exact h
      · exact h.elim
    · exact h.elim
  · obtain ⟨⟨h0, h1⟩, h⟩ := h
    exact ⟨h0, h1, pickN_ok n 0 i h (by omega) (by omega)⟩
theorem indexT_ok {P : Program} (t : TypeId) (x i : AV) (K : AV → Prop) (h : (indexT P t x i).holds K) : ∃ z, K z ∧ Pure P (fun bs => Instr.index t (x.γ bs) (i.γ bs)) z := by
  unfold indexT at h
  split at h
  · rename_i s l k i hu
    obtain ⟨⟨h0, h1⟩, h⟩ := h
    refine ⟨_, h, by simp, fun bs w => ?_⟩
    have hi : i.toNat < s.size := by omega
    simp only [AV.γ, V.γ, Sc.γ, Instr.index, asIntOf, Sem.run_bind, Sem.run_pure, run_underlying hu, Result.andThen_ok, h0, if_true, byteAt, getElem?_pos s i.toNat hi]
  · rename_i cs l k i n e hu
    split at h
    · rename_i sz hs
      obtain ⟨h0, h1, h⟩ := pickT_ok h
      obtain ⟨z, hz, hK⟩ := leafV_ok h
      refine ⟨_, hK, by simp, fun bs w => ?_⟩
      simp only [AV.γ, V.γ, Sc.γ, Instr.index, asIntOf, Sem.run_bind, Sem.run_pure, run_underlying hu, Result.andThen_ok, Sem.run_ite, h0, h1, and_self, if_true, run_size hs]
      exact partV_ok hz w
    · exact h.elim
  · exact h.elim
theorem extractT_ok {P : Program} (x : AV) (i : Nat) (K : AV → Prop) (h : (extractT x i).holds K) : ∃ z, K z ∧ Pure P (fun bs => Instr.extract (x.γ bs) i) z := by
  unfold extractT at h
  split at h
  · rename_i vs
    split at h
    · rename_i v hv
      exact ⟨_, h, by simp, fun bs w => by simp [Instr.extract, hv, AV.γ]⟩
    · exact h.elim
  · exact h.elim

/-! ### Addresses -/
theorem add_plain (b o n : Nat) : (⟨b, o, none⟩ : Addr).add n = ⟨b, o + n, none⟩ := by unfold Addr.add; split <;> simp_all
theorem xok_some {w0 : World} {a : Option Addr} {cell : Nat → Nat → Sc} {sz len : Nat} (h : XOk w0 a cell sz len) (ht : 0 < len) (hs : 0 < sz) : ∃ b off, a = some ⟨b, off, none⟩ := by
  obtain ⟨b, off, e, _⟩ := h 0 ht 0 hs
  exact ⟨b, off, e⟩
theorem run_fieldPlace {P : Program} {fd : Field} {n : Nat} (h : tSize P fd.type = some (n + 1)) (a : Addr) (w : World) : (fieldPlace a fd).run P w = .ok (a.add fd.offset) w := by
  simp [fieldPlace, Sem.run_bind, run_size h]
theorem add_add (a : Addr) (m n : Nat) : (a.add m).add n = a.add (m + n) := by
  unfold Addr.add
  by_cases h1 : m = 0
  · subst h1; simp
  · by_cases h2 : n = 0
    · subst h2; simp
    · simp [h1, h2]; omega
theorem xr_some {w0 : World} {a : Option Addr} {ks : List IntKind} {xs : List Int} (h : XC w0 a ks xs) (ht : 0 < xs.length) : ∃ b off, a = some ⟨b, off, none⟩ := by
  obtain ⟨b, off, e, _⟩ := h 0 ht
  exact ⟨b, off, e⟩
theorem fieldAddrT_ok {P : Program} {w0 : World} (s : TypeId) (x : AV) (f : Nat) (K : AV → Prop) (h : (fieldAddrT P w0 s x f).holds K) : ∃ z, K z ∧ Pure P (fun bs => Instr.fieldAt s (x.γ bs) f) z := by
  unfold fieldAddrT at h
  split at h
  · rename_i fs hu
    split at h
    · rename_i fd hf
      split at h
      · rename_i n hn
        split at h
        · rename_i r off
          refine ⟨_, h, by simp, fun bs w => ?_⟩
          simp only [AV.γ, V.γ, Sc.γ, Instr.fieldAt, Sem.run_bind, run_underlying hu, Result.andThen_ok, hf, Instr.sureAddr, Sem.run_pure, run_fieldPlace hn, add_plain]
        · rename_i a cell sz len i of
          obtain ⟨⟨hX, ht, hz⟩, h⟩ := h
          obtain ⟨b, off, rfl⟩ := xok_some hX ht hz
          refine ⟨_, h, by simp, fun bs w => ?_⟩
          simp only [AV.γ, V.γ, Sc.γ, Option.map_some, Instr.fieldAt, Sem.run_bind, run_underlying hu, Result.andThen_ok, hf, Instr.sureAddr, Sem.run_pure, run_fieldPlace hn, add_plain, Nat.add_assoc]
        · rename_i r sz i q
          refine ⟨_, h, by simp, fun bs w => ?_⟩
          simp only [AV.γ, V.γ, Sc.γ, Instr.fieldAt, Sem.run_bind, run_underlying hu, Result.andThen_ok, hf, Instr.sureAddr, Sem.run_pure, run_fieldPlace hn, add_plain, Nat.add_assoc]
        · rename_i a ks xs i q
          obtain ⟨⟨hX, hl⟩, h⟩ := h
          obtain ⟨b, off, rfl⟩ := xr_some hX hl
          refine ⟨_, h, by simp, fun bs w => ?_⟩
          simp only [AV.γ, V.γ, Sc.γ, Option.map_some, Instr.fieldAt, Sem.run_bind, run_underlying hu, Result.andThen_ok, hf, Instr.sureAddr, Sem.run_pure, run_fieldPlace hn, add_add, Nat.add_assoc]
        · exact h.elim
      · exact h.elim
    · exact h.elim
  · exact h.elim
theorem indexAddrT_ok {P : Program} {w0 : World} (t : TypeId) (x i : AV) (K : AV → Prop) (h : (indexAddrT P w0 t x i).holds K) : ∃ z, K z ∧ Pure P (fun bs => Instr.indexAt t (x.γ bs) (i.γ bs)) z := by
  unfold indexAddrT at h
  split at h
  · rename_i l k i
    split at h
    · rename_i n e r off hu
      split at h
      · rename_i sz hs
        obtain ⟨h0, h1, h⟩ := pickT_ok h
        refine ⟨_, h, by simp, fun bs w => ?_⟩
        simp only [AV.γ, V.γ, Sc.γ, Instr.indexAt, asIntOf, Sem.run_bind, Sem.run_pure, run_underlying hu, Result.andThen_ok, Sem.run_ite, h0, h1, and_self, if_true, run_size hs, Instr.sureAddr, add_plain]
      · exact h.elim
    · rename_i n e a ks xs i0 q hu
      split at h
      · rename_i sz hs
        obtain ⟨⟨hX, hl⟩, h⟩ := h
        obtain ⟨b, off, rfl⟩ := xr_some hX hl
        obtain ⟨h0, h1, h⟩ := pickT_ok h
        refine ⟨_, h, by simp, fun bs w => ?_⟩
        simp only [AV.γ, V.γ, Sc.γ, Option.map_some, Instr.indexAt, asIntOf, Sem.run_bind, Sem.run_pure, run_underlying hu, Result.andThen_ok, Sem.run_ite, h0, h1, and_self, if_true, run_size hs, Instr.sureAddr, add_plain, Nat.add_assoc]
      · exact h.elim
    · rename_i n e r z i0 q hu
      split at h
      · rename_i sz hs
        obtain ⟨h0, h1, h⟩ := pickT_ok h
        refine ⟨_, h, by simp, fun bs w => ?_⟩
        simp only [AV.γ, V.γ, Sc.γ, Instr.indexAt, asIntOf, Sem.run_bind, Sem.run_pure, run_underlying hu, Result.andThen_ok, Sem.run_ite, h0, h1, and_self, if_true, run_size hs, Instr.sureAddr, add_plain, Nat.add_assoc]
      · exact h.elim
    · rename_i e r off len cap hu
      split at h
      · rename_i sz hs
        obtain ⟨h0, h1, h⟩ := pickT_ok h
        refine ⟨_, h, by simp, fun bs w => ?_⟩
        simp only [AV.γ, V.γ, Sc.γ, Instr.indexAt, asIntOf, Sem.run_bind, Sem.run_pure, run_underlying hu, Result.andThen_ok, Sem.run_ite, h0, h1, and_self, if_true, run_size hs, Instr.sureAddr, add_plain]
      · exact h.elim
    · rename_i e a cell sz len cap hu
      split at h
      · rename_i es hs
        split at h
        · rename_i he
          have he := Nat.eq_of_beq_eq_true he
          subst he
          obtain ⟨⟨hX, h0, h1, hz⟩, h⟩ := h
          obtain ⟨b, off, rfl⟩ := xok_some hX (by omega) hz
          refine ⟨_, h, by simp, fun bs w => ?_⟩
          simp only [AV.γ, V.γ, Sc.γ, Option.map_some, Instr.indexAt, asIntOf, Sem.run_bind, Sem.run_pure, run_underlying hu, Result.andThen_ok, Sem.run_ite, h0, h1, and_self, if_true, run_size hs, Instr.sureAddr, add_plain, Nat.add_zero]
        · exact h.elim
      · exact h.elim
    · rename_i e r nl sz off len cap hu
      split at h
      · rename_i es hs
        split at h
        · rename_i he
          have he := Nat.eq_of_beq_eq_true he
          subst he
          obtain ⟨⟨rfl, h0, h1⟩, h⟩ := h
          refine ⟨_, h, by simp, fun bs w => ?_⟩
          simp only [AV.γ, V.γ, Sc.γ, Instr.indexAt, asIntOf, Sem.run_bind, Sem.run_pure, run_underlying hu, Result.andThen_ok, Sem.run_ite, h0, h1, and_self, if_true, run_size hs, Instr.sureAddr, add_plain, Nat.add_zero, Nat.add_mul]
        · exact h.elim
      · exact h.elim
    · rename_i e a ks xs len cap hu
      split at h
      · rename_i es hs
        split at h
        · rename_i he
          have he := Nat.eq_of_beq_eq_true he
          subst he
          obtain ⟨⟨hX, h0, h1, hz⟩, h⟩ := h
          obtain ⟨b, off, rfl⟩ := xr_some hX.2 (by rw [hX.1]; exact Nat.mul_pos (by omega) hz)
          refine ⟨_, h, by simp, fun bs w => ?_⟩
          simp only [AV.γ, V.γ, Sc.γ, Option.map_some, Instr.indexAt, asIntOf, Sem.run_bind, Sem.run_pure, run_underlying hu, Result.andThen_ok, Sem.run_ite, h0, h1, and_self, if_true, run_size hs, Instr.sureAddr, add_plain, Nat.add_zero]
        · exact h.elim
      · exact h.elim
    · rename_i e r f hu
      split at h
      · rename_i es hs
        split at h
        · rename_i he
          have he := Nat.eq_of_beq_eq_true he
          subst he
          obtain ⟨⟨h0, h1⟩, h⟩ := h
          obtain ⟨b, off, hfa⟩ := f.ok (by rintro e; rw [e] at h1; simp at h1; omega)
          refine ⟨_, h, by simp, fun bs w => ?_⟩
          simp only [AV.γ, V.γ, Sc.γ, hfa, Option.map_some, Instr.indexAt, asIntOf, Sem.run_bind, Sem.run_pure, run_underlying hu, Result.andThen_ok, Sem.run_ite, h0, h1, and_self, if_true, run_size hs, Instr.sureAddr, add_plain, Nat.mul_one]
        · exact h.elim
      · exact h.elim
    · exact h.elim
  · exact h.elim

theorem bnd_ok {bs : List Nat} {o : Option AV} {d : Nat} {l : Int} {l' : Nat} (h : bnd o d = some (l, l')) : l' = l.toNat ∧ ∀ (P : Program) (y : Nat) (code : BoundsCode) (w : World), 0 ≤ l → l ≤ (y : Int) → (match o.map (AV.γ bs) with | some v => Instr.sliceBound v y code | none => pure d).run P w = .ok l' w := by
  unfold bnd at h
  split at h
  · cases h
    exact ⟨by simp, fun P y code w _ _ => rfl⟩
  · rename_i lit k n _
    cases h
    refine ⟨rfl, fun P y code w h0 h1 => ?_⟩
    simp [AV.γ, V.γ, Sc.γ, Instr.sliceBound, asIntOf, h0, h1]
  · cases h
theorem run_bounds {P : Program} {bs : List Nat} {lo hi : Option AV} {len cap : Nat} (isSlice : Bool) {l h : Int} {l' h' : Nat} (e1 : bnd lo 0 = some (l, l')) (e2 : bnd hi len = some (h, h')) (h0 : 0 ≤ l) (h1 : l ≤ h) (h2 : h ≤ (cap : Int)) (w : World) :
    (Instr.sliceBounds isSlice len cap (lo.map (AV.γ bs)) (hi.map (AV.γ bs)) none).run P w = .ok (l', h', cap) w := by
  obtain ⟨a1, a2⟩ := bnd_ok (bs := bs) e1
  obtain ⟨b1, b2⟩ := bnd_ok (bs := bs) e2
  have c2 := fun code w => b2 P cap code w (by omega) h2
  have c1 := fun code w => a2 P h' code w h0 (by rw [b1]; omega)
  unfold Instr.sliceBounds
  cases hi with
  | none =>
    simp only [Option.map_none] at c2 ⊢
    have c2' := c2 .sliceB w
    simp only [Sem.run_pure] at c2'
    cases c2'
    cases lo with
    | none =>
      simp only [Option.map_none] at c1 ⊢
      have c1' := c1 .sliceB w
      simp only [Sem.run_pure] at c1'
      cases c1'
      simp
    | some v =>
      simp only [Option.map_some] at c1 ⊢
      simp [c1]
  | some u =>
    simp only [Option.map_some] at c2 ⊢
    cases lo with
    | none =>
      simp only [Option.map_none] at c1 ⊢
      have c1' := c1 .sliceB w
      simp only [Sem.run_pure] at c1'
      cases c1'
      simp [c2]
    | some v =>
      simp only [Option.map_some] at c1 ⊢
      simp [c2, c1]
theorem sliceT_ok {P : Program} (t : TypeId) (x : AV) (lo hi : Option AV) (K : AV → Prop) (h : (sliceT P t x lo hi).holds K) : ∃ z, K z ∧ Pure P (fun bs => Instr.sliceAt t (x.γ bs) (lo.map (AV.γ bs)) (hi.map (AV.γ bs)) none) z := by
  unfold sliceT at h
  split at h
  · rename_i e a ks xs len cap hu
    split at h
    · rename_i es l l' h2 h2' hs e1 e2
      split at h
      · rename_i he
        have he := Nat.eq_of_beq_eq_true he
        subst he
        obtain ⟨⟨h0, h1, h2, h3⟩, h⟩ := h
        refine ⟨_, h, by simp, fun bs w => ?_⟩
        have := run_bounds (P := P) (bs := bs) (cap := cap) true e1 e2 h0 h1 (by omega) w
        simp only [AV.γ, V.γ, Sc.γ, Instr.sliceAt, Instr.slice, Sem.run_bind, run_underlying hu, Result.andThen_ok, this, run_size hs, Sem.run_pure, cutA]
      · exact h.elim
    · exact h.elim
  · rename_i e r nl sz off len cap hu
    split at h
    · rename_i es l l' h2 h2' hs e1 e2
      split at h
      · rename_i he
        have he := Nat.eq_of_beq_eq_true he
        subst he
        obtain ⟨⟨h0, h1, h2⟩, h⟩ := h
        refine ⟨_, h, by simp, fun bs w => ?_⟩
        have := run_bounds (P := P) (bs := bs) (cap := cap) true e1 e2 h0 h1 (by omega) w
        simp only [AV.γ, V.γ, Sc.γ, Instr.sliceAt, Instr.slice, Sem.run_bind, run_underlying hu, Result.andThen_ok, this, run_size hs, Sem.run_pure, cutO_eq]
        cases nl
        · by_cases hc : cap = l' <;> simp [hc, add_plain, Nat.add_mul]
        · by_cases hc : cap = l' <;> simp [hc]
      · exact h.elim
    · exact h.elim
  · rename_i e r off len cap hu
    split at h
    · rename_i es l l' h2 h2' hs e1 e2
      split at h
      · split at h
        · rename_i hh
          obtain ⟨h0, h1, h2⟩ := hh
          refine ⟨_, h, by simp, fun bs w => ?_⟩
          have := run_bounds (P := P) (bs := bs) (cap := cap) true e1 e2 h0 h1 (by omega) w
          simp only [AV.γ, V.γ, Sc.γ, Instr.sliceAt, Instr.slice, Sem.run_bind, run_underlying hu, Result.andThen_ok, this, run_size hs, Sem.run_pure]
          by_cases hc : cap = l' <;> simp [hc, add_plain]
        · exact h.elim
      · exact h.elim
    · exact h.elim
  · rename_i e hu
    split at h
    · rename_i es l l' h2 h2' hs e1 e2
      obtain ⟨⟨h0, h1, h2⟩, h⟩ := h
      refine ⟨_, h, by simp, fun bs w => ?_⟩
      have := run_bounds (P := P) (bs := bs) (cap := 0) true e1 e2 h0 h1 (by omega) w
      have b1 := (bnd_ok (bs := bs) e1).1
      have b2 := (bnd_ok (bs := bs) e2).1
      have z1 : l' = 0 := by omega
      have z2 : h2' = 0 := by omega
      subst z1 z2
      simp [AV.γ, V.γ, Sc.γ, Instr.sliceAt, Instr.slice, run_underlying hu, this, run_size hs]
    · exact h.elim
  · rename_i s hu
    split at h
    · rename_i l l' h2 h2' e1 e2
      obtain ⟨⟨h0, h1, h2⟩, h⟩ := h
      refine ⟨_, h, by simp, fun bs w => ?_⟩
      have := run_bounds (P := P) (bs := bs) (cap := s.size) false e1 e2 h0 h1 (by omega) w
      simp [AV.γ, V.γ, Sc.γ, Instr.sliceAt, Instr.slice, run_underlying hu, this]
    · exact h.elim
  · exact h.elim
theorem capT_ok {P : Program} (t ty : TypeId) (x : AV) (K : AV → Prop) (ats : Array TypeId) (ha : ats[0]? = some t) (h : (capT P t x).holds K) : ∃ z, K z ∧ Pure P (fun bs => Builtin.cap_ ats ty #[x.γ bs]) z := by
  unfold capT at h
  split at h <;> first
    | exact h.elim
    | (rename_i hu
       exact ⟨_, h, by simp, fun bs w => by simp [Builtin.cap_, ha, run_underlying hu, AV.γ, V.γ, Sc.γ, goInt]⟩)

theorem lenT_ok {P : Program} (t ty : TypeId) (x : AV) (K : AV → Prop) (ats : Array TypeId) (ha : ats[0]? = some t) (h : (lenT P t x).holds K) : ∃ z, K z ∧ Pure P (fun bs => Builtin.len_ ats ty #[x.γ bs]) z := by
  unfold lenT at h
  split at h <;> first
    | exact h.elim
    | (rename_i hu
       exact ⟨_, h, by simp, fun bs w => by simp [Builtin.len_, ha, run_underlying hu, AV.γ, V.γ, Sc.γ, goInt]⟩)
theorem minmaxT_ok {P : Program} (mx : Bool) (x y : AV) (K : AV → Prop) (ats : Array TypeId) (ty : TypeId) (h : (minmaxT mx [x, y]).holds K) :
    ∃ z, K z ∧ Pure P (fun bs => if mx = true then Builtin.max_ ats ty #[x.γ bs, y.γ bs] else Builtin.min_ ats ty #[x.γ bs, y.γ bs]) z := by
  unfold minmaxT at h
  split at h
  · rename_i l k a l' k' b e
    simp only [List.cons.injEq, and_true] at e
    obtain ⟨rfl, rfl⟩ := e
    refine ⟨_, h, by simp, fun bs w => ?_⟩
    cases mx <;> simp [Builtin.max_, Builtin.min_, Builtin.max2, Builtin.min2, AV.γ, V.γ, Sc.γ]
  · exact h.elim
end Go.Proofs.Ytmbahohmiecfiaa.sym
