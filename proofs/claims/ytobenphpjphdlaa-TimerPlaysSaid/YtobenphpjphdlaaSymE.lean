/-
  Which structs are compared cell by cell: those whose fields are integers and bools, one behind the other. No conditions.
-/
import Derived.Test.YtobenphpjphdlaaSym9
namespace Go.Proofs.Ytobenphpjphdlaa.sym
open Go.RowKit
set_option linter.unusedVariables false

def flatFs (P : Program) : List Field → List Sc → Nat → Bool
  | [], [], _ => true
  | f :: fs, z :: zs, off => (f.name != "_") && f.offset == off && (match P.underlying f.type, z with | some (.int _), .int _ _ _ => true | some .bool, .bool _ _ => true | _, _ => false) && flatFs P fs zs (off + 1)
  | _, _, _ => false
def flatT (P : Program) (t : TypeId) : Bool := match P.underlying t, zeroV P t with
  | some (.struct fs), some (.agg zs) => flatFs P fs.toList zs 0 && !P.stoodInHeld t && !P.eqGuardType P.depth t
  | _, _ => false

theorem tAgg_int {P : Program} {t : TypeId} {k : IntKind} (h : P.underlying t = some (.int k)) : tAgg P t = some false := by simp [tAgg, h]
theorem tAgg_bool {P : Program} {t : TypeId} (h : P.underlying t = some .bool) : tAgg P t = some false := by simp [tAgg, h]
theorem part_one {P : Program} {t : TypeId} (h : tAgg P t = some false) {X : Array Value} {off : Nat} {v : Value} (hv : X[off]? = some v) (w : World) : (part t X off).run P w = .ok v w := by
  simp [part, Sem.run_bind, run_isAgg h, hv]
theorem eqFs_ok {P : Program} {bs : List Nat} (d : Nat) : ∀ (fs : List Field) (zs xs ys : List Sc) (off : Nat) (X Y : Array Value) (l b : Bool), flatFs P fs zs off = true → kinds xs zs = true → kinds ys zs = true → eqCells xs ys = some (l, b) →
    (∀ i c, xs[i]? = some c → X[off + i]? = some (c.γ bs)) → (∀ i c, ys[i]? = some c → Y[off + i]? = some (c.γ bs)) → ∀ w, (Op.eqFields (d + 1) X Y fs).run P w = .ok b w
  | [], [], xs, ys, off, X, Y, l, b, _, hx, hy, he, _, _, w => by
    cases xs with
    | cons => simp [kinds] at hx
    | nil =>
      cases ys with
      | cons => simp [kinds] at hy
      | nil => cases he; simp [Op.eqFields]
  | [], _ :: _, _, _, _, _, _, _, _, h, _, _, _, _, _, _ => by simp [flatFs] at h
  | _ :: _, [], _, _, _, _, _, _, _, h, _, _, _, _, _, _ => by simp [flatFs] at h
  | f :: fs, z :: zs, xs, ys, off, X, Y, l, b, hf, hx, hy, he, hX, hY, w => by
    cases xs with
    | nil => simp [kinds] at hx
    | cons x xs =>
    cases ys with
    | nil => simp [kinds] at hy
    | cons y ys =>
    simp only [flatFs, Bool.and_eq_true, beq_iff_eq, bne_iff_ne] at hf
    obtain ⟨⟨⟨hn, ho⟩, ht⟩, hr⟩ := hf
    simp only [kinds, Bool.and_eq_true] at hx hy
    have hx0 : X[f.offset]? = some (x.γ bs) := by rw [ho]; exact hX 0 x rfl
    have hy0 : Y[f.offset]? = some (y.γ bs) := by rw [ho]; exact hY 0 y rfl
    have rest : ∀ l' b', eqCells xs ys = some (l', b') → (Op.eqFields (d + 1) X Y fs).run P w = .ok b' w := fun l' b' he' =>
      eqFs_ok d fs zs xs ys (off + 1) X Y l' b' hr hx.2 hy.2 he' (fun i c hi => by have := hX (i + 1) c (by simpa using hi); rwa [show off + (i + 1) = off + 1 + i by omega] at this) (fun i c hi => by have := hY (i + 1) c (by simpa using hi); rwa [show off + (i + 1) = off + 1 + i by omega] at this) w
    simp only [eqCells] at he
    cases hs : eqSc x y with
    | none => simp [hs] at he
    | some p =>
      cases hcs : eqCells xs ys with
      | none => simp [hs, hcs] at he
      | some q =>
        obtain ⟨l1, b1⟩ := p
        obtain ⟨l2, b2⟩ := q
        simp only [hs, hcs, Option.some.injEq, Prod.mk.injEq] at he
        obtain ⟨_, rfl⟩ := he
        have hrest := rest l2 b2 hcs
        have key : ∀ (hag : tAgg P f.type = some false), (∀ w, (Op.equalIn (d + 1) f.type (x.γ bs) (y.γ bs)).run P w = .ok b1 w) → (Op.eqFields (d + 1) X Y (f :: fs)).run P w = .ok (b1 && b2) w := by
          intro hag he1
          simp only [Op.eqFields]
          rw [if_pos hn]
          simp only [Sem.run_bind, part_one hag hx0, part_one hag hy0, Result.andThen_ok, he1]
          cases b1 with
          | true => simp only [Bool.not_true, Bool.false_eq_true, if_false, Bool.true_and]; exact hrest
          | false => simp
        split at ht
        · rename_i k l0 k0 n0 hu
          cases x <;> simp [kinOne] at hx
          cases y <;> simp [kinOne] at hy
          rename_i lx kx nx ly ky ny
          simp only [eqSc] at hs
          split at hs
          · rename_i hk
            subst hk
            cases hs
            exact key (tAgg_int hu) fun w => run_equalIn_int w d f.type kx k nx ny hu
          · cases hs
        · rename_i l0 n0 hu
          cases x <;> simp [kinOne] at hx
          cases y <;> simp [kinOne] at hy
          rename_i lx nx ly ny
          simp only [eqSc] at hs
          cases hs
          exact key (tAgg_bool hu) fun w => run_equalIn_bool' w d f.type nx ny hu
        · cases ht
theorem flat_ok (P : Program) : EqOk P (flatT P) := by
  intro t h
  unfold flatT at h
  split at h
  · rename_i fs zs hu hz
    simp only [Bool.and_eq_true, Bool.not_eq_true'] at h
    refine ⟨h.2, fun bs zs' xs ys l b hz' hx hy he w => ?_⟩
    rw [hz] at hz'
    cases hz'
    have hfo : P.underlying t = some (.struct (P.fieldsOf t)) := by simp [Program.fieldsOf, hu]
    have e1 := run_equalIn_struct w 9999 t (xs.map (Sc.γ bs)).toArray (ys.map (Sc.γ bs)).toArray hfo h.1.2
    rw [show (9999 : Nat) + 1 = 10000 from rfl] at e1
    rw [e1]
    have hfs : P.fieldsOf t = fs := by simp [Program.fieldsOf, hu]
    rw [hfs]
    exact eqFs_ok (bs := bs) 9998 fs.toList zs xs ys 0 _ _ l b h.1.1 hx hy he (fun i c hi => by simp [hi]) (fun i c hi => by simp [hi]) w
  · cases h
end Go.Proofs.Ytobenphpjphdlaa.sym
