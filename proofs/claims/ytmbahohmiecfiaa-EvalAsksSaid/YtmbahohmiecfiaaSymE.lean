/-
  Which structs are compared cell by cell: those whose fields are integers, bools, and arrays of integers, one behind the other. No conditions.
-/
import Derived.Test.YtmbahohmiecfiaaSym9
import Derived.ChangeKeysEq
namespace Go.Proofs.Ytmbahohmiecfiaa.sym
open Go.RowKit
set_option linter.unusedVariables false

def isI : Sc → Bool
  | .int _ _ _ => true
  | _ => false
/-- How many cells a field has. -/
def flatF (P : Program) (f : Field) (zs : List Sc) : Option Nat := match P.underlying f.type with
  | some (.int _) => match zs with
    | .int _ _ _ :: _ => some 1
    | _ => none
  | some .bool => match zs with
    | .bool _ _ :: _ => some 1
    | _ => none
  | some (.array n e) => match P.underlying e, tSize P e, tAgg P f.type, tSize P f.type with
    | some (.int _), some 1, some true, some m => if (Nat.beq m n && (Nat.ble 1 n && (Nat.ble n zs.length && (zs.take n).all isI))) = true then some n else none
    | _, _, _, _ => none
  | _ => none
def flatFs (P : Program) : List Field → List Sc → Nat → Bool
  | [], [], _ => true
  | [], _ :: _, _ => false
  | f :: fs, zs, off => (f.name != "_") && f.offset == off && match flatF P f zs with
    | some n => flatFs P fs (zs.drop n) (off + n)
    | none => false
def flatT (P : Program) (t : TypeId) : Bool := match P.underlying t, zeroV P t with
  | some (.struct fs), some (.agg zs) => flatFs P fs.toList zs 0 && !P.stoodInHeld t && !P.eqGuardType P.depth t
  | _, _ => false

theorem tAgg_int {P : Program} {t : TypeId} {k : IntKind} (h : P.underlying t = some (.int k)) : tAgg P t = some false := by simp [tAgg, h]
theorem tAgg_bool {P : Program} {t : TypeId} (h : P.underlying t = some .bool) : tAgg P t = some false := by simp [tAgg, h]
theorem part_one {P : Program} {t : TypeId} (h : tAgg P t = some false) {X : Array Value} {off : Nat} {v : Value} (hv : X[off]? = some v) (w : World) : (part t X off).run P w = .ok v w := by
  simp [part, Sem.run_bind, run_isAgg h, hv]
theorem kinds_length : ∀ {xs zs : List Sc}, kinds xs zs = true → xs.length = zs.length
  | [], [], _ => rfl
  | x :: xs, z :: zs, h => by
    simp only [kinds, Bool.and_eq_true] at h
    simp [kinds_length h.2]
  | [], _ :: _, h => by simp [kinds] at h
  | _ :: _, [], h => by simp [kinds] at h
theorem kinds_drop : ∀ (n : Nat) {xs zs : List Sc}, kinds xs zs = true → kinds (xs.drop n) (zs.drop n) = true
  | 0, _, _, h => h
  | n + 1, [], [], h => h
  | n + 1, x :: xs, z :: zs, h => by
    simp only [kinds, Bool.and_eq_true] at h
    simpa using kinds_drop n h.2
  | _ + 1, [], _ :: _, h => by simp [kinds] at h
  | _ + 1, _ :: _, [], h => by simp [kinds] at h
theorem eqCells_split : ∀ (n : Nat) {xs ys : List Sc} {l b : Bool}, eqCells xs ys = some (l, b) → ∃ l1 b1 l2 b2, eqCells (xs.take n) (ys.take n) = some (l1, b1) ∧ eqCells (xs.drop n) (ys.drop n) = some (l2, b2) ∧ b = (b1 && b2)
  | 0, xs, ys, l, b, h => ⟨true, true, l, b, by simp [eqCells], by simpa using h, by simp⟩
  | n + 1, [], [], l, b, h => ⟨true, true, l, b, by simp [eqCells], by simpa using h, by simp⟩
  | n + 1, x :: xs, y :: ys, l, b, h => by
    simp only [eqCells] at h
    split at h
    · rename_i l1 b1 l2 b2 h1 h2
      cases h
      obtain ⟨la, ba, lb, bb, e1, e2, e3⟩ := eqCells_split n h2
      refine ⟨l1 && la, b1 && ba, lb, bb, by simp [eqCells, h1, e1], by simpa using e2, by rw [e3, Bool.and_assoc]⟩
    · cases h
  | _ + 1, [], _ :: _, _, _, h => by simp [eqCells] at h
  | _ + 1, _ :: _, [], _, _, h => by simp [eqCells] at h
theorem kin_int {x z : Sc} (h : kinOne x z = true) (hz : isI z = true) : ∃ l k n, x = .int l k n := by
  cases z <;> simp [isI] at hz
  cases x <;> simp [kinOne] at h
  exact ⟨_, _, _, rfl⟩
theorem eq_int {P : Program} {bs : List Nat} {t : TypeId} {k0 : IntKind} (hu : P.underlying t = some (.int k0)) {x y : Sc} (hx : isI x = true) (hy : isI y = true) {l b : Bool} (h : eqSc x y = some (l, b)) (d : Nat) (w : World) :
    (Op.equalIn (d + 1) t (x.γ bs) (y.γ bs)).run P w = .ok b w := by
  cases x <;> simp [isI] at hx
  cases y <;> simp [isI] at hy
  rename_i lx kx nx ly ky ny
  simp only [eqSc] at h
  split at h
  · rename_i hk
    subst hk
    cases h
    exact run_equalIn_int w d t kx k0 nx ny hu
  · cases h
theorem eqItems_ok {P : Program} {bs : List Nat} {e : TypeId} {k : IntKind} (hu : P.underlying e = some (.int k)) (d : Nat) {xs ys : List Sc} (hx : xs.all isI = true) (hy : ys.all isI = true) :
    ∀ (m k0 : Nat) (l b : Bool), k0 + m = xs.length → eqCells (xs.drop k0) (ys.drop k0) = some (l, b) → ∀ w, (Op.eqItems (d + 1) e 1 (xs.map (Sc.γ bs)).toArray (ys.map (Sc.γ bs)).toArray (List.range' k0 m)).run P w = .ok b w
  | 0, k0, l, b, hk, h, w => by
    rw [List.drop_eq_nil_of_le (by omega)] at h
    cases hd : ys.drop k0 with
    | nil => rw [hd] at h; cases h; simp [Op.eqItems]
    | cons y r => rw [hd] at h; simp [eqCells] at h
  | m + 1, k0, l, b, hk, h, w => by
    have hlt : k0 < xs.length := by omega
    rw [List.drop_eq_getElem_cons hlt] at h
    cases hd : ys.drop k0 with
    | nil => rw [hd] at h; simp [eqCells] at h
    | cons y r =>
      have hlt2 : k0 < ys.length := by
        have : (ys.drop k0).length = r.length + 1 := by rw [hd]; rfl
        rw [List.length_drop] at this; omega
      rw [List.drop_eq_getElem_cons hlt2] at h
      simp only [eqCells] at h
      split at h
      · rename_i l1 b1 l2 b2 h1 h2
        cases h
        have ih := eqItems_ok (bs := bs) hu d hx hy m (k0 + 1) l2 b2 (by omega) h2 w
        have px : (part e (xs.map (Sc.γ bs)).toArray (k0 * 1)).run P w = .ok (xs[k0].γ bs) w := part_one (tAgg_int hu) (by simp [hlt]) w
        have py : (part e (ys.map (Sc.γ bs)).toArray (k0 * 1)).run P w = .ok (ys[k0].γ bs) w := part_one (tAgg_int hu) (by simp [hlt2]) w
        have he := eq_int (bs := bs) hu (List.all_eq_true.1 hx _ (List.getElem_mem hlt)) (List.all_eq_true.1 hy _ (List.getElem_mem hlt2)) h1 d w
        rw [List.range'_succ]
        simp only [Op.eqItems, Sem.run_bind, px, py, Result.andThen_ok, he]
        cases b1 with
        | true => simp only [Bool.not_true, Bool.false_eq_true, if_false, Bool.true_and]; exact ih
        | false => simp
      · cases h
theorem kinds_isI : ∀ {xs zs : List Sc}, kinds xs zs = true → zs.all isI = true → xs.all isI = true
  | [], [], _, _ => rfl
  | x :: xs, z :: zs, h, hz => by
    simp only [kinds, Bool.and_eq_true] at h
    simp only [List.all_cons, Bool.and_eq_true] at hz ⊢
    obtain ⟨l, k, n, rfl⟩ := kin_int h.1 hz.1
    exact ⟨rfl, kinds_isI h.2 hz.2⟩
  | [], _ :: _, h, _ => by simp [kinds] at h
  | _ :: _, [], h, _ => by simp [kinds] at h
theorem kinds_take : ∀ (n : Nat) {xs zs : List Sc}, kinds xs zs = true → kinds (xs.take n) (zs.take n) = true
  | 0, _, _, _ => by simp [kinds]
  | n + 1, [], [], _ => by simp [kinds]
  | n + 1, x :: xs, z :: zs, h => by
    simp only [kinds, Bool.and_eq_true] at h
    simp only [List.take_succ_cons, kinds, Bool.and_eq_true]
    exact ⟨h.1, kinds_take n h.2⟩
  | _ + 1, [], _ :: _, h => by simp [kinds] at h
  | _ + 1, _ :: _, [], h => by simp [kinds] at h
/-- A field's own comparison. -/
theorem flatF_ok {P : Program} {bs : List Nat} {f : Field} {zs : List Sc} {n : Nat} (hf : flatF P f zs = some n) {CX CY : List Sc} {off : Nat} (hX : kinds (CX.drop off) zs = true) (hY : kinds (CY.drop off) zs = true)
    {l b : Bool} (he : eqCells ((CX.drop off).take n) ((CY.drop off).take n) = some (l, b)) (d : Nat) (w : World) :
    ∃ u v, (part f.type (CX.map (Sc.γ bs)).toArray off).run P w = .ok u w ∧ (part f.type (CY.map (Sc.γ bs)).toArray off).run P w = .ok v w ∧ (Op.equalIn (d + 2) f.type u v).run P w = .ok b w := by
  unfold flatF at hf
  split at hf
  · rename_i k hu
    split at hf
    · rename_i l0 k0 n0 zr
      cases hf
      cases hx : CX.drop off with
      | nil => rw [hx] at hX; simp [kinds] at hX
      | cons x xr =>
      cases hy : CY.drop off with
      | nil => rw [hy] at hY; simp [kinds] at hY
      | cons y yr =>
      rw [hx] at hX he
      rw [hy] at hY he
      simp only [kinds, Bool.and_eq_true] at hX hY
      have gx : CX[off]? = some x := by have := congrArg (·[0]?) hx; simpa using this
      have gy : CY[off]? = some y := by have := congrArg (·[0]?) hy; simpa using this
      obtain ⟨lx, kx, nx, rfl⟩ := kin_int hX.1 rfl
      obtain ⟨ly, ky, ny, rfl⟩ := kin_int hY.1 rfl
      refine ⟨_, _, part_one (tAgg_int hu) (by simp [gx]; rfl) w, part_one (tAgg_int hu) (by simp [gy]; rfl) w, ?_⟩
      simp only [List.take_succ_cons, List.take_zero, eqCells] at he
      split at he
      · rename_i l1 b1 l2 b2 h1 h2
        cases he
        cases h2
        rw [Bool.and_true]
        exact eq_int (bs := bs) hu (x := .int lx kx nx) (y := .int ly ky ny) rfl rfl h1 (d + 1) w
      · cases he
    · cases hf
  · rename_i hu
    split at hf
    · rename_i l0 n0 zr
      cases hf
      cases hx : CX.drop off with
      | nil => rw [hx] at hX; simp [kinds] at hX
      | cons x xr =>
      cases hy : CY.drop off with
      | nil => rw [hy] at hY; simp [kinds] at hY
      | cons y yr =>
      rw [hx] at hX he
      rw [hy] at hY he
      simp only [kinds, Bool.and_eq_true] at hX hY
      have gx : CX[off]? = some x := by have := congrArg (·[0]?) hx; simpa using this
      have gy : CY[off]? = some y := by have := congrArg (·[0]?) hy; simpa using this
      have hX1 := hX.1
      have hY1 := hY.1
      cases x <;> simp [kinOne] at hX1
      cases y <;> simp [kinOne] at hY1
      rename_i lx nx ly ny
      refine ⟨_, _, part_one (tAgg_bool hu) (by simp [gx]; rfl) w, part_one (tAgg_bool hu) (by simp [gy]; rfl) w, ?_⟩
      simp only [List.take_succ_cons, List.take_zero, eqCells, eqSc] at he
      cases he
      rw [Bool.and_true]
      exact run_equalIn_bool' w (d + 1) f.type nx ny hu
    · cases hf
  · rename_i n' e hu
    split at hf
    · rename_i k m h1 h2 h3 h4
      split at hf
      · rename_i hc
        cases hf
        simp only [Bool.and_eq_true] at hc
        obtain ⟨hm, h0, hle, hall⟩ := hc
        have h0 := Nat.le_of_ble_eq_true h0
        have hm := Nat.eq_of_beq_eq_true hm
        have hle := Nat.le_of_ble_eq_true hle
        subst hm
        have lx := kinds_length hX
        have ly := kinds_length hY
        rw [List.length_drop] at lx ly
        have pX : partV P f.type CX off = some (.agg ((CX.drop off).take m)) := by
          unfold partV
          rw [h3, h4]
          simp only
          rw [if_pos]
          omega
        have pY : partV P f.type CY off = some (.agg ((CY.drop off).take m)) := by
          unfold partV
          rw [h3, h4]
          simp only
          rw [if_pos]
          omega
        refine ⟨_, _, partV_ok pX w, partV_ok pY w, ?_⟩
        have hxI := kinds_isI (kinds_take m hX) hall
        have hyI := kinds_isI (kinds_take m hY) hall
        simp only [tSize, Option.map_eq_some_iff] at h2
        obtain ⟨i, hi, his⟩ := h2
        have hce : P.cellsOf e = 1 := by simp [Program.cellsOf, hi, his]
        simp only [V.γ]
        rw [run_equalIn_array w (d + 1) _ _ hu hi, hce, List.range_eq_range']
        exact eqItems_ok h1 d hxI hyI m 0 l b (by simp; omega) (by simpa using he) w
      · cases hf
    · cases hf
  · cases hf
theorem eqFs_ok {P : Program} {bs : List Nat} (d : Nat) {CX CY : List Sc} : ∀ (fs : List Field) (zs : List Sc) (off : Nat) (l b : Bool), flatFs P fs zs off = true → kinds (CX.drop off) zs = true → kinds (CY.drop off) zs = true → eqCells (CX.drop off) (CY.drop off) = some (l, b) →
    ∀ w, (Op.eqFields (d + 2) (CX.map (Sc.γ bs)).toArray (CY.map (Sc.γ bs)).toArray fs).run P w = .ok b w
  | [], [], off, l, b, _, hx, hy, he, w => by
    cases hdx : CX.drop off with
    | cons => rw [hdx] at hx; simp [kinds] at hx
    | nil =>
      cases hdy : CY.drop off with
      | cons => rw [hdy] at hy; simp [kinds] at hy
      | nil => rw [hdx, hdy] at he; cases he; simp [Op.eqFields]
  | [], _ :: _, _, _, _, h, _, _, _, _ => by simp [flatFs] at h
  | f :: fs, zs, off, l, b, hf, hx, hy, he, w => by
    simp only [flatFs, Bool.and_eq_true, beq_iff_eq, bne_iff_ne] at hf
    obtain ⟨⟨hn, ho⟩, hr⟩ := hf
    split at hr
    · rename_i n hF
      obtain ⟨l1, b1, l2, b2, e1, e2, rfl⟩ := eqCells_split n he
      obtain ⟨u, v, p1, p2, p3⟩ := flatF_ok (bs := bs) hF hx hy e1 d w
      have rest := eqFs_ok (bs := bs) d fs (zs.drop n) (off + n) l2 b2 hr (by rw [← List.drop_drop]; exact kinds_drop n hx) (by rw [← List.drop_drop]; exact kinds_drop n hy) (by rw [← List.drop_drop, ← List.drop_drop]; exact e2) w
      simp only [Op.eqFields]
      rw [if_pos hn]
      simp only [ho, Sem.run_bind, p1, p2, Result.andThen_ok, p3]
      cases b1 with
      | true => simp only [Bool.not_true, Bool.false_eq_true, if_false, Bool.true_and]; exact rest
      | false => simp
    · cases hr
theorem flat_ok (P : Program) : EqOk P (flatT P) := by
  intro t h
  unfold flatT at h
  split at h
  · rename_i fs zs hu hz
    simp only [Bool.and_eq_true, Bool.not_eq_true'] at h
    refine ⟨h.2, fun bs zs' xs ys l b hz' hx hy he w => ?_⟩
    rw [hz] at hz'
    cases hz'
    have hfo : P.underlying t = some (.struct (P.fieldsOf t)) := by simp [Program.fieldsOf, hu]
    have e1 := run_equalIn_struct w 9999 t (xs.map (Sc.γ bs)).toArray (ys.map (Sc.γ bs)).toArray hfo h.1.2
    rw [show (9999 : Nat) + 1 = 10000 from rfl] at e1
    rw [e1]
    have hfs : P.fieldsOf t = fs := by simp [Program.fieldsOf, hu]
    rw [hfs]
    exact eqFs_ok (bs := bs) 9997 fs.toList zs 0 l b h.1.1 hx hy he w
  · cases h
end Go.Proofs.Ytmbahohmiecfiaa.sym
