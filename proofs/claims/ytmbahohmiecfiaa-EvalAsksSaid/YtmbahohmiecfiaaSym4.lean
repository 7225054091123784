/-
  What the walk by computing says of one operation is so: loads, stores, aggregates that are built, calls by contract; then all of them under one name. No conditions but those that stand in each theorem.
-/
import Derived.Test.YtmbahohmiecfiaaSym3
namespace Go.Proofs.Ytmbahohmiecfiaa.sym
open Go.RowKit
set_option linter.unusedVariables false
set_option linter.unusedSimpArgs false

theorem run_loadOwn {P : Program} {bs : List Nat} {w : World} {t : TypeId} {b off n : Nat} {cs : List Sc} {isA : Bool} (ha : tAgg P t = some isA) (hs : tSize P t = some n) (hl : cs.length = n)
    (hc : ∀ q c, cs[q]? = some c → w.cell? ⟨b, off + q, none⟩ = some (c.γ bs)) : isA = true → (loadVar t ⟨b, off, none⟩).run P w = .ok (.agg (cs.map (Sc.γ bs)).toArray) w := by
  intro hA
  subst hA
  simp only [loadVar, Sem.run_bind, run_isAgg ha, run_size hs, Result.andThen_ok, if_true]
  have := run_loadCells_list (P := P) w ⟨b, off, none⟩ (cs.map (Sc.γ bs)) (fun j v hj => by
    rw [List.getElem?_map] at hj
    cases hq : cs[j]? with
    | none => simp [hq] at hj
    | some c => simp [hq] at hj; subst hj; rw [add_plain]; exact hc j c hq)
  rw [List.length_map, hl] at this
  rw [this]
  rfl
theorem run_loadOne {P : Program} {w : World} {t : TypeId} {a : Addr} {v : Value} (ha : tAgg P t = some false) (hc : w.cell? a = some v) : (loadVar t a).run P w = .ok v w := by
  simp [loadVar, Sem.run_bind, run_isAgg ha, hc]

theorem exec_load {P : Program} {ev : Operand → Value} {w : World} {d : Option Tmp} {t ty : TypeId} {x : Operand} {pos : String} {af : Array Edge} {g : Option (Nat × Bool)} {a : Addr} {v : Value} (hx : ev x = .pointer (some a)) (h : (loadVar t a).run P w = .ok v w) :
    (execOp ev ⟨d, .load t x, ty, pos, af, g⟩).run P w = .ok (.value v) w := by
  simp [execOp, Instr.loadAt, hx, Instr.sureAddr, h]

theorem take_drop_get {l : List Sc} {off n q : Nat} {c : Sc} (h : ((l.drop off).take n)[q]? = some c) : q < n ∧ l[off + q]? = some c := by
  rw [List.getElem?_take] at h
  split at h
  · rw [List.getElem?_drop] at h
    exact ⟨by assumption, h⟩
  · cases h

/-- A cell of rows that were handed in. -/
theorem xok_at {w0 w : World} {bs : List Nat} {b off : Nat} {cell : Nat → Nat → Sc} {sz len i q : Nat} (hX : XOk w0 (some ⟨b, off, none⟩) cell sz len) (hb : Below w0.heap.size w0 w) (hi : i < len) (hq : q < sz) : w.cell? ⟨b, off + (i * sz + q), none⟩ = some ((cell i q).γ bs) := by
  obtain ⟨b', off', e, hlt, hcell, hwf⟩ := hX i hi q hq
  cases e
  rw [hb.cell (p := ⟨b, off + (i * sz + q), none⟩) hlt, hcell, Sc.γ_any (bs' := bs) hwf]
theorem rowOf_some {h : List Blk} {r : Nat} {nl : Bool} {ks : List IntKind} {xs : List Int} {cap : Nat} {t : TypeId} (e : rowOf h r = some (nl, ks, xs, cap, t)) : ∃ k, h[r]? = some k ∧ k.cells = [.row nl ks xs cap] ∧ k.t = t := by
  unfold rowOf at e
  split at e
  · rename_i k hk
    split at e
    · rename_i hc
      cases e
      exact ⟨k, hk, hc, rfl⟩
    · cases e
  · cases e
/-- A row, in another heap that is alike there. -/
theorem agree_row {h h' : List Blk} {r : Nat} {k : Blk} {c : Sc} (ag : Agree h h' (.rd r 0 1)) (hr : h[r]? = some k) (hc : k.cells = [c]) : ∃ k', h'[r]? = some k' ∧ k'.cells = [c] ∧ k'.t = k.t := by
  obtain ⟨k', hr', ⟨_, e2, e3⟩, hq⟩ := ag k hr
  refine ⟨k', hr', ?_, e3⟩
  have := hq 0 (by omega)
  rw [hc] at this e2
  match hk : k'.cells, e2 with
  | [x], _ =>
    rw [hk] at this
    simp at this
    rw [this]
theorem Rep.rowCell {m : Nat → Bool} {w0 w : World} {bs : List Nat} {h : List Blk} (R : Rep m w0 bs h w) {r : Nat} {k : Blk} (hm : m r = true) (hr : h[r]? = some k) {ks : List IntKind} {xs : List Int} {cap : Nat} (hc : k.cells = [.row false ks xs cap]) {j : Nat} (hj : j < xs.length) :
    w.cell? ⟨bs.getD r 0, j, none⟩ = some (.int (ks.getD (j % ks.length) .u8) (xs.getD j 0)) := by
  obtain ⟨_, cur, h2, hi⟩ := (R.blk r k hm hr).row _ _ _ hc
  simp only [World.cell?, h2]
  simpa using hi.cell j hj
theorem frOf_some {h : List Blk} {r : Nat} {nl : Bool} {fs : List Fr} {cap : Nat} {t : TypeId} (e : frOf h r = some (nl, fs, cap, t)) : ∃ k, h[r]? = some k ∧ k.cells = [.frs nl fs cap] ∧ k.t = t := by
  unfold frOf at e
  split at e
  · rename_i k hk
    split at e
    · rename_i hc
      cases e
      exact ⟨k, hk, hc, rfl⟩
    · cases e
  · cases e
theorem frVals_length : ∀ fs : List Fr, (frVals fs).length = fs.length * 2
  | [] => rfl
  | f :: l => by simp only [frVals, List.length_cons, frVals_length l]; omega
theorem frVals_get : ∀ (fs : List Fr) (i : Nat), i < fs.length → (frVals fs)[i * 2]? = some (.int .u8 (frAt fs i).s) ∧ (frVals fs)[i * 2 + 1]? = some (.slice (frAt fs i).a (frAt fs i).xs.length (frAt fs i).cap)
  | [], i, h => by simp at h
  | f :: l, 0, h => ⟨rfl, rfl⟩
  | f :: l, i + 1, h => by
    have := frVals_get l i (by simpa using h)
    rw [show (i + 1) * 2 = i * 2 + 1 + 1 by omega]
    exact this
theorem frVals_append : ∀ (l m : List Fr), frVals (l ++ m) = frVals l ++ frVals m
  | [], m => rfl
  | f :: l, m => by simp only [List.cons_append, frVals, frVals_append l m]
theorem frVals_take : ∀ (l : List Fr) (n : Nat), (frVals l).take (n * 2) = frVals (l.take n)
  | [], n => by simp [frVals]
  | f :: l, 0 => by simp [frVals]
  | f :: l, n + 1 => by
    rw [show (n + 1) * 2 = n * 2 + 1 + 1 by omega]
    simp only [frVals, List.take_succ_cons, frVals_take l n]
theorem frVals_drop : ∀ (l : List Fr) (n : Nat), (frVals l).drop (n * 2) = frVals (l.drop n)
  | [], n => by simp [frVals]
  | f :: l, 0 => by simp [frVals]
  | f :: l, n + 1 => by
    rw [show (n + 1) * 2 = n * 2 + 1 + 1 by omega]
    simp only [frVals, List.drop_succ_cons, frVals_drop l n]
theorem frVals_one (fs : List Fr) : ∀ u ∈ frVals fs, u.oneCell' = true := by
  induction fs with
  | nil => intro u hu; cases hu
  | cons f l ih =>
    intro u hu
    simp only [frVals, List.mem_cons] at hu
    rcases hu with rfl | rfl | hu
    · rfl
    · rfl
    · exact ih u hu
theorem frAt_mem {fs : List Fr} {i : Nat} (h : i < fs.length) : frAt fs i ∈ fs := by
  unfold frAt
  rw [List.getElem?_eq_getElem h]
  exact List.getElem_mem h
theorem Rep.frCell {m : Nat → Bool} {w0 w : World} {bs : List Nat} {h : List Blk} (R : Rep m w0 bs h w) {r : Nat} {k : Blk} (hm : m r = true) (hr : h[r]? = some k) {fs : List Fr} {cap : Nat} (hc : k.cells = [.frs false fs cap]) {j : Nat} {v : Value} (hj : (frVals fs)[j]? = some v) :
    w.cell? ⟨bs.getD r 0, j, none⟩ = some v := by
  obtain ⟨_, cur, h2, hi⟩ := ((R.blk r k hm hr).frs _ _ _ hc).2.1 rfl
  simp only [World.cell?, h2]
  have hlt : j < fs.length * 2 := by rw [← frVals_length]; exact (List.getElem?_eq_some_iff.1 hj).1
  rw [← hi.take, List.getElem?_take, if_pos hlt] at hj
  simpa using hj
theorem frPart_ok {r : Nat} {f : Fr} {isA : Bool} {n q : Nat} {K : AV × Eff → Prop} (h : (frPart r f isA n q).holds K) :
    (isA = true ∧ n = 2 ∧ q = 0 ∧ K (.v (.agg [.int false .u8 f.s, .fz r f]), .rd r 0 1)) ∨ (isA = false ∧ n = 1 ∧ q = 0 ∧ K (.v (.one (.int false .u8 f.s)), .rd r 0 1)) ∨ (isA = false ∧ n = 1 ∧ q = 1 ∧ K (.v (.one (.fz r f)), .rd r 0 1)) := by
  unfold frPart at h
  split at h
  · split at h
    · rename_i hh
      simp only [Bool.and_eq_true] at hh
      exact .inl ⟨rfl, Nat.eq_of_beq_eq_true hh.1, Nat.eq_of_beq_eq_true hh.2, h⟩
    · exact h.elim
  · split at h
    · rename_i hh
      have hn := Nat.eq_of_beq_eq_true hh
      split at h
      · exact .inr (.inl ⟨rfl, hn, rfl, h⟩)
      · exact .inr (.inr ⟨rfl, hn, rfl, h⟩)
      · exact h.elim
    · exact h.elim
theorem mod_in {i sz q : Nat} (h : q < sz) : (i * sz + q) % sz = q := by
  rw [Nat.add_comm, Nat.add_mul_mod_self_right, Nat.mod_eq_of_lt h]
theorem xc_at {w0 w : World} {b off : Nat} {ks : List IntKind} {xs : List Int} {j : Nat} (hX : XC w0 (some ⟨b, off, none⟩) ks xs) (hb : Below w0.heap.size w0 w) (hj : j < xs.length) : w.cell? ⟨b, off + j, none⟩ = some (.int (ks.getD (j % ks.length) .u8) (xs.getD j 0)) := by
  obtain ⟨b', off', e, hlt, hcell⟩ := hX j hj
  cases e
  rw [hb.cell (p := ⟨b, off + j, none⟩) hlt, hcell]
/-- A load, in a world where the cells are as they must be. -/
theorem loadT_run {P : Program} {w0 : World} {t : TypeId} {h : List Blk} {x : AV} {K : AV × Eff → Prop} (hK : (loadT P w0 h t x).holds K) :
    ∃ (v : V) (e : Eff), K (.v v, e) ∧ (∀ h', e ≠ .full h') ∧ Within h e ∧ e.appW = id ∧ (∀ m n, e.more m n = m) ∧ (∀ bs n, Near bs bs n e) ∧ (Agree h h e ∧ Foot (lt h.length) h.length e) ∧ x ≠ .any ∧ ∀ bs u, x.Is bs u → ∀ m h' w, Agree h h' e → Foot m h.length e → Rep m w0 bs h' w → ∃ ad, u = .pointer (some ad) ∧ (loadVar t ad).run P w = .ok (v.γ bs) w := by
  unfold loadT at hK
  split at hK
  · rename_i isA n r off ha hs
    split at hK
    · rename_i k hr
      split at hK
      · rename_i hpl
        split at hK
        · rename_i hle
          split at hK
          · refine ⟨_, _, hK, (fun h' e => by cases e), ⟨k, hr⟩, rfl, fun _ _ => rfl, fun _ _ => rfl, ⟨fun k hk => ⟨k, hk, ⟨rfl, rfl, rfl⟩, fun _ _ => rfl⟩, lt_iff.2 (List.getElem?_eq_some_iff.1 hr).1⟩, by simp, fun bs u hu m h' w ag ft R => ?_⟩
            have e1 : u = .pointer (some ⟨bs.getD r 0, off, none⟩) := hu
            obtain ⟨k', hr', he, hc⟩ := ag k hr
            refine ⟨_, e1, run_loadOwn ha hs (by simp; omega) (fun q c hq => ?_) rfl⟩
            obtain ⟨hqn, hq⟩ := take_drop_get hq
            exact R.cell ft hr' (he.1.trans hpl) (by rw [hc q hqn]; exact hq)
          · split at hK
            · rename_i c hc0
              refine ⟨_, _, hK, (fun h' e => by cases e), ⟨k, hr⟩, rfl, fun _ _ => rfl, fun _ _ => rfl, ⟨fun k hk => ⟨k, hk, ⟨rfl, rfl, rfl⟩, fun _ _ => rfl⟩, lt_iff.2 (List.getElem?_eq_some_iff.1 hr).1⟩, by simp, fun bs u hu m h' w ag ft R => ?_⟩
              have e1 : u = .pointer (some ⟨bs.getD r 0, off, none⟩) := hu
              obtain ⟨k', hr', he, hc⟩ := ag k hr
              refine ⟨_, e1, run_loadOne ha (R.cell ft hr' (he.1.trans hpl) (by have := hc 0 (by omega); simp only [Nat.add_zero] at this; rw [this]; exact hc0))⟩
            · exact hK.elim
        · exact hK.elim
      · exact hK.elim
    · exact hK.elim
  · rename_i isA n r sz i q ha hs
    split at hK
    · rename_i nl ks xs cap rt hro
      obtain ⟨k, hr, hc, rfl⟩ := rowOf_some hro
      split at hK
      · rename_i hb
        simp only [Bool.and_eq_true] at hb
        have hsz := Nat.eq_of_beq_eq_true hb.1
        have hqn := Nat.le_of_ble_eq_true hb.2
        subst hsz
        obtain ⟨⟨rfl, hle⟩, hK⟩ := hK
        have core : ∀ (bs : List Nat) (u : Value), (AV.v (.one (.rp r ks.length i q))).Is bs u → ∀ m h' w, Agree h h' (.rd r 0 1) → Foot m h.length (.rd r 0 1) → Rep m w0 bs h' w → u = .pointer (some ⟨bs.getD r 0, i * ks.length + q, none⟩) ∧ ∀ p, p < n → w.cell? ⟨bs.getD r 0, i * ks.length + q + p, none⟩ = some (.int (ks.getD (q + p) .u8) (xs.getD (i * ks.length + (q + p)) 0)) := by
          intro bs u hu m h' w ag ft R
          obtain ⟨k', hr', hc', _⟩ := agree_row ag hr hc
          refine ⟨hu, fun p hp => ?_⟩
          have := R.rowCell ft hr' hc' (j := i * ks.length + (q + p)) (by omega)
          rw [mod_in (by omega)] at this
          rw [Nat.add_assoc]; exact this
        split at hK
        · refine ⟨_, _, hK, (fun h' e => by cases e), ⟨k, hr⟩, rfl, fun _ _ => rfl, fun _ _ => rfl, ⟨fun k hk => ⟨k, hk, ⟨rfl, rfl, rfl⟩, fun _ _ => rfl⟩, lt_iff.2 (List.getElem?_eq_some_iff.1 hr).1⟩, by simp, fun bs u hu m h' w ag ft R => ?_⟩
          obtain ⟨e1, hcell⟩ := core bs u hu m h' w ag ft R
          refine ⟨_, e1, run_loadOwn ha hs (by simp) (fun p c hp => ?_) rfl⟩
          rw [List.getElem?_map] at hp
          by_cases hqn : p < n
          · simp [hqn] at hp
            subst hp
            have := hcell p hqn
            rw [Nat.add_assoc] at this ⊢
            simpa [Sc.γ] using this
          · rw [List.getElem?_eq_none (by simp; omega)] at hp
            cases hp
        · split at hK
          · rename_i hn1
            have hn1 := Nat.eq_of_beq_eq_true hn1
            subst hn1
            refine ⟨_, _, hK, (fun h' e => by cases e), ⟨k, hr⟩, rfl, fun _ _ => rfl, fun _ _ => rfl, ⟨fun k hk => ⟨k, hk, ⟨rfl, rfl, rfl⟩, fun _ _ => rfl⟩, lt_iff.2 (List.getElem?_eq_some_iff.1 hr).1⟩, by simp, fun bs u hu m h' w ag ft R => ?_⟩
            obtain ⟨e1, hcell⟩ := core bs u hu m h' w ag ft R
            have := hcell 0 (by omega)
            simp only [Nat.add_zero] at this
            exact ⟨_, e1, run_loadOne ha this⟩
          · exact hK.elim
      · exact hK.elim
    · split at hK
      · rename_i nl fs cap rt hro
        obtain ⟨k, hr, hc, rfl⟩ := frOf_some hro
        split at hK
        · rename_i hb
          have hsz := Nat.eq_of_beq_eq_true hb
          subst hsz
          obtain ⟨⟨rfl, hlt⟩, hK⟩ := hK
          obtain ⟨g1, g2⟩ := frVals_get fs i hlt
          have core : ∀ (bs : List Nat) (u : Value), (AV.v (.one (.rp r 2 i q))).Is bs u → ∀ m h' w, Agree h h' (.rd r 0 1) → Foot m h.length (.rd r 0 1) → Rep m w0 bs h' w → u = .pointer (some ⟨bs.getD r 0, i * 2 + q, none⟩) ∧ ∀ j v, (frVals fs)[j]? = some v → w.cell? ⟨bs.getD r 0, j, none⟩ = some v := by
            intro bs u hu m h' w ag ft R
            obtain ⟨k', hr', hc', _⟩ := agree_row ag hr hc
            exact ⟨hu, fun j v hj => R.frCell ft hr' hc' hj⟩
          rcases frPart_ok hK with ⟨rfl, rfl, rfl, hK⟩ | ⟨rfl, rfl, rfl, hK⟩ | ⟨rfl, rfl, rfl, hK⟩
          · refine ⟨_, _, hK, (fun h' e => by cases e), ⟨k, hr⟩, rfl, fun _ _ => rfl, fun _ _ => rfl, ⟨fun k hk => ⟨k, hk, ⟨rfl, rfl, rfl⟩, fun _ _ => rfl⟩, lt_iff.2 (List.getElem?_eq_some_iff.1 hr).1⟩, by simp, fun bs u hu m h' w ag ft R => ?_⟩
            obtain ⟨e1, hcell⟩ := core bs u hu m h' w ag ft R
            refine ⟨_, e1, run_loadOwn ha hs rfl (fun p c hp => ?_) rfl⟩
            match p with
            | 0 => cases hp; exact hcell _ _ g1
            | 1 => cases hp; exact hcell _ _ g2
            | p + 2 => simp at hp
          · refine ⟨_, _, hK, (fun h' e => by cases e), ⟨k, hr⟩, rfl, fun _ _ => rfl, fun _ _ => rfl, ⟨fun k hk => ⟨k, hk, ⟨rfl, rfl, rfl⟩, fun _ _ => rfl⟩, lt_iff.2 (List.getElem?_eq_some_iff.1 hr).1⟩, by simp, fun bs u hu m h' w ag ft R => ?_⟩
            obtain ⟨e1, hcell⟩ := core bs u hu m h' w ag ft R
            exact ⟨_, e1, run_loadOne ha (hcell _ _ g1)⟩
          · refine ⟨_, _, hK, (fun h' e => by cases e), ⟨k, hr⟩, rfl, fun _ _ => rfl, fun _ _ => rfl, ⟨fun k hk => ⟨k, hk, ⟨rfl, rfl, rfl⟩, fun _ _ => rfl⟩, lt_iff.2 (List.getElem?_eq_some_iff.1 hr).1⟩, by simp, fun bs u hu m h' w ag ft R => ?_⟩
            obtain ⟨e1, hcell⟩ := core bs u hu m h' w ag ft R
            exact ⟨_, e1, run_loadOne ha (hcell _ _ g2)⟩
        · exact hK.elim
      · exact hK.elim
  · rename_i r f i ha hs
    split at hK
    · rename_i nl fs cap rt hro
      obtain ⟨k, hr, hc, rfl⟩ := frOf_some hro
      obtain ⟨⟨hf, hlt⟩, hK⟩ := hK
      obtain ⟨b, off, hfa⟩ := f.ok (by rintro e; rw [e] at hlt; simp at hlt)
      refine ⟨_, _, hK, (fun h' e => by cases e), ⟨k, hr⟩, rfl, fun _ _ => rfl, fun _ _ => rfl, ⟨fun k hk => ⟨k, hk, ⟨rfl, rfl, rfl⟩, fun _ _ => rfl⟩, lt_iff.2 (List.getElem?_eq_some_iff.1 hr).1⟩, by simp, fun bs u hu m h' w ag ft R => ?_⟩
      obtain ⟨k', hr', hc', _⟩ := agree_row ag hr hc
      have e1 : u = .pointer (some ⟨b, off + i, none⟩) := by
        have := AV.is_v hu
        simpa [V.γ, Sc.γ, hfa, add_plain] using this
      exact ⟨_, e1, run_loadOne ha ((R.blk r k' ft hr').ice (by rw [frsIn_of hc']; exact hf) b off hfa i hlt).2⟩
    · exact hK.elim
  · rename_i isA n a ks xs i q ha hs
    split at hK
    · rename_i hb
      have hqn := Nat.le_of_ble_eq_true hb
      obtain ⟨⟨hX, h0, hle⟩, hK⟩ := hK
      obtain ⟨b, off, rfl⟩ := xr_some hX (by omega)
      have core : ∀ (bs : List Nat) (u : Value), (AV.v (.one (.xq (some ⟨b, off, none⟩) ks xs i q))).Is bs u → ∀ m h' w, Rep m w0 bs h' w → u = .pointer (some ⟨b, off + (i * ks.length + q), none⟩) ∧ ∀ p, p < n → w.cell? ⟨b, off + (i * ks.length + q) + p, none⟩ = some (.int (ks.getD (q + p) .u8) (xs.getD (i * ks.length + (q + p)) 0)) := by
        intro bs u hu m h' w R
        refine ⟨by have := AV.is_v hu; simpa [V.γ, Sc.γ, add_plain] using this, fun p hp => ?_⟩
        have := xc_at hX R.below (j := i * ks.length + (q + p)) (by omega)
        rw [mod_in (by omega)] at this
        rw [Nat.add_assoc, Nat.add_assoc]; exact this
      split at hK
      · refine ⟨_, _, hK, (fun h' e => by cases e), trivial, rfl, fun _ _ => rfl, fun _ _ => rfl, ⟨trivial, trivial⟩, by simp, fun bs u hu m h' w ag ft R => ?_⟩
        obtain ⟨e1, hcell⟩ := core bs u hu m h' w R
        refine ⟨_, e1, run_loadOwn ha hs (by simp) (fun p c hp => ?_) rfl⟩
        rw [List.getElem?_map] at hp
        by_cases hqn : p < n
        · simp [hqn] at hp
          subst hp
          have := hcell p hqn
          rw [Nat.add_assoc] at this ⊢
          simpa [Sc.γ] using this
        · rw [List.getElem?_eq_none (by simp; omega)] at hp
          cases hp
      · split at hK
        · rename_i hn1
          have hn1 := Nat.eq_of_beq_eq_true hn1
          subst hn1
          refine ⟨_, _, hK, (fun h' e => by cases e), trivial, rfl, fun _ _ => rfl, fun _ _ => rfl, ⟨trivial, trivial⟩, by simp, fun bs u hu m h' w ag ft R => ?_⟩
          obtain ⟨e1, hcell⟩ := core bs u hu m h' w R
          have := hcell 0 (by omega)
          simp only [Nat.add_zero] at this
          exact ⟨_, e1, run_loadOne ha this⟩
        · exact hK.elim
    · exact hK.elim
  · rename_i n a cell sz len i of ha hs
    obtain ⟨⟨hX, h0, hi, hj⟩, hK⟩ := hK
    obtain ⟨b, off, rfl⟩ := xok_some hX (by omega) h0
    refine ⟨_, _, hK, (fun h' e => by cases e), trivial, rfl, fun _ _ => rfl, fun _ _ => rfl, ⟨trivial, trivial⟩, by simp, fun bs u hu m h' w ag ft R => ?_⟩
    have e2 : u = .pointer (some ⟨b, off + (i * sz + of), none⟩) := by
      have := AV.is_v hu
      simpa [V.γ, Sc.γ, add_plain] using this
    refine ⟨_, e2, run_loadOwn ha hs (cs := (List.range n).map fun q => cell i (of + q)) (by simp) (fun q c hq => ?_) rfl⟩
    rw [List.getElem?_map] at hq
    by_cases hqn : q < n
    · simp [hqn] at hq
      subst hq
      rw [Nat.add_assoc, Nat.add_assoc]
      exact xok_at hX R.below hi (by omega)
    · rw [List.getElem?_eq_none (by simp; omega)] at hq
      cases hq
  · rename_i n a cell sz len i of ha hs
    obtain ⟨⟨hX, hi, hj⟩, hK⟩ := hK
    obtain ⟨b, off, rfl⟩ := xok_some hX (by omega) (by omega)
    refine ⟨_, _, hK, (fun h' e => by cases e), trivial, rfl, fun _ _ => rfl, fun _ _ => rfl, ⟨trivial, trivial⟩, by simp, fun bs u hu m h' w ag ft R => ?_⟩
    have e2 : u = .pointer (some ⟨b, off + (i * sz + of), none⟩) := by
      have := AV.is_v hu
      simpa [V.γ, Sc.γ, add_plain] using this
    exact ⟨_, e2, run_loadOne ha (xok_at hX R.below hi (by omega))⟩
  · exact hK.elim
theorem loadT_ok {P : Program} {w0 : World} (o : Oper) (t : TypeId) (xo : Operand) (ho : o.op = .load t xo) (ts : List AV) (h : List Blk) (K : AV × Eff → Prop) (hK : (loadT P w0 h t (opd ts xo)).holds K) :
    ∃ x e, K (x, e) ∧ Loc P w0 o ts h x e := by
  obtain ⟨d, op, ty, pos, af, g⟩ := o
  simp only at ho
  subst ho
  obtain ⟨v, e, hk, hf, hw, hid, hmo, hne, _, hn, hr⟩ := loadT_run hK
  refine ⟨_, e, hk, ⟨by simp, hf, hw⟩, fun bs ev hev m h' w ag ft R => ?_⟩
  obtain ⟨ad, e1, h1⟩ := hr bs _ (hev xo (by simp [Op.operands])) m h' w ag ft R
  exact Up.value (exec_load e1 h1) ⟨bs, hne bs _, rfl, by rw [hid, hmo]; exact R⟩

theorem map_setAll (bs : List Nat) (cells cs : List Sc) (off : Nat) : (setAll cells off cs).map (Sc.γ bs) = (cells.map (Sc.γ bs)).take off ++ cs.map (Sc.γ bs) ++ (cells.map (Sc.γ bs)).drop (off + cs.length) := by
  simp [setAll, List.map_take, List.map_drop]
theorem storeT_ok {P : Program} {w0 : World} (o : Oper) (t : TypeId) (xo yo : Operand) (ho : o.op = .store t xo yo) (ts : List AV) (h : List Blk) (K : AV × Eff → Prop) (hK : (storeT P h t (opd ts xo) (opd ts yo)).holds K) :
    ∃ x e, K (x, e) ∧ Loc P w0 o ts h x e := by
  obtain ⟨d, op, ty, pos, af, g⟩ := o
  simp only at ho
  subst ho
  unfold storeT at hK
  split at hK
  · rename_i n r off y hs hx hy
    split at hK
    · rename_i k hr
      split at hK
      · rename_i hpl
        split at hK
        · rename_i hle
          split at hK
          · rename_i hn
            split at hK
            · rename_i hf
              have hreal := V.fine_real hf
              refine ⟨_, _, hK, ⟨by simp, (fun h' e => by cases e), k, hr, ⟨hpl, hreal⟩, by rw [hn]; exact hle⟩, fun bs ev hev m h' w ag ft R => ?_⟩
              have e1 := hev xo (by simp [Op.operands])
              have e2 := hev yo (by simp [Op.operands])
              rw [hx] at e1
              rw [hy] at e2
              obtain ⟨k', hr', hpl', hc⟩ := ag k hr
              rw [hpl] at hpl'
              have e1' : ev xo = .pointer (some ⟨bs.getD r 0, off, none⟩) := e1
              have e2' : ev yo = y.γ bs := e2
              have hrow := ((R.blk r k' ft.1 hr').plain hpl').2
              have hst := run_storeCells_at (P := P) (bs.getD r 0) off k'.t (y.list.map (Sc.γ bs)) 0 _ w hrow (by simp; omega) (V.list_flat hf)
              have hlist := V.list_γ (bs := bs) hf
              refine Up.skip (w' := w.setRow (bs.getD r 0) ((setAll k'.cells off y.list).map (Sc.γ bs)).toArray) ?_ ⟨bs, rfl, rfl, R.write ft.1 hr' hpl' hreal ft.2⟩
              rw [map_setAll]
              simp only [execOp, Instr.storeAt, e1', e2', Instr.sureAddr, Sem.run_bind, Sem.run_pure, Result.andThen_ok, storeVar, run_size hs, hlist]
              rw [if_neg (by simp [hn])]
              simp only [Sem.run_bind, Sem.run_pure, Result.andThen_ok] at hst ⊢
              rw [hst]
              simp
            · exact hK.elim
          · exact hK.elim
        · exact hK.elim
      · exact hK.elim
    · exact hK.elim
  · exact hK.elim

/-! ### Aggregates -/
theorem foldl_sets (off : Nat) : ∀ (l : List Value) (i : Nat) (cells : Array Value), off + i + l.length ≤ cells.size →
    ((l.zipIdx i).foldl (fun cs (x : Value × Nat) => cs.setIfInBounds (off + x.2) x.1) cells).toList = cells.toList.take (off + i) ++ l ++ cells.toList.drop (off + i + l.length)
  | [], i, cells, _ => by simp
  | v :: l, i, cells, h => by
    simp only [List.zipIdx_cons, List.foldl_cons]
    simp only [List.length_cons] at h
    rw [foldl_sets off l (i + 1) _ (by simp; omega)]
    have e := list_seg_step cells.toList (off + i) v l (by simp; omega)
    rw [Array.toList_setIfInBounds]
    simpa [Nat.add_assoc] using e
theorem fillA_ok {bs : List Nat} (place : Nat → Option (Nat × Nat)) : ∀ (parts : List (Nat × V)) (cells cs : List Sc), fillA place cells parts = some cs →
    Instr.fill place (cells.map (Sc.γ bs)).toArray (parts.map fun x => (x.1, x.2.γ bs)) = some (cs.map (Sc.γ bs)).toArray
  | [], cells, cs, h => by cases h; rfl
  | (i, v) :: rest, cells, cs, h => by
    unfold fillA at h
    split at h
    · cases h
    · rename_i off size hp
      split at h
      · rename_i hl
        split at h
        · rename_i hle
          split at h
          · rename_i hf
            have ih := fillA_ok (bs := bs) place rest _ _ h
            have hv := V.list_γ (bs := bs) hf
            simp only [List.map_cons, Instr.fill, hp]
            rw [if_neg (by rw [hv]; simp; omega), ← ih]
            congr 1
            apply Array.ext'
            rw [hv]
            have := foldl_sets off (v.list.map (Sc.γ bs)) 0 (cells.map (Sc.γ bs)).toArray (by simp; omega)
            rw [← Array.foldl_toList, Array.toList_zipIdx, List.toList_toArray, this]
            simp [map_setAll]
          · cases h
        · cases h
      · cases h
theorem partsOf_ok {bs : List Nat} {ts : List AV} {ev : Operand → Value} : ∀ (ps : List (Nat × Operand)) (l : List (Nat × V)), (∀ x ∈ ps, (opd ts x.2).Is bs (ev x.2)) → partsOf ts ps = some l → ps.map (fun x => (x.1, ev x.2)) = l.map fun x => (x.1, x.2.γ bs)
  | [], l, _, h => by cases h; rfl
  | (i, x) :: r, l, hev, h => by
    unfold partsOf at h
    split at h
    · rename_i y l' hx hr
      cases h
      have e1 := hev (i, x) (by simp)
      simp only at e1
      rw [hx] at e1
      have e1' : ev x = y.γ bs := e1
      simp only [List.map_cons, e1', partsOf_ok r l' (fun z hz => hev z (by simp [hz])) hr]
    · cases h
theorem run_zero {P : Program} {bs : List Nat} {t : TypeId} {z : V} (h : zeroV P t = some z) (w : World) : (zeroValue t).run P w = .ok (z.γ bs) w := by
  unfold zeroV at h
  split at h
  · rename_i i hi
    cases hz : i.zero with
    | none => simp [hz] at h
    | some v => simp [hz] at h; subst h; simp [zeroValue, Sem.run_bind, run_typeInfo w hi, hz, vOf_γ]
  · cases h
theorem run_places {P : Program} (w : World) : ∀ (fs : List Field) (pl : List (Nat × Nat)), placesOf P fs = some pl → (fs.mapM fun (f : Field) => do pure (f.offset, ← sizeOf f.type)).run P w = .ok pl w
  | [], pl, h => by cases h; simp
  | f :: r, pl, h => by
    unfold placesOf at h
    split at h
    · rename_i n l hn hl
      cases h
      simp only [List.mapM_cons, Sem.run_bind, run_size hn, Result.andThen_ok, Sem.run_pure, run_places w r l hl]
    · cases h
theorem buildV_ok {P : Program} {bs : List Nat} {t : TypeId} {parts : List (Nat × V)} {cs : List Sc} (h : buildV P t parts = some cs) (ps : Array (Nat × Value)) (hps : ps.toList = parts.map fun x => (x.1, x.2.γ bs)) (w : World) :
    (Instr.build t ps).run P w = .ok (.agg (cs.map (Sc.γ bs)).toArray) w := by
  unfold buildV at h
  split at h
  · rename_i z hz
    split at h
    · rename_i hf
      have hzc := V.list_γ (bs := bs) hf
      split at h
      · rename_i fs hu
        split at h
        · rename_i pl hpl
          have hfill := fillA_ok (bs := bs) _ _ _ _ h
          have hm : (fs.mapM fun (f : Field) => do pure (f.offset, ← sizeOf f.type)).run P w = .ok pl.toArray w := by
            rw [Array.mapM_eq_mapM_toList]
            simp only [Sem.run_map, run_places w _ _ hpl, Result.andThen_ok]
          simp only [Instr.build, Sem.run_bind, run_zero (bs := bs) hz, run_underlying hu, Result.andThen_ok, hm, hzc, hps, List.getElem?_toArray, hfill, Sem.run_pure]
        · cases h
      · rename_i n e hu
        split at h
        · rename_i sz hs
          have hfill := fillA_ok (bs := bs) _ _ _ _ h
          simp only [Instr.build, Sem.run_bind, run_zero (bs := bs) hz, run_underlying hu, Result.andThen_ok, run_size hs, hzc, hps, hfill, Sem.run_pure]
        · cases h
      · cases h
    · cases h
  · cases h
end Go.Proofs.Ytmbahohmiecfiaa.sym
