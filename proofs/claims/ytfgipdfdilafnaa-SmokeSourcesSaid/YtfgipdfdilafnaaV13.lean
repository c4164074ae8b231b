/- append, proved. -/
import Derived.Test.YtfgipdfdilafnaaV12
set_option linter.unusedSimpArgs false
set_option linter.unusedVariables false
namespace Go.VV
open Go.RowKit

section
variable {P : Program} {G : Gl} {E : Env} {X : RX} {a : Act} {o : Oper} {mt : Mt} {K : Env → AV → Prop}

theorem els_spec (hi : Inv G X E.rows E.boxes) {y : AV} {v : Value} (hv : Rep X y v) {s s' : Nat} {l : List AV} (h : E.els s y = some (s', l)) :
    ∃ news A c, v = .slice A l.length c ∧ news.length = l.length * s' ∧ (A = none → l = []) ∧ (∀ ad, A = some ad → ∀ j u, news[j]? = some u → X.w.cell? (ad.add j) = some u) ∧ RepE X s' l news ∧ ∀ u ∈ news, u.oneCell' = true := by
  cases y with
  | nils =>
    simp only [Env.els, Option.some.injEq, Prod.mk.injEq] at h
    obtain ⟨rfl, rfl⟩ := h
    cases hv
    exact ⟨[], none, 0, rfl, by simp, fun _ => rfl, by simp, ⟨rfl, by simp, by simp⟩, by simp⟩
  | sl s0 m f =>
    simp only [Env.els, Option.some.injEq, Prod.mk.injEq] at h
    obtain ⟨rfl, rfl⟩ := h
    cases hv with
    | sl _ _ _ A c val hl hm hp h0 h1 h3 h2 =>
      have hlen : ((List.range m).map f).length = m := by simp
      have hgj : ∀ j b, ((List.range m).map f)[j]? = some b → j < m ∧ b = f j := by
        intro j b hb
        rcases Nat.lt_or_ge j m with hj | hj
        · simp [hj] at hb; exact ⟨hj, hb.symm⟩
        · simp [hj] at hb
      have key : ∀ k, k < m * s0 → ∃ q, k / s0 < m ∧ (f (k / s0)).cells[k % s0]? = some q ∧ k / s0 * s0 + k % s0 = k := by
        intro k hk
        have hs0 : 0 < s0 := by rcases Nat.eq_zero_or_pos s0 with h | h; · subst h; omega
                                · exact h
        have hj : k / s0 < m := (Nat.div_lt_iff_lt_mul hs0).2 hk
        have hq : k % s0 < (f (k / s0)).cells.length := by rw [h1 _ hj]; exact Nat.mod_lt _ hs0
        exact ⟨_, hj, List.getElem?_eq_getElem hq, by rw [Nat.mul_comm]; exact Nat.div_add_mod k s0⟩
      refine ⟨(List.range (m * s0)).map fun k => val (k / s0) (k % s0), A, c, by rw [hlen], by simp, ?_, ?_, ⟨?_, ?_, ?_⟩, ?_⟩
      · intro hA
        rcases Nat.eq_zero_or_pos m with h | h
        · subst h; rfl
        · obtain ⟨ad, e, _⟩ := h0 h
          rw [hA] at e; cases e
      · intro ad hA k u hk
        have hkl : k < m * s0 := by
          rcases Nat.lt_or_ge k (m * s0) with h | h
          · exact h
          · simp [h] at hk
        simp [hkl] at hk
        subst hk
        obtain ⟨q, hj, hq, e⟩ := key k hkl
        obtain ⟨ad', e', hF, hc⟩ := h0 (Nat.lt_of_le_of_lt (Nat.zero_le _) hj)
        rw [hA] at e'
        cases e'
        have := hc _ _ q hj hq
        rwa [e] at this
      · rw [AV.pureL_iff]
        intro b hb
        obtain ⟨j, hj, rfl⟩ := List.mem_map.1 hb
        exact hp j (List.mem_range.1 hj)
      · intro j b hb
        obtain ⟨hj, rfl⟩ := hgj j b hb
        exact h1 j hj
      · intro j b i q v hb hq hv
        obtain ⟨hj, rfl⟩ := hgj j b hb
        have hi : i < s0 := (h1 j hj) ▸ (List.getElem?_eq_some_iff.1 hq).1
        have hk : j * s0 + i < m * s0 := by
          rcases Nat.lt_or_ge (j * s0 + i) (m * s0) with h | h
          · exact h
          · simp [h] at hv
        have hs0 : 0 < s0 := by omega
        have e1 : (j * s0 + i) / s0 = j := by rw [Nat.mul_comm, Nat.mul_add_div hs0, Nat.div_eq_of_lt hi, Nat.add_zero]
        have e2 : (j * s0 + i) % s0 = i := by rw [Nat.mul_comm, Nat.mul_add_mod, Nat.mod_eq_of_lt hi]
        simp [hk, e1, e2] at hv
        subst hv
        exact h2 j i q hj hq
      · intro u hu
        obtain ⟨k, hk, rfl⟩ := List.mem_map.1 hu
        obtain ⟨q, hj, hq, _⟩ := key k (List.mem_range.1 hk)
        exact h3 _ _ q hj hq
  | own k =>
    simp only [Env.els, Option.map_eq_some_iff, Prod.mk.injEq] at h
    obtain ⟨R, hR, rfl, rfl⟩ := h
    obtain ⟨xs, ho, hE, h1⟩ := (hi.row k R hR).rep
    have hvk : v = X.κ k := by cases hv; rfl
    rcases ho.2 with ⟨e, h0⟩ | ⟨g, cap, cur, e, _, hg, hc1, hc2, hc3, hc4⟩
    · exact ⟨xs, none, 0, by rw [hvk, e, h0], ho.1, fun _ => List.eq_nil_of_length_eq_zero h0, by simp, hE, h1⟩
    · refine ⟨xs, some ⟨g, 0, none⟩, cap, by rw [hvk, e], ho.1, by simp, fun ad e' j u hu => ?_, hE, h1⟩
      cases e'
      exact ho.cells (by rw [e]; rfl) j u hu
  | _ => simp [Env.els] at h

theorem run_append_none (t ty e : TypeId) (i : TypeInfo) (ht : P.underlying t = some (.slice e)) (hi : P.info? e = some i) (w : World) (c : Nat)
    (v : Value) (n s : Nat) (xs : List Value) (hown : w.ownsRow 0 e s v n xs) :
    (Builtin.append_ #[t, t] ty #[v, .slice none 0 c]).run P w = .ok v w := by
  rcases hown.2 with ⟨rfl, rfl⟩ | ⟨g, cap, cur, rfl, _, _, hnc, _⟩
  · simp [Builtin.append_, run_underlying ht, sizeOf, typeInfo, hi, Builtin.lenOf, Builtin.firstCells]
  · simp [Builtin.append_, run_underlying ht, sizeOf, typeInfo, hi, Builtin.lenOf, Builtin.firstCells, hnc, storeCells]

theorem app_own (hs : Sat G E X a) {t ty e : TypeId} {inf : TypeInfo} {z : Value} (hu : P.underlying t = some (.slice e)) (hi0 : P.info? e = some inf) (hz : inf.zero = some z) (hzs : z.cells.size = inf.size) (h0 : 0 < inf.size)
    {i : Nat} {R : Row} (hR : E.rows.lookup i = some R) (he : R.e = e) (hfx : R.fx = false) (hsz : R.s = inf.size) {y : AV} {v : Value} (hv : Rep X y v) {s : Nat} {l' : List AV} (hy : E.els s y = some (inf.size, l'))
    (hb : (R.l.length + l'.length) * inf.bytes ≤ 140737488355328) (hn : R.l.length + l'.length ≤ 9223372036854775807) :
    ∃ v' X', (Builtin.append_ #[t, t] ty #[X.κ i, v]).run P X.w = .ok v' X'.w ∧ X.w.heap.size ≤ X'.w.heap.size ∧ Sat G (E.grown i R l') X' a ∧ Rep X' (.own i) v' := by
  subst he
  obtain ⟨xs, ho, hE, hone⟩ := (hs.inv.row i R hR).rep
  obtain ⟨news, A, c, rfl, hl, hA0, hA1, hE', hone'⟩ := els_spec hs.inv hv hy
  have key : ∃ v' w', (Builtin.append_ #[t, t] ty #[X.κ i, .slice A l'.length c]).run P X.w = .ok v' w' ∧ w'.ownsRow 0 R.e R.s v' (R.l.length + l'.length) (xs ++ news) ∧ X.w.grownBy w' (X.κ i).ownBlock ∧ (v'.ownBlock = (X.κ i).ownBlock ∨ v'.ownBlock = some X.w.heap.size) := by
    cases A with
    | none =>
      have := hA0 rfl
      subst this
      have hn0 : news = [] := List.eq_nil_of_length_eq_zero (by simpa using hl)
      subst hn0
      exact ⟨X.κ i, X.w, run_append_none t ty R.e inf hu hi0 X.w c (X.κ i) R.l.length R.s xs ho, by simpa using ho, ⟨rfl, rfl, rfl, Nat.le_refl _, fun _ _ _ => rfl⟩, .inl rfl⟩
    | some ad =>
      obtain ⟨v', w', h1, h2, h3, _, h4⟩ := run_append_own_at (P := P) X.w 0 t ty R.e inf z inf.size inf.bytes hu hi0 hz rfl rfl hzs h0 (X.κ i) R.l.length xs (by rw [← hsz]; exact ho) ad l'.length c news hl (hA1 ad rfl) hone' (by simpa [maxLen] using hn) hb (Nat.zero_le _)
      exact ⟨v', w', h1, by rw [hsz]; exact h2, h3, h4⟩
  obtain ⟨v', w', h1, h2, h3, h4⟩ := key
  obtain ⟨X', hw', hk', hlt, hS⟩ := hs.app hR hfx ho hE hone (by rw [hsz]; exact hE') hone' h2 h3 h4
  subst hw' 
  refine ⟨v', X', h1, h3.size, hS, ?_⟩
  have : v'.oneCell' = true := by
    rcases h2.2 with ⟨e, _⟩ | ⟨g, cap, cur, e, _⟩ <;> rw [e] <;> rfl
  rw [← hk'] at this ⊢
  exact .own i hlt this

theorem a_app {t e : TypeId} {inf : TypeInfo} {x y : Operand} {x' y' : Opn} {z : Value} (hs : Sat G E X a) (ho : o.op = .call { callee := .builtin .append, args := #[x, y], argTypes := #[t, t] }) (hu : P.underlying t = some (.slice e)) (hi0 : P.info? e = some inf)
    (hz : inf.zero = some z) (hzs : z.cells.size = inf.size) (h0 : 0 < inf.size) (hx : compO x = some x') (hy : compO y = some y') (h : vcE P mt E K (.app e inf.size inf.bytes x' y')) : Acts P G X a o (fun _ => True) K := by
  simp only [vcE] at h
  have hvx := opd_rep hs hx
  have hvy := opd_rep hs hy
  have hex : ∀ v' w', (Builtin.append_ #[t, t] o.type #[a.eval x, a.eval y]).run P X.w = .ok v' w' → (execOp a.eval o).run P X.w = .ok (.value v') w' := by
    intro v' w' h
    unfold execOp
    simp [ho, resolve, invoke, builtin, h]
  cases hl : E.els inf.size (E.opd y') with
  | none => simp [hl] at h
  | some q =>
    obtain ⟨s', l'⟩ := q
    simp only [hl] at h
    cases hx1 : E.opd x' with
    | own i =>
      simp only [hx1] at h hvx
      cases hR : E.rows.lookup i with
      | none => simp [hR] at h
      | some R =>
        simp only [hR] at h
        obtain ⟨⟨c1, c2, rfl, c3, c4, c5⟩, hk⟩ := h
        obtain ⟨v', X', h1, h0', h2, h3⟩ := app_own (ty := o.type) hs hu hi0 hz hzs h0 hR c1 c3 c2 hvy hl c4 c5
        have hvi : a.eval x = X.κ i := by
          revert hvx
          generalize a.eval x = v
          intro hvx
          cases hvx; rfl
        rw [← hvi] at h1
        exact acts_value (hex _ _ h1) rfl (Ch.any h0') hk h2 h3
    | nils =>
      simp only [hx1] at h hvx
      obtain ⟨⟨rfl, c4, c5⟩, hk⟩ := h
      obtain ⟨X1, hw1, hk1, hle, hs1⟩ := hs.nilRow e inf.size
      have hvi : a.eval x = X1.κ E.n := by
        rw [hk1]
        revert hvx
        generalize a.eval x = v
        intro hvx
        cases hvx; rfl
      have hl1 : ({ E with rows := (E.n, ⟨e, inf.size, [], false⟩) :: E.rows, n := E.n + 1 } : Env).els inf.size (E.opd y') = some (inf.size, l') := by
        rw [← hl]
        cases hy1 : E.opd y' with
        | own k =>
          have hlt : k < E.n := by
            rw [hy1] at hvy
            revert hvy
            generalize a.eval y = v
            intro hvy
            cases hvy with
            | own _ hi _ => rw [← hs.n]; exact hi
          simp only [Env.els]
          rw [lookup_cons, if_neg (Nat.ne_of_lt hlt)]
        | _ => rfl
      obtain ⟨v', X', h1, h0', h2, h3⟩ := app_own (ty := o.type) hs1 (i := E.n) (R := ⟨e, inf.size, [], false⟩) hu hi0 hz hzs h0 (by simp [lookup_cons]) rfl rfl rfl (hvy.up hle) hl1 (by simpa using c4) (by simpa using c5)
      rw [← hvi, hw1] at h1
      exact acts_value (hex _ _ h1) rfl (Ch.any (hw1 ▸ h0')) hk h2 h3
    | _ => simp [hx1] at h

end
end Go.VV
