/- Instructions that act, proved: slices. -/
import Derived.Test.YtfgipdfdilafnaaV10
set_option linter.unusedSimpArgs false
set_option linter.unusedVariables false
namespace Go.VV
open Go.RowKit

section
variable {P : Program} {G : Gl} {E : Env} {X : RX} {a : Act} {o : Oper} {mt : Mt} {K : Env → AV → Prop}

theorem Sat.growRow (h : Sat G E X a) (e : TypeId) (s : Nat) {l : List AV} {vs : Array Value} (hl : vs.size = l.length * s) (hm : l.length ≤ maxLen) (h1 : ∀ u ∈ vs.toList, u.oneCell' = true) (hr : RepE X s l vs.toList) :
    Sat G { E with rows := (E.n, ⟨e, s, l, false⟩) :: E.rows, n := E.n + 1 } (X.growR (.cells vs e) (.slice (some ⟨X.w.heap.size, 0, none⟩) l.length l.length)) a ∧
      Rep (X.growR (.cells vs e) (.slice (some ⟨X.w.heap.size, 0, none⟩) l.length l.length)) (.own E.n) (.slice (some ⟨X.w.heap.size, 0, none⟩) l.length l.length) := by
  have hn := h.n
  have hle := le_growR (X := X) h.inv.Flt (.cells vs e) (.slice (some ⟨X.w.heap.size, 0, none⟩) l.length l.length)
  have := h.inv.newRow e s l vs.toList (by simpa using hl) hm h1 (by simpa using hr.up hle)
  refine ⟨⟨by simp [RX.growR, hn], ?_, h.tm.up hle, h.df, ?kp⟩, ?_⟩
  case kp =>
    refine h.kp.up (Nat.le_succ _) (fun _ _ => rfl) (fun j hj _ _ => by simp [RX.growR, Nat.ne_of_lt hj]) (fun j R' hj hj0 _ => ?_)
    rw [lookup_cons] at hj
    split at hj
    · rename_i ee
      have := h.kp.n
      omega
    · exact .inr ⟨R', hj, fun h => h⟩
  · rw [← hn]
    simpa using this
  · have hk : (X.growR (.cells vs e) (.slice (some ⟨X.w.heap.size, 0, none⟩) l.length l.length)).κ E.n = .slice (some ⟨X.w.heap.size, 0, none⟩) l.length l.length := by simp [RX.growR, hn]
    have := Rep.own (X := X.growR (.cells vs e) (.slice (some ⟨X.w.heap.size, 0, none⟩) l.length l.length)) E.n (by simp [RX.growR, hn]) (by rw [hk]; rfl)
    rwa [hk] at this

theorem compIdx_spec (hs : Sat G E X a) : ∀ (parts : List (Nat × Operand)) (n : Nat) (ps : List Opn), compIdx n parts = some ps →
    RepL X (ps.map E.opd) (parts.map fun x => a.eval x.2) ∧ (parts.map fun x => (x.1, a.eval x.2)) = ((parts.map fun x => a.eval x.2).zipIdx n).map fun x => (x.2, x.1)
  | [], n, ps, h => by simp only [compIdx, Option.some.injEq] at h; subst h; exact ⟨.nil, rfl⟩
  | (i, x) :: r, n, ps, h => by
    simp only [compIdx] at h
    split at h
    · rename_i e
      subst e
      cases h2 : compO x with
      | none => simp [h2] at h
      | some x' =>
        cases h3 : compIdx (i + 1) r with
        | none => simp [h2, h3] at h
        | some r' =>
          simp only [h2, h3, Option.some.injEq] at h
          subst h
          have ih := compIdx_spec hs r (i + 1) r' h3
          exact ⟨.cons (opd_rep hs h2) ih.1, by simp [ih.2]⟩
    · cases h

theorem flat_rep {X : RX} {s : Nat} (h0 : 0 < s) {l : List AV} {vs : List Value} (hr : RepL X l vs) (hp : AV.pureL l = true) (ha : (l.all fun a => a.known && a.cells.length == s && a.cells.all AV.one) = true) :
    (∀ v ∈ vs, v.cells.size = s) ∧ RepE X s l (vs.flatMap fun v => v.cells.toList) ∧ ∀ u ∈ vs.flatMap fun v => v.cells.toList, u.oneCell' = true := by
  rw [List.all_eq_true] at ha
  have hel : ∀ (j : Nat) (v : Value), vs[j]? = some v → ∃ b, l[j]? = some b ∧ b.cells.length = s ∧ b.cells.all AV.one = true ∧ RepL X b.cells v.cells.toList := by
    intro j v hv
    have hj := (List.getElem?_eq_some_iff.1 hv).1
    have hb : l[j]? = some (l[j]'(hr.1 ▸ hj)) := List.getElem?_eq_getElem _
    have hk := ha _ (List.mem_of_getElem? hb)
    simp only [Bool.and_eq_true, beq_iff_eq] at hk
    exact ⟨_, hb, hk.1.2, hk.2, (hr.2 j _ v hb hv).cells hk.1.1⟩
  have hsz : ∀ v ∈ vs, v.cells.size = s := by
    intro v hv
    obtain ⟨j, hj, rfl⟩ := List.mem_iff_getElem.1 hv
    obtain ⟨b, _, h2, _, h4⟩ := hel j _ (List.getElem?_eq_getElem hj)
    have := h4.1
    simp only [Array.length_toList] at this
    omega
  refine ⟨hsz, ⟨hp, fun j b hb => ?_, fun j b i q v hb hq hv => ?_⟩, fun u hu => ?_⟩
  · have := ha _ (List.mem_of_getElem? hb)
    simp only [Bool.and_eq_true, beq_iff_eq] at this
    exact this.1.2
  · have hjl := (List.getElem?_eq_some_iff.1 hb).1
    have hvj : vs[j]? = some (vs[j]'(hr.1 ▸ hjl)) := List.getElem?_eq_getElem _
    obtain ⟨b', hb', h2, _, h4⟩ := hel j _ hvj
    rw [hb] at hb'
    cases hb'
    have hi : i < s := h2 ▸ (List.getElem?_eq_some_iff.1 hq).1
    rw [Great.flat_get h0 vs hsz] at hv
    have e1 : (j * s + i) / s = j := by rw [Nat.mul_comm, Nat.mul_add_div h0, Nat.div_eq_of_lt hi, Nat.add_zero]
    have e2 : (j * s + i) % s = i := by rw [Nat.mul_comm, Nat.mul_add_mod, Nat.mod_eq_of_lt hi]
    rw [e1, e2, hvj, Option.bind_some] at hv
    exact h4.2 i q v hq (by simpa using hv)
  · obtain ⟨v, hv, hu⟩ := List.mem_flatMap.1 hu
    obtain ⟨j, hj, rfl⟩ := List.mem_iff_getElem.1 hv
    obtain ⟨b, _, _, h3, h4⟩ := hel j _ (List.getElem?_eq_getElem hj)
    obtain ⟨i, hi, rfl⟩ := List.mem_iff_getElem.1 hu
    have hc : b.cells[i]? = some (b.cells[i]'(h4.1 ▸ hi)) := List.getElem?_eq_getElem _
    rw [List.all_eq_true] at h3
    exact one_cell' (h3 _ (List.mem_of_getElem? hc)) (h4.2 i _ _ hc (List.getElem?_eq_getElem hi))

theorem a_bsl {t e : TypeId} {len : Nat} {parts : Array (Nat × Operand)} {inf : TypeInfo} {z : Value} {ps : List Opn} (hs : Sat G E X a) (ho : o.op = .buildSlice t len parts) (hu : P.underlying t = some (.slice e)) (hi : P.info? e = some inf) (hz : inf.zero = some z)
    (hp : compIdx 0 parts.toList = some ps) (hl : ps.length = len) (h : vcE P mt E K (.bsl e inf.size ps)) : Acts P G X a o (fun _ => False) K := by
  simp only [vcE] at h
  obtain ⟨⟨h1, h2, h3, h4, h5⟩, hk⟩ := h
  obtain ⟨X1, hw1, hs1, hle1⟩ := hs.frzL (AV.ownsL (ps.map E.opd))
  obtain ⟨hr, hz'⟩ := compIdx_spec hs1 parts.toList 0 ps hp
  obtain ⟨f1, f2, f3⟩ := flat_rep h5 hr h1 h2
  simp only [List.length_map] at h3 h4
  have hvl : (parts.toList.map fun x => a.eval x.2).length = ps.length := by simpa using hr.1
  have hlen : ((parts.toList.map fun x => a.eval x.2).flatMap fun v => v.cells.toList).length = ps.length * inf.size := by
    have : ∀ (vs : List Value), (∀ v ∈ vs, v.cells.size = inf.size) → (vs.flatMap fun v => v.cells.toList).length = vs.length * inf.size := by
      intro vs
      induction vs with
      | nil => simp
      | cons v vs ih =>
        intro hv
        simp only [List.flatMap_cons, List.length_append, List.length_cons, ih (fun u hu => hv u (by simp [hu])), Array.length_toList, hv v (by simp), Nat.add_mul]
        omega
    rw [this _ f1, hvl]
  have hfill := Great.fill_whole h5 (parts.toList.map fun x => a.eval x.2) ((Array.range (len * inf.size)).map (z.cells[· % z.cells.size]!)) f1 (by rw [hvl, hl]; simp)
  have hgr := hs1.growRow e inf.size (l := ps.map (E.frzL (AV.ownsL (ps.map E.opd))).opd) (vs := ((parts.toList.map fun x => a.eval x.2).flatMap fun v => v.cells.toList).toArray)
    (by simpa using hlen) (by simp only [List.length_map, maxLen]; have : ps.length * 1 ≤ ps.length * inf.size := Nat.mul_le_mul_left _ h5; omega) (by simpa using f3) (by simpa using f2)
  have hrun := run_buildSlice (P := P) X1.w t e len (parts.map fun x => (x.1, a.eval x.2)) _ inf z hu hi hz (by rw [← hl]; omega) (by
      have : 0 < ps.length * inf.size := Nat.mul_pos h4 h5
      rw [← hl]; omega) (by rw [Array.toList_map, hz']; exact hfill)
  refine acts_value ?_ rfl (Ch.growR hw1 hle1 _ _) hk hgr.1 hgr.2
  unfold execOp
  simp only [ho, Sem.run_bind]
  rw [← hw1]
  have e : (parts.map fun x => match x with | (i, x) => (i, a.eval x)) = parts.map fun x => (x.1, a.eval x.2) := rfl
  rw [e, hrun]
  simp only [Result.andThen_ok, List.length_map, hl]
  rfl

end
end Go.VV
