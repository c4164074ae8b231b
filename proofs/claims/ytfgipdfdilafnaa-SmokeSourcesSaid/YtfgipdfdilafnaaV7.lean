/- Appending to a row. -/
import Derived.Test.YtfgipdfdilafnaaV6
set_option linter.unusedSimpArgs false
set_option linter.unusedVariables false
namespace Go.VV
open Go.RowKit
section
variable {P : Program} {G : Gl} {E : Env} {X : RX} {a : Act}

theorem RepE.append {X : RX} {s : Nat} {l l' : List AV} {xs ys : List Value} (hx : xs.length = l.length * s) (h : RepE X s l xs) (h' : RepE X s l' ys) : RepE X s (l ++ l') (xs ++ ys) := by
  refine ⟨?_, ?_, ?_⟩
  · rw [AV.pureL_iff]
    intro a ha
    rcases List.mem_append.1 ha with ha | ha
    · exact (AV.pureL_iff _).1 h.1 a ha
    · exact (AV.pureL_iff _).1 h'.1 a ha
  · intro j a hj
    rcases Nat.lt_or_ge j l.length with hl | hl
    · rw [List.getElem?_append_left hl] at hj; exact h.2.1 j a hj
    · rw [List.getElem?_append_right hl] at hj; exact h'.2.1 _ a hj
  · intro j a i q v hj hi hv
    rcases Nat.lt_or_ge j l.length with hl | hl
    · rw [List.getElem?_append_left hl] at hj
      have his : i < s := by have := (List.getElem?_eq_some_iff.1 hi).1; rw [h.2.1 j a hj] at this; exact this
      have : j * s + i < xs.length := by
        rw [hx]
        calc j * s + i < j * s + s := by omega
          _ = (j + 1) * s := by rw [Nat.succ_mul]
          _ ≤ l.length * s := Nat.mul_le_mul_right _ hl
      rw [List.getElem?_append_left this] at hv
      exact h.2.2 j a i q v hj hi hv
    · rw [List.getElem?_append_right hl] at hj
      have e : l.length * s + (j - l.length) * s = j * s := by rw [← Nat.add_mul]; congr 1; omega
      have : xs.length ≤ j * s + i := by rw [hx]; omega
      rw [List.getElem?_append_right this] at hv
      refine h'.2.2 _ a i q v hj hi ?_
      rw [← hv]; congr 1; rw [hx]; omega

def Env.grown (E : Env) (i : Nat) (R : Row) (l : List AV) : Env := { E with tm := AV.subT i .top E.tm, boxes := subB i .top E.boxes, rows := repl i { R with l := R.l ++ l } E.rows }

theorem Sat.app (h : Sat G E X a) {i : Nat} {R : Row} (hi : E.rows.lookup i = some R) (hfx : R.fx = false) {l' : List AV} {xs news : List Value} {v' : Value} {w' : World}
    (ho : X.w.ownsRow 0 R.e R.s (X.κ i) R.l.length xs) (hE : RepE X R.s R.l xs) (hone : ∀ u ∈ xs, u.oneCell' = true) (hE' : RepE X R.s l' news) (hone' : ∀ u ∈ news, u.oneCell' = true) (ho' : w'.ownsRow 0 R.e R.s v' (R.l.length + l'.length) (xs ++ news)) (hg : X.w.grownBy w' (X.κ i).ownBlock)
    (hb : v'.ownBlock = (X.κ i).ownBlock ∨ v'.ownBlock = some X.w.heap.size) :
    ∃ X', X'.w = w' ∧ X'.κ i = v' ∧ i < X'.n ∧ Sat G (E.grown i R l') X' a := by
  have hro := h.inv.row i R hi
  have hfb : ∀ k, X.F k → some k ≠ (X.κ i).ownBlock := fun k hk e => (hro.blk k e.symm).1 hk
  let X' : RX := { X with w := w', κ := fun k => if k = i then v' else X.κ k }
  have hle : RX.le (fun j => j = i) X X' := ⟨fun _ h => h, fun k hk => hg.block k (h.inv.Flt k hk) (hfb k hk), fun j _ hj => by simp [X', hj], fun _ _ => rfl, Nat.le_refl _⟩
  have hsub : ∀ {l : List AV} {vs : List Value}, RepL X l vs → RepL X' (AV.subL i .top l) vs := fun hr => RepL.subL i .top hle (fun _ => .top _) hr
  have hsome : (E.rows.lookup i).isSome = true := by rw [hi]; rfl
  have hoth : ∀ k, k < X.w.heap.size → some k ≠ (X.κ i).ownBlock → w'.heap[k]? = X.w.heap[k]? := fun k hk hne => hg.block k hk hne
  have hbox : ∀ b B, (subB i .top E.boxes).lookup b = some B → ∃ B0, E.boxes.lookup b = some B0 ∧ B = ⟨B0.T, AV.subL i .top B0.c⟩ := by
    intro b B hb
    rw [lookup_subB] at hb
    cases hq : E.boxes.lookup b with
    | none => simp [hq] at hb
    | some B0 => simp only [hq, Option.map_some, Option.some.injEq] at hb; exact ⟨B0, rfl, hb.symm⟩
  have hlk : ∀ i' R', (repl i { R with l := R.l ++ l' } E.rows).lookup i' = some R' → (i' = i ∧ R' = { R with l := R.l ++ l' }) ∨ (i' ≠ i ∧ E.rows.lookup i' = some R') := by
    intro i' R' h'
    rw [lookup_repl _ _ _ _ hsome] at h'
    split at h'
    · rename_i e; cases h'; exact .inl ⟨e, rfl⟩
    · rename_i e; exact .inr ⟨e, h'⟩
  have hnew : ∀ g, v'.ownBlock = some g → (X.κ i).ownBlock = some g ∨ g = X.w.heap.size := by
    intro g e
    rcases hb with hb | hb
    · exact .inl (hb ▸ e)
    · exact .inr (by rw [e] at hb; exact Option.some.inj hb)
  refine ⟨X', rfl, by simp [X'], hro.lt, ⟨h.n, ⟨?_, ?_, h.inv.Fold, h.inv.Fnew, ?_, ?_, ?_, ?_, ?_⟩, RepT.sub i .top hle (fun _ => .top _) h.tm, h.df, ?kp⟩⟩
  case kp =>
    refine h.kp.up (Nat.le_refl _) (fun _ _ => rfl) (fun j _ hj hf => ?_) (fun j R' hj _ hf => ?_)
    · by_cases e : j = i
      · subst e
        have := h.kp.r j R hi hj hf
        rw [hfx] at this; cases this
      · simp [X', e]
    · rcases hlk j R' hj with ⟨rfl, rfl⟩ | ⟨_, hj⟩
      · exact .inr ⟨R, hi, fun h => h⟩
      · exact .inr ⟨R', hj, fun h => h⟩
  · exact h.inv.fr.trans hg.os hg.tape hg.output hg.size (fun k hk hm => hoth k hk (fun e => hm (hro.blk k e.symm).2))
  · exact fun k hk => Nat.lt_of_lt_of_le (h.inv.Flt k hk) hg.size
  · intro b B hb
    obtain ⟨B0, h0, rfl⟩ := hbox b B hb
    have hB := h.inv.box b B0 h0
    obtain ⟨vs, h1, h2⟩ := hB.cells
    exact ⟨hB.lt, hB.nf, hB.mine, vs, (hoth _ (box_lt h.inv h0) (fun e => h.inv.br b i B0 R h0 hi e.symm)).trans h1, hsub h2⟩
  · intro i' R' hi'
    rcases hlk i' R' hi' with ⟨rfl, rfl⟩ | ⟨hne, hi'⟩
    · refine ⟨hro.lt, ?_, xs ++ news, ?_, ?_, ?_⟩
      · simp only [X', if_true]
        intro g e
        rcases hnew g e with e | rfl
        · exact hro.blk g e
        · exact ⟨fun hF => Nat.lt_irrefl _ (h.inv.Flt _ hF), .inr h.inv.fr.size⟩
      · simpa [X'] using ho'
      · exact (hE.append ho.1 hE').le hle
      · intro u hu
        rcases List.mem_append.1 hu with hu | hu
        · exact hone u hu
        · exact hone' u hu
    · exact (h.inv.row i' R' hi').up hle hne (fun g hg' => ⟨((h.inv.row i' R' hi').blk g hg').1, hoth _ (row_lt h.inv hi' hg') (fun e => h.inv.rr i i' R R' hi hi' (Ne.symm hne) g e.symm hg')⟩)
  · intro b b' B B' hb hb' hne
    obtain ⟨B0, h0, rfl⟩ := hbox b B hb
    obtain ⟨B0', h0', rfl⟩ := hbox b' B' hb'
    exact h.inv.bb b b' B0 B0' h0 h0' hne
  · intro i1 i2 R1 R2 h1 h2 hne g hg1
    rcases hlk i1 R1 h1 with ⟨e1, e1'⟩ | ⟨hne1, k1⟩
    · subst e1
      rcases hlk i2 R2 h2 with ⟨e2, e2'⟩ | ⟨hne2, k2⟩
      · exact (hne e2.symm).elim
      · simp only [X', if_true] at hg1
        simp only [X', if_neg hne2]
        rcases hnew g hg1 with e | rfl
        · exact h.inv.rr i1 i2 R R2 hi k2 hne g e
        · exact fun e => by have := row_lt h.inv k2 e; omega
    · simp only [X', if_neg hne1] at hg1
      rcases hlk i2 R2 h2 with ⟨e2, e2'⟩ | ⟨hne2, k2⟩
      · subst e2
        simp only [X', if_true]
        intro e
        rcases hnew g e with e | rfl
        · exact h.inv.rr i1 i2 R1 R k1 hi hne g hg1 e
        · have := row_lt h.inv k1 hg1; omega
      · simp only [X', if_neg hne2]
        exact h.inv.rr i1 i2 R1 R2 k1 k2 hne g hg1
  · intro b i1 B R1 hb h1
    obtain ⟨B0, h0, rfl⟩ := hbox b B hb
    rcases hlk i1 R1 h1 with ⟨rfl, rfl⟩ | ⟨hne1, h1⟩
    · simp only [X', if_true]
      intro e
      rcases hnew _ e with e | e
      · exact h.inv.br b i1 B0 R h0 hi e
      · have := box_lt h.inv h0; omega
    · simp only [X', if_neg hne1]
      exact h.inv.br b i1 B0 R1 h0 h1

/-- A row that is nil. -/
theorem Sat.nilRow (h : Sat G E X a) (e : TypeId) (s : Nat) : ∃ X', X'.w = X.w ∧ X'.κ E.n = .slice none 0 0 ∧ RX.le (fun _ => False) X X' ∧ Sat G { E with rows := (E.n, ⟨e, s, [], false⟩) :: E.rows, n := E.n + 1 } X' a := by
  have hn := h.n
  let X' : RX := { X with κ := fun k => if k = X.n then .slice none 0 0 else X.κ k, n := X.n + 1 }
  have hle : RX.le (fun _ => False) X X' := ⟨fun _ h => h, fun _ _ => rfl, fun i hi _ => by simp [X', Nat.ne_of_lt hi], fun _ _ => rfl, Nat.le_succ _⟩
  refine ⟨X', rfl, by simp [X', hn], hle, ⟨by simp [X', hn], ⟨h.inv.fr, h.inv.Flt, h.inv.Fold, h.inv.Fnew, fun b B hb => (h.inv.box b B hb).up hle (h.inv.box b B hb).nf rfl, ?_, h.inv.bb, ?_, ?_⟩, h.tm.up hle, h.df, ?kp⟩⟩
  case kp =>
    refine h.kp.up (Nat.le_succ _) (fun _ _ => rfl) (fun j hj _ _ => by simp [X', Nat.ne_of_lt hj]) (fun j R' hj hj0 _ => ?_)
    rw [lookup_cons] at hj
    split at hj
    · rename_i ee
      have := h.kp.n
      omega
    · exact .inr ⟨R', hj, fun h => h⟩
  · intro i R hi
    rw [lookup_cons] at hi
    split at hi
    · rename_i ee
      subst ee
      cases hi
      refine ⟨by simp [X', hn], ?_, [], ?_, ⟨rfl, by simp, by simp⟩, by simp⟩
      · simp [X', hn, Value.ownBlock]
      · simp only [X', hn, if_true]; exact World.ownsRow_nil _ _ _ _
    · exact (h.inv.row i R hi).up hle (fun h => h) (fun g hg => ⟨((h.inv.row i R hi).blk g hg).1, rfl⟩)
  · intro i1 i2 R1 R2 h1 h2 hne g hg
    rw [lookup_cons] at h1 h2
    simp only [X', hn] at hg ⊢
    split at h1
    · rename_i ee
      rw [if_pos ee] at hg
      simp [Value.ownBlock] at hg
    · rename_i ee
      rw [if_neg ee] at hg
      split at h2
      · rename_i ee'
        rw [if_pos ee']
        simp [Value.ownBlock]
      · rename_i ee'
        rw [if_neg ee']
        exact h.inv.rr i1 i2 R1 R2 h1 h2 hne g hg
  · intro b i1 B R1 hb h1
    rw [lookup_cons] at h1
    simp only [X', hn]
    split at h1
    · rename_i ee
      rw [if_pos ee]
      simp [Value.ownBlock]
    · rename_i ee
      rw [if_neg ee]
      exact h.inv.br b i1 B R1 hb h1

end
end Go.VV
