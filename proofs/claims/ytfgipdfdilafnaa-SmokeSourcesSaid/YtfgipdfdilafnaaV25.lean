/- A row lent to a function that only reads it: the law for a frozen list serves. -/
import Derived.Test.YtfgipdfdilafnaaV24
set_option linter.unusedSimpArgs false
set_option linter.unusedVariables false
namespace Go.VV
open Go.RowKit

mutual
/-- No slice, no name. -/
def AV.flat : AV → Bool
  | .int _ _ | .bool _ | .str _ | .nils => true
  | .ag l => AV.flatL l
  | .tup l => AV.flatL l
  | _ => false
def AV.flatL : List AV → Bool
  | [] => true
  | a :: t => AV.flat a && AV.flatL t
end
theorem AV.flatL_iff (l : List AV) : AV.flatL l = true ↔ ∀ a ∈ l, a.flat = true := by
  induction l with
  | nil => simp [AV.flatL]
  | cons a t ih => simp [AV.flatL, ih]
theorem Rep.flat {X X' : RX} {a : AV} {v : Value} (h : Rep X a v) : a.flat = true → Rep X' a v := by
  induction h with
  | nils => exact fun _ => .nils
  | int k n => exact fun _ => .int k n
  | bool b => exact fun _ => .bool b
  | str s => exact fun _ => .str s
  | ag l vs hl h ih => exact fun hf => .ag l vs hl fun i a v hi hv => ih i a v hi hv ((AV.flatL_iff l).1 (by simpa [AV.flat] using hf) a (List.mem_of_getElem? hi))
  | tup l vs hl h ih => exact fun hf => .tup l vs hl fun i a v hi hv => ih i a v hi hv ((AV.flatL_iff l).1 (by simpa [AV.flat] using hf) a (List.mem_of_getElem? hi))
  | _ => intro h; simp [AV.flat] at h
/-- The rows' names turned into lists. -/
def subsL : List (Nat × Row) → List AV → List AV
  | [], l => l
  | (i, R) :: t, l => subsL t (AV.subL i (.sl R.s R.l.length fun j => R.l.getD j .top) l)
theorem subsL_rep {X : RX} : ∀ {rows : List (Nat × Row)} {l : List AV} {vs : List Value}, (∀ i R, (i, R) ∈ rows → Rep X (.sl R.s R.l.length fun j => R.l.getD j .top) (X.κ i)) → RepL X l vs → RepL X (subsL rows l) vs
  | [], l, vs, _, h => h
  | (i, R) :: t, l, vs, hr, h => show RepL X (subsL t _) vs from subsL_rep (rows := t) (fun j S hj => hr j S (List.mem_cons_of_mem _ hj)) (h.subL i _ ⟨fun _ h => h, fun _ _ => rfl, fun _ _ _ => rfl, fun _ _ => rfl, Nat.le_refl _⟩ (fun _ => hr i R (List.mem_cons_self ..)))
theorem Spec.lend {P : Program} {f : FuncId} {n : Nat} {rows : List (Nat × Row)} {args args0 : List AV} {Q : AV → Prop} (h : Spec P f ⟨[], []⟩ 0 args0 fun r C' => Q r ∧ C' = ⟨[], []⟩) (hq : ∀ r, Q r → r.flat = true) (hk : ∀ p ∈ rows, rows.lookup p.1 = some p.2) (ha : WkL id 0 args0 (subsL rows args)) :
    Spec P f ⟨rows, []⟩ n args fun r C' => Q r ∧ C' = ⟨rows, []⟩ := by
  refine ⟨h.1, fun X vs L hn hi hr => ?_⟩
  subst hn
  let E : Env := ⟨[], rows, [], X.n, 0⟩
  let X2 : RX := { X with F := fun k => X.F k ∨ ∃ i R, rows.lookup i = some R ∧ (X.κ i).ownBlock = some k }
  have hle : RX.le (fun _ => False) X X2 := ⟨fun _ h => .inl h, fun _ _ => rfl, fun _ _ _ => rfl, fun _ _ => rfl, Nat.le_refl _⟩
  have hsl : ∀ i R, (i, R) ∈ rows → Rep X2 (.sl R.s R.l.length fun j => R.l.getD j .top) (X2.κ i) := fun i R hm => row_sl (E := E) hi (hk _ hm) hle (fun g hg => .inr ⟨i, R, hk _ hm, hg⟩) rfl
  have hr2 : RepL X2 (subsL rows args) vs := subsL_rep hsl (hr.up hle)
  have hi2 : Inv (.of X2.w (fun _ => False) X2.F) X2 [] [] := by
    refine ⟨⟨rfl, rfl, rfl, Nat.le_refl _, fun _ _ _ => rfl⟩, fun k hk2 => ?_, fun _ h => h, fun _ h => .inl h, fun _ _ h => by simp at h, fun _ _ h => by simp at h, fun _ _ _ _ h => by simp at h, fun _ _ _ _ h => by simp at h, fun _ _ _ _ h => by simp at h⟩
    rcases hk2 with hk2 | ⟨i, R, hl, hg⟩
    · exact hi.Flt k hk2
    · exact row_lt (E := E) hi hl hg
  have hs := h.use (n' := X.n) (C' := ⟨[], []⟩) (Q' := fun r C' => Q r ∧ C' = ⟨[], []⟩) id id (fun j hj => absurd hj (Nat.not_lt_zero _)) ha trivial trivial ?_
  · refine (hs.2 X2 vs (fun _ => False) rfl hi2 hr2).mono fun e w' hp => ?_
    obtain ⟨v, r, C', X3, rfl, ⟨hQ, rfl⟩, rfl, hn3, hi3, hr3, _, _⟩ := hp
    let X4 : RX := ⟨X.F, X.κ, X.β, X3.w, X.n + 4⟩
    have hblk : ∀ k, k < X.w.heap.size → X3.w.heap[k]? = X.w.heap[k]? := fun k hk => hi3.fr.block k hk (fun h => h)
    have hle4 : RX.le (fun _ => False) X X4 := ⟨fun _ h => h, fun k hk => hblk k (hi.Flt k hk), fun _ _ _ => rfl, fun _ _ => rfl, Nat.le_add_right _ _⟩
    refine ⟨v, r, _, X4, rfl, ⟨hQ, rfl⟩, rfl, rfl, ⟨⟨hi3.fr.os, hi3.fr.tape, hi3.fr.output, hi3.fr.size, fun k hk _ => hblk k hk⟩, fun k hk => Nat.lt_of_lt_of_le (hi.Flt k hk) hi3.fr.size, fun _ h => h, fun _ h => .inl h, fun _ _ h => by simp at h, fun i R hl => ?_, fun _ _ _ _ h => by simp at h, hi.rr, fun _ _ _ _ h => by simp at h⟩, hr3.flat (hq r hQ), fun _ _ _ => rfl, fun _ _ => rfl⟩
    exact (hi.row i R hl).up hle4 (fun h => h) (fun g hg => ⟨((hi.row i R hl).blk g hg).1, hblk g (row_lt (E := E) hi hl hg)⟩)
  · rintro r C2 ⟨hQ, rfl⟩
    have : ∀ a : AV, a.flat = true → AV.ren (rho 0 X.n id) a = a := by
      intro a
      induction a using AV.rec (motive_2 := fun l => AV.flatL l = true → AV.renL (rho 0 X.n id) l = l) with
      | ag l ih => intro h; simp only [AV.ren]; rw [ih (by simpa [AV.flat] using h)]
      | tup l ih => intro h; simp only [AV.ren]; rw [ih (by simpa [AV.flat] using h)]
      | nil => rfl
      | cons a t ha ht => rename_i h; simp only [AV.flatL, Bool.and_eq_true] at h; simp only [AV.renL]; rw [ha h.1, ht h.2]
      | int | bool | str | nils => intro _; rfl
      | _ => intro h; simp [AV.flat] at h
    rw [this r (hq r hQ)]
    exact ⟨hQ, rfl⟩
theorem FitL.out {c : CS} {cs : List CS} : ∀ {n : List AV}, FitL (c :: cs) n → ∃ a l, n = a :: l ∧ FitC c a ∧ FitL cs l
  | a :: l, h => ⟨a, l, rfl, by simpa only [FitL] using h⟩
theorem FitL.nil : ∀ {n : List AV}, FitL [] n → n = []
  | [], _ => rfl
theorem Opq.out {p : Prop} (h : Opq p) : p := h
attribute [simp] subsL
end Go.VV
