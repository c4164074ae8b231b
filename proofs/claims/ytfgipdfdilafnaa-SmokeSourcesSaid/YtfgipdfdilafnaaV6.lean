/- Freezing, stores, appends: on resources. -/
import Derived.Test.YtfgipdfdilafnaaV5
set_option linter.unusedSimpArgs false
set_option linter.unusedVariables false
namespace Go.VV
open Go.RowKit

def repl {α : Type} (k : Nat) (v : α) : List (Nat × α) → List (Nat × α)
  | [] => []
  | (k', v') :: t => if k' = k then (k, v) :: t else (k', v') :: repl k v t
theorem lookup_repl {α : Type} (k k' : Nat) (v : α) (l : List (Nat × α)) (h : (l.lookup k).isSome = true) : (repl k v l).lookup k' = if k' = k then some v else l.lookup k' := by
  induction l with
  | nil => simp at h
  | cons p t ih =>
    obtain ⟨q, u⟩ := p
    simp only [repl]
    by_cases e : q = k
    · subst e
      simp only [if_true, lookup_cons]
      by_cases e' : k' = q <;> simp [e']
    · rw [if_neg e, lookup_cons, lookup_cons]
      rw [lookup_cons, if_neg (Ne.symm e)] at h
      by_cases e' : k' = q
      · subst e'; simp [e]
      · simp only [if_neg e']; exact ih h
def dropk {α : Type} (k : Nat) : List (Nat × α) → List (Nat × α)
  | [] => []
  | (k', v') :: t => if k' = k then dropk k t else (k', v') :: dropk k t
theorem lookup_dropk {α : Type} (k k' : Nat) (l : List (Nat × α)) : (dropk k l).lookup k' = if k' = k then none else l.lookup k' := by
  induction l with
  | nil => simp [dropk]
  | cons p t ih =>
    obtain ⟨q, u⟩ := p
    simp only [dropk]
    by_cases e : q = k
    · subst e
      simp only [if_true, ih, lookup_cons]
      split <;> rfl
    · rw [if_neg e, lookup_cons, lookup_cons, ih]
      by_cases e' : k' = q
      · subst e'; simp [e]
      · simp only [if_neg e']
def subB (i : Nat) (r : AV) : List (Nat × Bx) → List (Nat × Bx)
  | [] => []
  | (b, B) :: t => (b, ⟨B.T, AV.subL i r B.c⟩) :: subB i r t
theorem lookup_subB (i : Nat) (r : AV) (b : Nat) (l : List (Nat × Bx)) : (subB i r l).lookup b = (l.lookup b).map fun B => ⟨B.T, AV.subL i r B.c⟩ := by
  induction l with
  | nil => simp [subB]
  | cons p t ih =>
    obtain ⟨q, u⟩ := p
    simp only [subB, lookup_cons, ih]
    split <;> rfl
def AV.subT (i : Nat) (r : AV) : List (Nat × AV) → List (Nat × AV)
  | [] => []
  | (k, a) :: t => (k, AV.sub i r a) :: AV.subT i r t
theorem lookup_subT (i : Nat) (r : AV) (b : Nat) (l : List (Nat × AV)) : (AV.subT i r l).lookup b = (l.lookup b).map (AV.sub i r) := by
  induction l with
  | nil => simp [AV.subT]
  | cons p t ih =>
    obtain ⟨q, u⟩ := p
    simp only [AV.subT, lookup_cons, ih]
    split <;> rfl
/-- A row becomes a frozen list. -/
def Env.frz (E : Env) (i : Nat) : Env :=
  match E.rows.lookup i with
  | some R => { E with tm := AV.subT i (.sl R.s R.l.length fun j => R.l.getD j .top) E.tm, boxes := subB i (.sl R.s R.l.length fun j => R.l.getD j .top) E.boxes, rows := dropk i E.rows }
  | none => E

section
variable {P : Program} {G : Gl} {E : Env} {X : RX} {a : Act}

theorem RepL.subL {X X' : RX} (i : Nat) (r : AV) (hle : RX.le (fun j => j = i) X X') (hr : i < X.n → Rep X' r (X.κ i)) {l : List AV} {vs : List Value} (h : RepL X l vs) : RepL X' (AV.subL i r l) vs := by
  refine ⟨by simpa [AV.subL_eq] using h.1, fun k b v hb hv => ?_⟩
  rw [AV.subL_eq, List.getElem?_map] at hb
  cases hq : l[k]? with
  | none => simp [hq] at hb
  | some q => simp only [hq, Option.map_some, Option.some.injEq] at hb; subst hb; exact Rep.sub i r hle hr (h.2 k q v hq hv)

theorem RepT.sub {X X' : RX} (i : Nat) (r : AV) (hle : RX.le (fun j => j = i) X X') (hr : i < X.n → Rep X' r (X.κ i)) {k : Nat} {l : List (Nat × AV)} {vs : Array Value} (h : RepT X k l vs) : RepT X' k (AV.subT i r l) vs := by
  refine ⟨h.1, fun k b hb => ?_⟩
  rw [lookup_subT] at hb
  cases hq : l.lookup k with
  | none => simp [hq] at hb
  | some q =>
    simp only [hq, Option.map_some, Option.some.injEq] at hb
    subst hb
    obtain ⟨v, h1, h2⟩ := h.2 k q hq
    exact ⟨v, h1, Rep.sub i r hle hr h2⟩

theorem RX.le.weak {X X' : RX} (h : RX.le (fun _ => False) X X') (U : Nat → Prop) : RX.le U X X' := ⟨h.F, h.heap, fun i hi _ => h.κ i hi (fun h => h), h.β, h.n⟩

/-- A row, read. -/
theorem row_sl (h : Inv G X E.rows E.boxes) {i : Nat} {R : Row} (hi : E.rows.lookup i = some R) {X' : RX} (hle : RX.le (fun _ => False) X X') (hF : ∀ g, (X.κ i).ownBlock = some g → X'.F g) (hw : X'.w = X.w) : Rep X' (.sl R.s R.l.length fun j => R.l.getD j .top) (X.κ i) := by
  obtain ⟨xs, ho, hE, h1⟩ := (h.row i R hi).rep
  have hE' := hE.up hle
  have hval : ∀ j a q b, R.l[j]? = some a → a.cells[q]? = some b → xs[j * R.s + q]? = some (xs.getD (j * R.s + q) undef) := by
    intro j a q b hj hq
    have hjl := (List.getElem?_eq_some_iff.1 hj).1
    have hql := (List.getElem?_eq_some_iff.1 hq).1
    rw [hE.2.1 j a hj] at hql
    refine getD_get ?_
    rw [ho.1]
    calc j * R.s + q < j * R.s + R.s := by omega
      _ = (j + 1) * R.s := by rw [Nat.succ_mul]
      _ ≤ R.l.length * R.s := Nat.mul_le_mul_right _ hjl
  have hgj : ∀ j, j < R.l.length → R.l[j]? = some (R.l.getD j .top) := fun j hj => getD_get hj
  rcases ho.2 with ⟨e, h0⟩ | ⟨g, cap, cur, e, _, hg, hc1, hc2, hc3, hc4⟩
  · rw [e]
    have := Rep.sl (X := X') R.s R.l.length (fun j => R.l.getD j .top) none 0 (fun _ _ => undef) (by omega) (by omega) (fun j hj => by omega) (fun h => by omega) (fun j hj => by omega) (fun j q b hj => by omega) (fun j q b hj => by omega)
    rw [h0] at this ⊢
    exact this
  · have hob : (X.κ i).ownBlock = some g := by rw [e]; rfl
    rw [e]
    refine .sl R.s R.l.length (fun j => R.l.getD j .top) (some ⟨g, 0, none⟩) cap (fun j q => xs.getD (j * R.s + q) undef) hc1 (by simp only [maxLen] at hc2; omega) (fun j hj => (AV.pureL_iff _).1 hE.1 _ (List.mem_of_getElem? (hgj j hj))) (fun _ => ⟨_, rfl, hF g hob, fun j q b hj hq => ?_⟩) (fun j hj => hE.2.1 j _ (hgj j hj)) (fun j q b hj hq => h1 _ (List.mem_of_getElem? (hval j _ q b (hgj j hj) hq))) (fun j q b hj hq => hE'.2.2 j _ q b _ (hgj j hj) hq (hval j _ q b (hgj j hj) hq))
    rw [hw]
    exact ho.cells hob _ _ (hval j _ q b (hgj j hj) hq)

def RX.frz (X : RX) (i : Nat) : RX := { X with F := fun k => X.F k ∨ (X.κ i).ownBlock = some k }
theorem le_frz (i : Nat) : RX.le (fun _ => False) X (X.frz i) := ⟨fun _ h => .inl h, fun _ _ => rfl, fun _ _ _ => rfl, fun _ _ => rfl, Nat.le_refl _⟩

theorem Sat.frz (h : Sat G E X a) (i : Nat) : ∃ X', X'.w = X.w ∧ Sat G (E.frz i) X' a ∧ RX.le (fun _ => False) X X' := by
  unfold Env.frz
  cases hi : E.rows.lookup i with
  | none => exact ⟨X, rfl, h, ⟨fun _ h => h, fun _ _ => rfl, fun _ _ _ => rfl, fun _ _ => rfl, Nat.le_refl _⟩⟩
  | some R =>
    have hle := le_frz (X := X) i
    have hr : Rep (X.frz i) (.sl R.s R.l.length fun j => R.l.getD j .top) (X.κ i) := row_sl h.inv hi hle (fun g hg => .inr hg) rfl
    have hle' := hle.weak (fun j => j = i)
    refine ⟨X.frz i, rfl, ⟨h.n, ⟨h.inv.fr, ?_, fun k hk => .inl (h.inv.Fold k hk), ?_, ?_, ?_, ?_, ?_, ?_⟩, RepT.sub i _ hle' (fun _ => hr) h.tm, h.df, ?kp⟩, hle⟩
    case kp =>
      refine h.kp.up (Nat.le_refl _) (fun _ _ => rfl) (fun _ _ _ _ => rfl) (fun j R' hj _ _ => .inr ⟨R', ?_, fun h => h⟩)
      simp only at hj
      rw [lookup_dropk] at hj
      split at hj
      · cases hj
      · exact hj
    · intro k hk
      rcases hk with hk | hk
      · exact h.inv.Flt k hk
      · exact row_lt h.inv hi hk
    · intro k hk
      rcases hk with hk | hk
      · exact h.inv.Fnew k hk
      · exact .inr ((h.inv.row i R hi).blk k hk).2
    · intro b B hb
      rw [lookup_subB] at hb
      cases hq : E.boxes.lookup b with
      | none => simp [hq] at hb
      | some B0 =>
        simp only [hq, Option.map_some, Option.some.injEq] at hb
        subst hb
        have hB := h.inv.box b B0 hq
        obtain ⟨vs, h1, h2⟩ := hB.cells
        exact ⟨hB.lt, fun hF => by rcases hF with hF | hF; exact hB.nf hF; exact h.inv.br b i B0 R hq hi hF, hB.mine, vs, h1, RepL.subL i _ hle' (fun _ => hr) h2⟩
    · intro i' R' hi'
      rw [lookup_dropk] at hi'
      split at hi'
      · cases hi'
      · rename_i hne
        refine (h.inv.row i' R' hi').up hle (fun h => h) (fun g hg => ⟨fun hF => ?_, rfl⟩)
        rcases hF with hF | hF
        · exact ((h.inv.row i' R' hi').blk g hg).1 hF
        · exact h.inv.rr i i' R R' hi hi' (Ne.symm hne) g hF hg
    · intro b b' B B' hb hb' hne
      rw [lookup_subB] at hb hb'
      cases hq : E.boxes.lookup b with
      | none => simp [hq] at hb
      | some B0 =>
        cases hq' : E.boxes.lookup b' with
        | none => simp [hq'] at hb'
        | some B0' => exact h.inv.bb b b' B0 B0' hq hq' hne
    · intro i1 i2 R1 R2 h1 h2 hne
      rw [lookup_dropk] at h1 h2
      split at h1
      · cases h1
      · split at h2
        · cases h2
        · exact h.inv.rr i1 i2 R1 R2 h1 h2 hne
    · intro b i1 B R1 hb h1
      rw [lookup_dropk] at h1
      rw [lookup_subB] at hb
      split at h1
      · cases h1
      · cases hq : E.boxes.lookup b with
        | none => simp [hq] at hb
        | some B0 => exact h.inv.br b i1 B0 R1 hq h1

/-- A write into one block of a resource. -/
theorem le_setRow (X : RX) (g : Nat) (cs : Array Value) (hF : ¬ X.F g) : RX.le (fun _ => False) X { X with w := X.w.setRow g cs } :=
  ⟨fun _ h => h, fun k hk => setRow_other X.w g k cs (fun e => hF (e ▸ hk)), fun _ _ _ => rfl, fun _ _ => rfl, Nat.le_refl _⟩

theorem Inv.setBox (h : Inv G X E.rows E.boxes) {b : Nat} {B : Bx} (hb : E.boxes.lookup b = some B) (c : List AV) (vs : List Value) (hr : RepL X c vs) :
    Inv G { X with w := X.w.setRow (X.β b) vs.toArray } E.rows (repl b ⟨B.T, c⟩ E.boxes) := by
  have hB := h.box b B hb
  obtain ⟨vs0, h1, h2⟩ := hB.cells
  have hle := le_setRow X (X.β b) vs.toArray hB.nf
  have hsome : (E.boxes.lookup b).isSome = true := by rw [hb]; rfl
  have hoth : ∀ k, k ≠ X.β b → (X.w.setRow (X.β b) vs.toArray).heap[k]? = X.w.heap[k]? := fun k hk => setRow_other X.w _ k _ hk
  have hlk : ∀ b' B', (repl b ⟨B.T, c⟩ E.boxes).lookup b' = some B' → ∃ B0, E.boxes.lookup b' = some B0 := by
    intro b' B' h'
    rw [lookup_repl _ _ _ _ hsome] at h'
    split at h'
    · rename_i e; subst e; exact ⟨B, hb⟩
    · exact ⟨B', h'⟩
  refine ⟨h.fr.trans rfl rfl rfl (by simp) (fun k _ hm => hoth k (fun e => hm (e ▸ hB.mine))), fun k hk => by simpa using h.Flt k hk, h.Fold, h.Fnew, ?_, ?_, ?_, h.rr, ?_⟩
  · intro b' B' hb'
    rw [lookup_repl _ _ _ _ hsome] at hb'
    split at hb'
    · rename_i e
      subst e
      cases hb'
      exact ⟨hB.lt, hB.nf, hB.mine, vs, setRow_heap X.w _ _ _ _ _ h1, hr.up hle⟩
    · rename_i e
      exact (h.box b' B' hb').up hle (h.box b' B' hb').nf (hoth _ (h.bb b' b B' B hb' hb e))
  · intro i R hi
    exact (h.row i R hi).up hle (fun h => h) (fun g hg => ⟨((h.row i R hi).blk g hg).1, hoth _ (fun e => h.br b i B R hb hi (e ▸ hg))⟩)
  · intro b1 b2 B1 B2 h1 h2 hne
    obtain ⟨B1', h1'⟩ := hlk b1 B1 h1
    obtain ⟨B2', h2'⟩ := hlk b2 B2 h2
    exact h.bb b1 b2 B1' B2' h1' h2' hne
  · intro b1 i B1 R hb1 hi
    obtain ⟨B1', h1'⟩ := hlk b1 B1 hb1
    exact h.br b1 i B1' R h1' hi

/-- Cells of an element written anew. -/
def AV.setc (a : AV) (off : Nat) (cs : List AV) : AV :=
  match a with
  | .ag l => .ag (l.take off ++ cs ++ l.drop (off + cs.length))
  | _ => cs.getD 0 .top
def AV.one : AV → Bool
  | .int _ _ | .bool _ | .str _ | .sl _ _ _ | .nils => true
  | _ => false
theorem one_cells {c : AV} (h : c.one = true) : c.cells = [c] := by cases c <;> simp [AV.one] at h <;> rfl
theorem setc_cells {a : AV} {off : Nat} {cs : List AV} (hn : off + cs.length ≤ a.cells.length) (h0 : 0 < cs.length) (h1 : cs.all AV.one = true) : (a.setc off cs).cells = a.cells.take off ++ cs ++ a.cells.drop (off + cs.length) := by
  cases a
  case ag l => rfl
  all_goals
    simp only [AV.cells, List.length_cons, List.length_nil] at hn
    have e0 : off = 0 := by omega
    have e1 : cs.length = 1 := by omega
    match cs, e1 with
    | [c], _ =>
      subst e0
      simp only [List.all_cons, List.all_nil, Bool.and_true] at h1
      simpa [AV.setc, AV.cells] using one_cells h1
theorem one_cell' {c : AV} (h : c.one = true) {v : Value} (hr : Rep X c v) : v.oneCell' = true := by
  cases c <;> simp [AV.one] at h <;> cases hr <;> rfl
theorem setc_pure {a : AV} {off : Nat} {cs : List AV} (ha : a.pure = true) (hc : ∀ c ∈ cs, c.pure = true) (h0 : 0 < cs.length) : (a.setc off cs).pure = true := by
  cases a
  case ag l =>
    simp only [AV.setc, AV.pure] at ha ⊢
    rw [AV.pureL_iff] at ha ⊢
    intro x hx
    simp only [List.mem_append] at hx
    rcases hx with (hx | hx) | hx
    · exact ha x (List.mem_of_mem_take hx)
    · exact hc x hx
    · exact ha x (List.mem_of_mem_drop hx)
  all_goals
    simp only [AV.setc]
    match cs, h0 with
    | c :: _, _ => exact hc c (by simp)

theorem splice_take {α : Type} (cur news : List α) (p N : Nat) (hp : p + news.length ≤ (cur.take N).length) (hN : N ≤ cur.length) :
    (cur.take p ++ news ++ cur.drop (p + news.length)).take N = (cur.take N).take p ++ news ++ (cur.take N).drop (p + news.length) := by
  rw [List.length_take] at hp
  refine List.ext_getElem? fun m => ?_
  rw [splice_get _ _ _ _ rfl (by rw [List.length_take]; omega), List.getElem?_take, splice_get _ _ _ _ rfl (by omega), List.getElem?_take]
  by_cases h1 : m < N
  · simp only [h1, if_true]
  · rw [if_neg h1, if_neg h1, if_neg (by omega), if_neg (by omega)]

theorem Inv.setEl (h : Inv G X E.rows E.boxes) {i : Nat} {R : Row} (hi : E.rows.lookup i = some R) {ad : Addr} {m cp : Nat} (hk : X.κ i = .slice (some ad) m cp) {j off : Nat} (hj : j < R.l.length) {cs : List AV} {news : List Value} (hcs : RepL X cs news)
    (hn : off + cs.length ≤ (R.l.getD j .top).cells.length) (h0 : 0 < cs.length) (h1 : cs.all AV.one = true) (hp : ∀ c ∈ cs, c.pure = true) :
    ∃ g cur, ad = ⟨g, 0, none⟩ ∧ X.w.heap[g]? = some (.cells cur R.e (0, 0)) ∧ j * R.s + off + news.length ≤ cur.size ∧
      Inv G { X with w := X.w.setRow g (cur.toList.take (j * R.s + off) ++ news ++ cur.toList.drop (j * R.s + off + news.length)).toArray } (repl i { R with l := R.l.set j ((R.l.getD j .top).setc off cs) } E.rows) E.boxes := by
  have hro := h.row i R hi
  obtain ⟨xs, ho, hE, hone⟩ := hro.rep
  rcases ho.2 with ⟨e, _⟩ | ⟨g, cap, cur, e, hb0, hg, hc1, hc2, hc3, hc4⟩
  · rw [hk] at e; cases e
  have e' := hk.symm.trans e
  injection e' with e1 e2 e3
  injection e1 with e1
  have hob : (X.κ i).ownBlock = some g := by rw [e]; rfl
  have hgF := (hro.blk g hob).1
  have hel := getD_get (d := AV.top) hj
  have hes := hE.2.1 j _ hel
  have hnl : news.length = cs.length := hcs.1
  have hxl := ho.1
  have hbound : j * R.s + R.s ≤ xs.length := by
    rw [hxl]
    calc j * R.s + R.s = (j + 1) * R.s := by rw [Nat.succ_mul]
      _ ≤ R.l.length * R.s := Nat.mul_le_mul_right _ hj
  have hxcur : xs.length ≤ cur.size := by rw [← hc4]; simp only [List.length_take, Array.length_toList]; omega
  refine ⟨g, cur, e1, hg, by omega, ?_⟩
  have hle := le_setRow X g (cur.toList.take (j * R.s + off) ++ news ++ cur.toList.drop (j * R.s + off + news.length)).toArray hgF
  have hoth : ∀ (cs : Array Value) k, k ≠ g → (X.w.setRow g cs).heap[k]? = X.w.heap[k]? := fun cs k hk => setRow_other X.w _ k _ hk
  have hsome : (E.rows.lookup i).isSome = true := by rw [hi]; rfl
  have hlk : ∀ (R1 : Row) i' R', (repl i R1 E.rows).lookup i' = some R' → ∃ R0, E.rows.lookup i' = some R0 := by
    intro R1 i' R' h'
    rw [lookup_repl _ _ _ _ hsome] at h'
    split at h'
    · rename_i e; subst e; exact ⟨R, hi⟩
    · exact ⟨R', h'⟩
  have hcell := setc_cells hn h0 h1
  refine ⟨h.fr.trans rfl rfl rfl (by simp) (fun k _ hm => hoth _ k (fun e => hm (e ▸ (hro.blk g hob).2))), fun k hk => by simpa using h.Flt k hk, h.Fold, h.Fnew, ?_, ?_, h.bb, ?_, ?_⟩
  · intro b B hb
    exact (h.box b B hb).up hle (h.box b B hb).nf (hoth _ _ (fun e => h.br b i B R hb hi (e ▸ hob)))
  · intro i' R' hi'
    rw [lookup_repl _ _ _ _ hsome] at hi'
    split at hi'
    · rename_i ee
      subst ee
      cases hi'
      refine ⟨hro.lt, hro.blk, xs.take (j * R.s + off) ++ news ++ xs.drop (j * R.s + off + news.length), ⟨by simp only [List.length_append, List.length_take, List.length_drop, List.length_set]; omega, .inr ⟨g, cap, _, by simpa using e, hb0, setRow_heap X.w _ _ _ _ _ hg, by simpa using hc1, hc2, by simp only [List.size_toArray, List.length_append, List.length_take, List.length_drop, Array.length_toList]; omega, ?_⟩⟩, ?_, ?_⟩
      · simp only [List.length_set]
        have hn' : R.l.length * R.s = xs.length := hxl.symm
        rw [hn', ← hc4]
        have hN : (cur.toList.take (R.l.length * R.s)).length = xs.length := by rw [hc4]
        have hs := splice_take cur.toList news (j * R.s + off) xs.length (by rw [← hn', hN]; omega) (by simp only [Array.length_toList]; omega)
        rw [hc4]
        rw [← hn', hc4] at hs
        rw [← hn']
        simpa using hs
      · refine ⟨?_, ?_, ?_⟩
        · rw [AV.pureL_iff]
          intro x hx
          rcases List.mem_or_eq_of_mem_set hx with hx | rfl
          · exact (AV.pureL_iff _).1 hE.1 x hx
          · exact setc_pure ((AV.pureL_iff _).1 hE.1 _ (List.mem_of_getElem? hel)) hp h0
        · intro j' a' hj'
          rw [List.getElem?_set] at hj'
          split at hj'
          · first | rw [if_pos hj] at hj' | skip
            cases hj'
            rw [hcell]
            simp only [List.length_append, List.length_take, List.length_drop]
            omega
          · exact hE.2.1 j' a' hj'
        · intro j' a' q c v hj' hq hv
          rw [splice_get _ _ _ _ rfl (by omega)] at hv
          simp only at hj' hv
          refine Rep.up hle ?_
          rw [List.getElem?_set] at hj'
          split at hj'
          · rename_i ej
            subst ej
            first | rw [if_pos hj] at hj' | skip
            cases hj'
            rw [hcell] at hq
            have hqs : q < R.s := by
              have := (List.getElem?_eq_some_iff.1 hq).1
              simp only [List.length_append, List.length_take, List.length_drop] at this
              omega
            rw [splice_get _ _ _ _ rfl (by omega)] at hq
            by_cases q1 : q < off
            · rw [if_pos q1] at hq
              rw [if_pos (by omega)] at hv
              exact hE.2.2 j _ q c v hel hq hv
            · rw [if_neg q1] at hq
              rw [if_neg (by omega)] at hv
              by_cases q2 : q < off + cs.length
              · rw [if_pos q2] at hq
                rw [if_pos (by omega)] at hv
                rw [show j * R.s + q - (j * R.s + off) = q - off by omega] at hv
                exact hcs.2 _ c v hq hv
              · rw [if_neg q2] at hq
                rw [if_neg (by omega)] at hv
                exact hE.2.2 j _ q c v hel hq hv
          · rename_i ej
            have hqs : q < R.s := by
              have := (List.getElem?_eq_some_iff.1 hq).1
              rw [hE.2.1 j' a' hj'] at this
              exact this
            rcases Nat.lt_or_gt_of_ne ej with ej | ej
            · have : j * R.s + R.s ≤ j' * R.s := by
                calc j * R.s + R.s = (j + 1) * R.s := by rw [Nat.succ_mul]
                  _ ≤ j' * R.s := Nat.mul_le_mul_right _ ej
              rw [if_neg (by omega), if_neg (by omega)] at hv
              exact hE.2.2 j' a' q c v hj' hq hv
            · have : j' * R.s + R.s ≤ j * R.s := by
                calc j' * R.s + R.s = (j' + 1) * R.s := by rw [Nat.succ_mul]
                  _ ≤ j * R.s := Nat.mul_le_mul_right _ ej
              rw [if_pos (by omega)] at hv
              exact hE.2.2 j' a' q c v hj' hq hv
      · intro u hu
        simp only [List.mem_append] at hu
        rcases hu with (hu | hu) | hu
        · exact hone u (List.mem_of_mem_take hu)
        · obtain ⟨q, hq⟩ := List.getElem?_of_mem hu
          have hql : q < cs.length := by rw [← hnl]; exact (List.getElem?_eq_some_iff.1 hq).1
          have hcq := List.getElem?_eq_getElem hql
          exact one_cell' (List.all_eq_true.1 h1 _ (List.getElem_mem hql)) (hcs.2 q _ u hcq hq)
        · exact hone u (List.mem_of_mem_drop hu)
    · rename_i ee
      exact (h.row i' R' hi').up hle (fun h => h) (fun g' hg' => ⟨((h.row i' R' hi').blk g' hg').1, hoth _ _ (fun e => h.rr i i' R R' hi hi' (Ne.symm ee) g hob (e ▸ hg'))⟩)
  · intro i1 i2 R1 R2 h1 h2 hne
    obtain ⟨R1', h1'⟩ := hlk _ i1 R1 h1
    obtain ⟨R2', h2'⟩ := hlk _ i2 R2 h2
    exact h.rr i1 i2 R1' R2' h1' h2' hne
  · intro b i1 B R1 hb h1
    obtain ⟨R1', h1'⟩ := hlk _ i1 R1 h1
    exact h.br b i1 B R1' hb h1'

end
end Go.VV
