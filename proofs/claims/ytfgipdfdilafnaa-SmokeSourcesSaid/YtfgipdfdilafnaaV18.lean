/- Names turned: what a state also is. -/
import Derived.Test.YtfgipdfdilafnaaV17
set_option linter.unusedSimpArgs false
set_option linter.unusedVariables false
namespace Go.VV
open Go.RowKit

/-- Said aside. -/
def Opq (p : Prop) : Prop := p
mutual
/-- The first says no more than the second, its names read through ρ. -/
def Wk (ρ : Nat → Nat) (n : Nat) : AV → AV → Prop
  | .top, _ => True
  | .nils, b => b = .nils
  | .int k m, b => b = .int k m
  | .bool v, b => b = .bool v
  | .str s, b => b = .str s
  | .sl s m f, b => (∃ g, b = .sl s m g ∧ ∀ j, j < m → f j = g j ∨ Opq ((f j).pure = true ∧ Wk ρ n (f j) (g j))) ∨ (b = .nils ∧ m = 0)
  | .own i, b => b = .own (ρ i) ∧ i < n
  | .ptr i o, b => b = .ptr (ρ i) o ∧ i < n
  | .ept (.own i) s j o, b => b = .ept (.own (ρ i)) s j o ∧ i < n
  | .ag l, .ag l' => WkL ρ n l l'
  | .tup l, .tup l' => WkL ρ n l l'
  | .fn f l, .fn f' l' => f' = f ∧ WkL ρ n l l'
  | _, _ => False
def WkL (ρ : Nat → Nat) (n : Nat) : List AV → List AV → Prop
  | [], [] => True
  | a :: l, b :: l' => Wk ρ n a b ∧ WkL ρ n l l'
  | _, _ => False
end

def RX.ren (X : RX) (ρ : Nat → Nat) (n : Nat) : RX := { X with κ := fun i => X.κ (ρ i), β := fun b => X.β (ρ b), n := n }

theorem Rep.pureIn {X X' : RX} (hF : ∀ k, X.F k → X'.F k) (hh : ∀ k, X.F k → X'.w.heap[k]? = X.w.heap[k]?) {a : AV} {v : Value} (h : Rep X a v) : a.pure = true → Rep X' a v := by
  induction h with
  | top v => intro h; simp [AV.pure] at h
  | nils => exact fun _ => .nils
  | int k n => exact fun _ => .int k n
  | bool b => exact fun _ => .bool b
  | str s => exact fun _ => .str s
  | sl s m f A c val hl hm hp h0 h1 h3 h2 ih =>
    intro _
    refine .sl s m f A c val hl hm hp (fun hn => ?_) h1 h3 (fun j i q hj hi => ih j i q hj hi ?_)
    · obtain ⟨ad, e, hF', hc⟩ := h0 hn
      exact ⟨ad, e, hF _ hF', fun j i q hj hi => cell_of_heap (by rw [add_block]; exact hh _ hF') (hc j i q hj hi)⟩
    · exact AV.pure_cells (hp j hj) q (List.mem_of_getElem? hi)
  | ag l vs hl h ih => exact fun ha => .ag l vs hl (fun i a v hi hv => ih i a v hi hv ((AV.pureL_iff l).1 (by simpa [AV.pure] using ha) a (List.mem_of_getElem? hi)))
  | tup l vs hl h ih => intro h; simp [AV.pure] at h
  | fn f l vs hl h ih => intro h; simp [AV.pure] at h
  | own i hi ho => intro h; simp [AV.pure] at h
  | ptr b off hb => intro h; simp [AV.pure] at h
  | eptS s m f j off ad c h hj ih => intro h; simp [AV.pure] at h
  | eptO i s j off ad n c hi hk hj => intro h; simp [AV.pure] at h
  | osl i s off n ad N c c' hi hk hn hc => intro h; simp [AV.pure] at h
  | cnd p a v h hn ih => intro h; simp [AV.pure] at h

theorem Rep.slIn {X X' : RX} (hF : ∀ k, X.F k → X'.F k) (hh : ∀ k, X.F k → X'.w.heap[k]? = X.w.heap[k]?) {s m : Nat} {f g : Nat → AV} (hfg : ∀ j, j < m → f j = g j) {v : Value} (h : Rep X (.sl s m g) v) : Rep X' (.sl s m f) v := by
  cases h with
  | sl _ _ _ A c val hl hm hp h0 h1 h3 h2 =>
    refine .sl s m f A c val hl hm (fun j hj => by rw [hfg j hj]; exact hp j hj) (fun hn => ?_) (fun j hj => by rw [hfg j hj]; exact h1 j hj) (fun j i q hj hi => h3 j i q hj (by rw [← hfg j hj]; exact hi)) (fun j i q hj hi => ?_)
    · obtain ⟨ad, e, hF', hc⟩ := h0 hn
      exact ⟨ad, e, hF _ hF', fun j i q hj hi => cell_of_heap (by rw [add_block]; exact hh _ hF') (hc j i q hj (by rw [← hfg j hj]; exact hi))⟩
    · rw [hfg j hj] at hi
      exact (h2 j i q hj hi).pureIn hF hh (AV.pure_cells (hp j hj) q (List.mem_of_getElem? hi))

section
variable {X : RX} {ρ : Nat → Nat} {n : Nat}
theorem WkL.rep {l : List AV} (h : ∀ a ∈ l, ∀ b v, Wk ρ n a b → Rep X b v → Rep (X.ren ρ n) a v) {l' : List AV} {vs : List Value} (hw : WkL ρ n l l') (hr : RepL X l' vs) : RepL (X.ren ρ n) l vs := by
  induction l generalizing l' vs with
  | nil =>
    match l', hw with
    | [], _ => exact ⟨hr.1, fun i a v ha => by simp at ha⟩
  | cons a l ih =>
    match l', hw with
    | b :: l', hw =>
      simp only [WkL] at hw
      match vs, hr with
      | v :: vs, hr =>
        exact .cons (h a (by simp) b v hw.1 (hr.2 0 b v rfl rfl)) (ih (fun a ha => h a (by simp [ha])) hw.2 ⟨by simpa using hr.1, fun i c u hc hu => hr.2 (i + 1) c u hc hu⟩)
      | [], hr => exact absurd hr.1 (by simp)
theorem Wk.rep (a : AV) : ∀ b v, Wk ρ n a b → Rep X b v → Rep (X.ren ρ n) a v := by
  induction a using AV.rec (motive_2 := fun l => ∀ a ∈ l, ∀ b v, Wk ρ n a b → Rep X b v → Rep (X.ren ρ n) a v) with
  | top => exact fun b v _ _ => .top v
  | nils => intro b v h hr; simp only [Wk] at h; subst h; cases hr; exact .nils
  | int k m => intro b v h hr; simp only [Wk] at h; subst h; cases hr; exact .int _ _
  | bool k => intro b v h hr; simp only [Wk] at h; subst h; cases hr; exact .bool _
  | str k => intro b v h hr; simp only [Wk] at h; subst h; cases hr; exact .str _
  | sl s m f ih =>
    intro b v h hr
    simp only [Wk] at h
    rcases h with ⟨g, rfl, hfg⟩ | ⟨rfl, rfl⟩
    · cases hr with
      | sl _ _ _ A c val hl hm hp h0 h1 h3 h2 =>
        have key : ∀ j, j < m → (f j).pure = true ∧ (f j).cells.length = s ∧ ∀ (i : Nat) (q : AV), (f j).cells[i]? = some q → ∃ q', (g j).cells[i]? = some q' ∧ (Rep X q' (val j i) → Rep (X.ren ρ n) q (val j i)) := by
          intro j hj
          rcases hfg j hj with e | ⟨hpj, hw⟩
          · rw [e]
            refine ⟨hp j hj, h1 j hj, fun i q hq => ⟨q, hq, fun hr => ?_⟩⟩
            exact Rep.pureIn (X := X) (X' := X.ren ρ n) (fun _ h => h) (fun _ _ => rfl) hr (AV.pure_cells (hp j hj) q (List.mem_of_getElem? hq))
          · have ihj := ih j
            have hlen := h1 j hj
            have hcell := h2 j
            revert hpj hw ihj hlen hcell
            generalize f j = a
            generalize g j = b
            intro hpj hw ihj hlen hcell
            cases a with
            | ag la =>
              cases b with
              | ag lb =>
                have hWL : ∀ (la lb : List AV), WkL ρ n la lb → la.length = lb.length := by
                  intro la
                  induction la with
                  | nil => intro lb h; cases lb with | nil => rfl | cons => simp [WkL] at h
                  | cons x xs ihx => intro lb h; cases lb with | nil => simp [WkL] at h | cons y ys => simp only [WkL] at h; simp [ihx ys h.2]
                have hl2 : la.length = lb.length := hWL la lb (by simpa [Wk] using hw)
                simp only [AV.cells] at hlen hcell ⊢
                refine ⟨hpj, by omega, fun i q hq => ?_⟩
                have hi : i < lb.length := by have := (List.getElem?_eq_some_iff.1 hq).1; omega
                refine ⟨_, List.getElem?_eq_getElem hi, fun _ => ?_⟩
                have hR : Rep X (.ag lb) (.agg ((List.range lb.length).map (val j)).toArray) := by
                  refine .ag lb _ (by simp) (fun k c v hc hv => ?_)
                  have hk := (List.getElem?_eq_some_iff.1 hc).1
                  rw [List.getElem?_map, List.getElem?_range hk] at hv
                  simp only [Option.map_some, Option.some.injEq] at hv
                  subst hv
                  exact hcell k c hj hc
                have hR' := ihj _ _ hw hR
                cases hR' with
                | ag _ vs hvl hh =>
                  refine hh i q _ hq ?_
                  rw [List.getElem?_map, List.getElem?_range hi]; rfl
              | _ => simp [Wk] at hw
            | _ =>
              first
                | (simp [AV.pure] at hpj; done)
                | (have hb : b.cells = [b] := by
                     revert hw
                     cases b <;> simp [Wk, AV.cells]
                   rw [hb] at hlen
                   refine ⟨hpj, by simpa [AV.cells] using hlen, fun i q hq => ?_⟩
                   cases i with
                   | zero =>
                     simp only [AV.cells, List.getElem?_cons_zero, Option.some.injEq] at hq
                     subst hq
                     exact ⟨b, by rw [hb]; rfl, fun hr => ihj b _ hw hr⟩
                   | succ i => simp [AV.cells] at hq)
        refine .sl s m f A c val hl hm (fun j hj => (key j hj).1) (fun hn => ?_) (fun j hj => (key j hj).2.1) (fun j i q hj hi => ?_) (fun j i q hj hi => ?_)
        · obtain ⟨ad, e, hF', hc⟩ := h0 hn
          refine ⟨ad, e, hF', fun j i q hj hi => ?_⟩
          obtain ⟨q', hq', _⟩ := (key j hj).2.2 i q hi
          exact hc j i q' hj hq'
        · obtain ⟨q', hq', _⟩ := (key j hj).2.2 i q hi
          exact h3 j i q' hj hq'
        · obtain ⟨q', hq', hr⟩ := (key j hj).2.2 i q hi
          exact hr (h2 j i q' hj hq')
    · cases hr
      exact .sl s 0 f none 0 (fun _ _ => undef) (by omega) (by omega) (fun j hj => by omega) (fun h => by omega) (fun j hj => by omega) (fun j i q hj => by omega) (fun j i q hj => by omega)
  | own i =>
    intro b v h hr
    simp only [Wk] at h
    obtain ⟨rfl, hi⟩ := h
    cases hr with
    | own _ _ ho => exact .own (X := X.ren ρ n) i hi ho
  | ptr i o =>
    intro b v h hr
    simp only [Wk] at h
    obtain ⟨rfl, hi⟩ := h
    cases hr with
    | ptr _ _ _ => exact .ptr (X := X.ren ρ n) i o hi
  | ag l ih =>
    intro b v h hr
    cases b <;> simp only [Wk] at h
    cases hr with
    | ag _ vs hl hh => have := WkL.rep ih h ⟨hl, hh⟩; exact .ag l vs this.1 this.2
  | tup l ih =>
    intro b v h hr
    cases b <;> simp only [Wk] at h
    cases hr with
    | tup _ vs hl hh => have := WkL.rep ih h ⟨hl, hh⟩; exact .tup l vs this.1 this.2
  | fn f l ih =>
    intro b v h hr
    cases b <;> simp only [Wk] at h
    obtain ⟨rfl, h⟩ := h
    cases hr with
    | fn _ _ vs hl hh => have := WkL.rep ih h ⟨hl, hh⟩; exact .fn _ l vs this.1 this.2
  | ept x s j o ih =>
    intro b v h hr
    cases x with
    | own i =>
      simp only [Wk] at h
      obtain ⟨rfl, hi⟩ := h
      cases hr with
      | eptO _ _ _ _ ad m c hi2 hk hj => exact .eptO i s j o ad m c hi hk hj
    | _ => cases b <;> simp [Wk] at h
  | osl i s o m => intro b v h; cases b <;> simp [Wk] at h
  | cnd p a ih => intro b v h; cases b <;> simp [Wk] at h
  | nil => exact absurd ‹_ ∈ ([] : List AV)› (by simp)
  | cons a t ha ht =>
    rename_i x hx b v h1 h2
    rcases List.mem_cons.1 hx with rfl | hx
    · exact ha b v h1 h2
    · exact ht x hx b v h1 h2
theorem WkL.repL {l l' : List AV} {vs : List Value} (hw : WkL ρ n l l') (hr : RepL X l' vs) : RepL (X.ren ρ n) l vs := WkL.rep (fun a _ => Wk.rep a) hw hr
theorem WkL.len : ∀ {la lb : List AV}, WkL ρ n la lb → la.length = lb.length
  | [], [], _ => rfl
  | x :: xs, y :: ys, h => by simp only [WkL] at h; simp [WkL.len h.2]
  | [], _ :: _, h => by simp [WkL] at h
  | _ :: _, [], h => by simp [WkL] at h
theorem WkL.get : ∀ {la lb : List AV}, WkL ρ n la lb → ∀ (j : Nat) (a : AV), la[j]? = some a → ∃ b, lb[j]? = some b ∧ Wk ρ n a b
  | [], [], _, j, a, ha => by simp at ha
  | x :: xs, y :: ys, h, j, a, ha => by
    simp only [WkL] at h
    cases j with
    | zero => cases ha; exact ⟨y, rfl, h.1⟩
    | succ j => exact WkL.get h.2 j a ha
  | [], _ :: _, h, _, _, _ => by simp [WkL] at h
  | _ :: _, [], h, _, _, _ => by simp [WkL] at h
/-- An element of a row, said in fewer words. -/
theorem Wk.elt {a b : AV} (hp : a.pure = true) (hw : Wk ρ n a b) (val : Nat → Value) :
    a.cells.length = b.cells.length ∧ ((∀ i c, b.cells[i]? = some c → Rep X c (val i)) → ∀ i q, a.cells[i]? = some q → Rep (X.ren ρ n) q (val i)) := by
  cases a with
  | ag la =>
    cases b with
    | ag lb =>
      have hw' : WkL ρ n la lb := by simpa [Wk] using hw
      refine ⟨hw'.len, fun hc i q hq => ?_⟩
      have hr : RepL X lb ((List.range lb.length).map val) := by
        refine ⟨by simp, fun k c v hck hv => ?_⟩
        have hk := (List.getElem?_eq_some_iff.1 hck).1
        rw [List.getElem?_map, List.getElem?_range hk] at hv
        simp only [Option.map_some, Option.some.injEq] at hv
        exact hv ▸ hc k c hck
      have hi : i < lb.length := by have := (List.getElem?_eq_some_iff.1 hq).1; simp only [AV.cells] at this; rw [hw'.len] at this; exact this
      exact (hw'.repL hr).2 i q _ hq (by rw [List.getElem?_map, List.getElem?_range hi]; rfl)
    | _ => simp [Wk] at hw
  | _ =>
    first
      | (simp [AV.pure] at hp; done)
      | (have hb : b.cells = [b] := by
           revert hw
           cases b <;> simp [Wk, AV.cells]
         rw [hb]
         refine ⟨rfl, fun hc i q hq => ?_⟩
         cases i with
         | zero =>
           simp only [AV.cells, List.getElem?_cons_zero, Option.some.injEq] at hq
           subst hq
           exact Wk.rep _ b _ hw (hc 0 b rfl)
         | succ i => simp [AV.cells] at hq)
end

def rowsLe (ρ : Nat → Nat) (n : Nat) : List (Nat × Row) → List (Nat × Row) → Prop
  | [], _ => True
  | (i, R) :: t, L => (i < n ∧ L.lookup (ρ i) = some R) ∧ rowsLe ρ n t L
def boxesLe (ρ : Nat → Nat) (n : Nat) : List (Nat × Bx) → List (Nat × Bx) → Prop
  | [], _ => True
  | (b, B) :: t, L => (b < n ∧ match L.lookup (ρ b) with | some B2 => B2.T = B.T ∧ WkL ρ n B.c B2.c | none => False) ∧ boxesLe ρ n t L
def tmLe (ρ : Nat → Nat) (n : Nat) : List (Nat × AV) → List (Nat × AV) → Prop
  | [], _ => True
  | (i, a) :: t, L => (match L.lookup i with | some b => Wk ρ n a b | none => False) ∧ tmLe ρ n t L
/-- The first state says no more than the second. -/
def Le (n0 : Nat) (ρ : Nat → Nat) (E1 E2 : Env) : Prop :=
  (n0 ≤ E1.n ∧ E1.k = E2.k ∧ ∀ i, i < n0 → ρ i = i) ∧ tmLe ρ E1.n E1.tm E2.tm ∧ rowsLe ρ E1.n E1.rows E2.rows ∧ boxesLe ρ E1.n E1.boxes E2.boxes ∧
  (∀ i j, i ∈ keys E1.rows → j ∈ keys E1.rows → ρ i = ρ j → i = j) ∧ ∀ i j, i ∈ keys E1.boxes → j ∈ keys E1.boxes → ρ i = ρ j → i = j

theorem rowsLe_get {ρ : Nat → Nat} {n : Nat} : ∀ {l L : List (Nat × Row)}, rowsLe ρ n l L → ∀ i R, l.lookup i = some R → i < n ∧ L.lookup (ρ i) = some R
  | [], L, _, i, R, h => by simp at h
  | (k, R0) :: t, L, h, i, R, hl => by
    rw [lookup_cons] at hl
    split at hl
    · rename_i e; subst e; cases hl; exact h.1
    · exact rowsLe_get h.2 i R hl
theorem boxesLe_get {ρ : Nat → Nat} {n : Nat} : ∀ {l L : List (Nat × Bx)}, boxesLe ρ n l L → ∀ b B, l.lookup b = some B → b < n ∧ ∃ B2, L.lookup (ρ b) = some B2 ∧ B2.T = B.T ∧ WkL ρ n B.c B2.c
  | [], L, _, i, R, h => by simp at h
  | (k, B0) :: t, L, h, i, B, hl => by
    rw [lookup_cons] at hl
    split at hl
    · rename_i e
      subst e
      cases hl
      refine ⟨h.1.1, ?_⟩
      have := h.1.2
      split at this
      · rename_i B2 hB; exact ⟨B2, hB, this⟩
      · exact this.elim
    · exact boxesLe_get h.2 i B hl

theorem tmLe_get {ρ : Nat → Nat} {n : Nat} : ∀ {l L : List (Nat × AV)}, tmLe ρ n l L → ∀ i a, l.lookup i = some a → ∃ b, L.lookup i = some b ∧ Wk ρ n a b
  | [], L, _, i, R, h => by simp at h
  | (k, R0) :: t, L, h, i, R, hl => by
    rw [lookup_cons] at hl
    split at hl
    · rename_i e
      subst e
      cases hl
      have := h.1
      split at this
      · rename_i b hb; exact ⟨b, hb, this⟩
      · exact this.elim
    · exact tmLe_get h.2 i R hl
theorem tmLe.rep {X : RX} {ρ : Nat → Nat} {n k : Nat} {l L : List (Nat × AV)} {ts : Array Value} (hw : tmLe ρ n l L) (h : RepT X k L ts) : RepT (X.ren ρ n) k l ts := by
  refine ⟨h.1, fun i a ha => ?_⟩
  obtain ⟨b, hb, hw⟩ := tmLe_get hw i a ha
  obtain ⟨v, h1, h2⟩ := h.2 i b hb
  exact ⟨v, h1, Wk.rep a b v hw h2⟩
section
variable {P : Program} {G : Gl} {E : Env} {X : RX} {a : Act}
theorem Sat.le (h : Sat G E X a) {E1 : Env} {ρ : Nat → Nat} (hl : Le G.n0 ρ E1 E) : Sat G E1 (X.ren ρ E1.n) a := by
  obtain ⟨⟨hn, hk0, hid⟩, htm, hrow, hbox, hir, hib⟩ := hl
  have hr := fun i R hi => rowsLe_get hrow i R hi
  have hb := fun b B hi => boxesLe_get hbox b B hi
  have hmk : ∀ {α : Type} (l : List (Nat × α)) k v, l.lookup k = some v → k ∈ keys l := fun l k v h => (mem_keys k l).2 (by rw [h]; rfl)
  refine ⟨rfl, ⟨h.inv.fr, h.inv.Flt, h.inv.Fold, h.inv.Fnew, ?_, ?_, ?_, ?_, ?_⟩, hk0 ▸ htm.rep h.tm, h.df, ⟨hn, ?_, ?_, ?_⟩⟩
  · intro b B hb'
    obtain ⟨hlt, B2, h1, h2, h3⟩ := hb b B hb'
    have hB := h.inv.box _ B2 h1
    obtain ⟨vs, h4, h5⟩ := hB.cells
    exact ⟨hlt, hB.nf, hB.mine, vs, h2 ▸ h4, h3.repL h5⟩
  · intro i R hi
    obtain ⟨hlt, h1⟩ := hr i R hi
    have hR := h.inv.row _ R h1
    obtain ⟨xs, h2, h3, h4⟩ := hR.rep
    refine ⟨hlt, hR.blk, xs, h2, ⟨h3.1, h3.2.1, fun j b q c v hj hc hv => ?_⟩, h4⟩
    exact Rep.pureIn (X := X) (X' := X.ren ρ E1.n) (fun _ h => h) (fun _ _ => rfl) (h3.2.2 j b q c v hj hc hv) (AV.pure_cells ((AV.pureL_iff _).1 h3.1 b (List.mem_of_getElem? hj)) c (List.mem_of_getElem? hc))
  · intro b b' B B' h1 h2 hne
    obtain ⟨_, B2, h3, _⟩ := hb b B h1
    obtain ⟨_, B2', h3', _⟩ := hb b' B' h2
    exact h.inv.bb _ _ B2 B2' h3 h3' (fun e => hne (hib b b' (hmk _ _ _ h1) (hmk _ _ _ h2) e))
  · intro i i' R R' h1 h2 hne
    exact h.inv.rr _ _ R R' (hr i R h1).2 (hr i' R' h2).2 (fun e => hne (hir i i' (hmk _ _ _ h1) (hmk _ _ _ h2) e))
  · intro b i B R h1 h2
    obtain ⟨_, B2, h3, _⟩ := hb b B h1
    exact h.inv.br _ _ B2 R h3 (hr i R h2).2
  · intro b hlt
    show X.β (ρ b) = _
    rw [hid b hlt]; exact h.kp.b b hlt
  · intro i hlt hf
    show X.κ (ρ i) = _
    rw [hid i hlt]; exact h.kp.i i hlt hf
  · intro i R hi hlt hf
    have := (hr i R hi).2
    rw [hid i hlt] at this
    exact h.kp.r i R this hlt hf

/-- Small changes of what is said, without a step of the program. -/
inductive Adm where
  | nilT (d : Nat) (e : TypeId) (s : Nat)
  | frz (i : Nat)
  | nilB (b off : Nat) (e : TypeId) (s : Nat)
  | wkR (i : Nat) (c x : List AV)
def Steps : List Adm → (Env → Prop) → Env → Prop
  | [], k, E => k E
  | .nilT d e s :: r, k, E => E.tmp d = .nils ∧ Steps r k { E with tm := (d, .own E.n) :: E.tm, rows := (E.n, ⟨e, s, [], false⟩) :: E.rows, n := E.n + 1 }
  | .frz i :: r, k, E => Steps r k (E.frz i)
  | .nilB b off e s :: r, k, E => match E.boxes.lookup b with
    | some B => B.c[off]? = some .nils ∧ Steps r k { E with boxes := repl b ⟨B.T, B.c.set off (.own E.n)⟩ E.boxes, rows := (E.n, ⟨e, s, [], false⟩) :: E.rows, n := E.n + 1 }
    | none => False
  | .wkR i c x :: r, k, E => match E.rows.lookup i with
    | some R => Opq (∃ y, R.l = c ++ y ∧ AV.pureL x = true ∧ WkL id E.n x y) ∧ Steps r k { E with rows := repl i ⟨R.e, R.s, c ++ x, R.fx⟩ E.rows }
    | none => False
def Turn (n0 : Nat) (E1 E2 : Env) : Prop := ∃ adms ρ, Steps adms (Le n0 ρ E1) E2

theorem Steps.sound : ∀ {adms : List Adm} {k : Env → Prop} {E : Env} {X : RX}, Sat G E X a → Steps adms k E → ∃ E' X', X'.w = X.w ∧ Sat G E' X' a ∧ k E'
  | [], k, E, X, h, hk => ⟨E, X, rfl, h, hk⟩
  | .nilT d e s :: r, k, E, X, h, hk => by
    simp only [Steps] at hk
    obtain ⟨v, hv, hr⟩ := tm_rep h hk.1 (by simp)
    have hv0 : v = .slice none 0 0 := by cases hr; rfl
    obtain ⟨X1, hw1, hk1, hle, hs1⟩ := h.nilRow e s
    have hown : Rep X1 (.own E.n) v := by
      rw [hv0, ← hk1]
      exact .own _ (by rw [hs1.n]; exact Nat.lt_succ_self _) (by rw [hk1]; rfl)
    have hS : Sat G { E with tm := (d, .own E.n) :: E.tm, rows := (E.n, ⟨e, s, [], false⟩) :: E.rows, n := E.n + 1 } X1 a := by
      refine ⟨hs1.n, hs1.inv, ⟨hs1.tm.1, fun i b hb => ?_⟩, hs1.df, hs1.kp⟩
      rw [lookup_cons] at hb
      split at hb
      · rename_i e; subst e; cases hb; exact ⟨v, hv, hown⟩
      · exact hs1.tm.2 i b hb
    obtain ⟨E', X', h1, h2, h3⟩ := Steps.sound hS hk.2
    exact ⟨E', X', h1.trans hw1, h2, h3⟩
  | .frz i :: r, k, E, X, h, hk => by
    obtain ⟨X1, hw1, hs1, _⟩ := h.frz i
    obtain ⟨E', X', h1, h2, h3⟩ := Steps.sound hs1 hk
    exact ⟨E', X', h1.trans hw1, h2, h3⟩
  | .nilB b off e s :: r, k, E, X, h, hk => by
    simp only [Steps] at hk
    cases hB : E.boxes.lookup b with
    | none => rw [hB] at hk; exact hk.elim
    | some B =>
      rw [hB] at hk
      obtain ⟨hnil, hk⟩ := hk
      obtain ⟨X1, hw1, hk1, hle, hs1⟩ := h.nilRow e s
      have hsome : (E.boxes.lookup b).isSome = true := by rw [hB]; rfl
      have hlk : ∀ b' B', (repl b ⟨B.T, B.c.set off (.own E.n)⟩ E.boxes).lookup b' = some B' → ∃ B0, E.boxes.lookup b' = some B0 := by
        intro b' B' h'
        rw [lookup_repl _ _ _ _ hsome] at h'
        split at h'
        · rename_i e; subst e; exact ⟨B, hB⟩
        · exact ⟨B', h'⟩
      have hS : Sat G { E with boxes := repl b ⟨B.T, B.c.set off (.own E.n)⟩ E.boxes, rows := (E.n, ⟨e, s, [], false⟩) :: E.rows, n := E.n + 1 } X1 a := by
        refine ⟨hs1.n, ⟨hs1.inv.fr, hs1.inv.Flt, hs1.inv.Fold, hs1.inv.Fnew, fun b' B' hb' => ?_, hs1.inv.row, fun b1 b2 B1 B2 h1 h2 hne => ?_, hs1.inv.rr, fun b1 i B1 R1 h1 h2 => ?_⟩, hs1.tm, hs1.df, hs1.kp⟩
        · rw [lookup_repl _ _ _ _ hsome] at hb'
          split at hb'
          · rename_i ee
            subst ee
            cases hb'
            have hbx := hs1.inv.box b' B hB
            obtain ⟨vs, h1, h2⟩ := hbx.cells
            refine ⟨hbx.lt, hbx.nf, hbx.mine, vs, h1, by simpa using h2.1, fun i c u hc hu => ?_⟩
            rw [List.getElem?_set] at hc
            split at hc
            · rename_i ei
              subst ei
              split at hc
              · cases hc
                have h3 := h2.2 off .nils u hnil hu
                cases h3
                rw [← hk1]
                exact .own _ (by rw [hs1.n]; exact Nat.lt_succ_self _) (by rw [hk1]; rfl)
              · cases hc
            · exact h2.2 i c u hc hu
          · exact hs1.inv.box b' B' hb'
        · obtain ⟨B1', h1'⟩ := hlk _ _ h1
          obtain ⟨B2', h2'⟩ := hlk _ _ h2
          exact hs1.inv.bb b1 b2 B1' B2' h1' h2' hne
        · obtain ⟨B1', h1'⟩ := hlk _ _ h1
          exact hs1.inv.br b1 i B1' R1 h1' h2
      obtain ⟨E', X', h1, h2, h3⟩ := Steps.sound hS hk
      exact ⟨E', X', h1.trans hw1, h2, h3⟩
  | .wkR i c x :: r, k, E, X, h, hk => by
    simp only [Steps] at hk
    cases hR : E.rows.lookup i with
    | none => rw [hR] at hk; exact hk.elim
    | some R =>
      rw [hR] at hk
      obtain ⟨⟨y, hRl, hpx, hw⟩, hk⟩ := hk
      have hsome : (E.rows.lookup i).isSome = true := by rw [hR]; rfl
      have hlen : (c ++ x).length = R.l.length := by rw [hRl, List.length_append, List.length_append, hw.len]
      have hS : Sat G { E with rows := repl i ⟨R.e, R.s, c ++ x, R.fx⟩ E.rows } X a := by
        have hlk : ∀ i' R', (repl i ⟨R.e, R.s, c ++ x, R.fx⟩ E.rows).lookup i' = some R' → ∃ R0, E.rows.lookup i' = some R0 ∧ R'.fx = R0.fx := by
          intro i' R' h'
          rw [lookup_repl _ _ _ _ hsome] at h'
          split at h'
          · rename_i e; subst e; cases h'; exact ⟨R, hR, rfl⟩
          · exact ⟨R', h', rfl⟩
        refine ⟨h.n, ⟨h.inv.fr, h.inv.Flt, h.inv.Fold, h.inv.Fnew, h.inv.box, fun i' R' hi' => ?_, h.inv.bb, fun i1 i2 R1 R2 h1 h2 hne => ?_, fun b1 i1 B1 R1 h1 h2 => ?_⟩, h.tm, h.df, ⟨h.kp.n, h.kp.b, fun j hj hf => h.kp.i j hj hf, fun j R' hj hlt hf => ?_⟩⟩
        · rw [lookup_repl _ _ _ _ hsome] at hi'
          split at hi'
          · rename_i ee
            subst ee
            cases hi'
            have hrow := h.inv.row i' R hR
            obtain ⟨xs, h1, h2, h3⟩ := hrow.rep
            refine ⟨hrow.lt, hrow.blk, xs, by rw [hlen]; exact h1, ?_, h3⟩
            obtain ⟨hp, hs, hv⟩ := h2
            rw [hRl] at hp hs hv
            have hpa : AV.pureL (c ++ x) = true := by
              rw [AV.pureL_iff]
              intro z hz
              rcases List.mem_append.1 hz with hz | hz
              · exact (AV.pureL_iff _).1 hp z (by simp [hz])
              · exact (AV.pureL_iff _).1 hpx z hz
            have key : ∀ (j : Nat) (z : AV), (c ++ x)[j]? = some z → (c ++ y)[j]? = some z ∨ ∃ b, (c ++ y)[j]? = some b ∧ z.pure = true ∧ Wk id X.n z b := by
              intro j z hz
              rw [List.getElem?_append] at hz
              rw [List.getElem?_append]
              split at hz
              · rename_i hlt; rw [if_pos hlt]; exact .inl hz
              · rename_i hlt
                rw [if_neg hlt]
                obtain ⟨b, hb, hwb⟩ := hw.get _ z hz
                exact .inr ⟨b, hb, (AV.pureL_iff _).1 hpx z (List.mem_of_getElem? hz), h.n ▸ hwb⟩
            refine ⟨hpa, fun j z hz => ?_, fun j z q cc v hz hq hx => ?_⟩
            · rcases key j z hz with hz | ⟨b, hb, hpz, hwz⟩
              · exact hs j z hz
              · rw [(Wk.elt (X := X) hpz hwz (fun _ => undef)).1]; exact hs j b hb
            · rcases key j z hz with hz | ⟨b, hb, hpz, hwz⟩
              · exact hv j z q cc v hz hq hx
              · have hel := Wk.elt (X := X) hpz hwz (fun q => xs.getD (j * R.s + q) undef)
                have hxs : ∀ q c', b.cells[q]? = some c' → ∃ v', xs[j * R.s + q]? = some v' := by
                  intro q' c' hc'
                  have hq' := (List.getElem?_eq_some_iff.1 hc').1
                  have hj := (List.getElem?_eq_some_iff.1 hb).1
                  have hb2 := hs j b hb
                  have h5 : j * R.s + R.s ≤ xs.length := by
                    rw [h1.1]
                    calc j * R.s + R.s = (j + 1) * R.s := by rw [Nat.succ_mul]
                      _ ≤ R.l.length * R.s := Nat.mul_le_mul_right _ (by rw [hRl]; exact hj)
                  exact ⟨_, List.getElem?_eq_getElem (by omega)⟩
                have := hel.2 (fun q' c' hc' => ?_) q cc hq
                · rw [List.getD_eq_getElem?_getD, hx] at this
                  exact this
                · obtain ⟨v', hv'⟩ := hxs q' c' hc'
                  rw [List.getD_eq_getElem?_getD, hv']
                  exact hv j b q' c' v' hb hc' hv'
          · exact h.inv.row i' R' hi'
        · obtain ⟨R1', h1', _⟩ := hlk _ _ h1
          obtain ⟨R2', h2', _⟩ := hlk _ _ h2
          exact h.inv.rr i1 i2 R1' R2' h1' h2' hne
        · obtain ⟨R1', h1', _⟩ := hlk _ _ h2
          exact h.inv.br b1 i1 B1 R1' h1 h1'
        · obtain ⟨R1', h1', he⟩ := hlk _ _ hj
          rw [he]
          exact h.kp.r j R1' h1' hlt hf
      obtain ⟨E', X', h1, h2, h3⟩ := Steps.sound hS hk
      exact ⟨E', X', h1, h2, h3⟩
theorem Turn.sound (h : Sat G E X a) {E1 : Env} (ht : Turn G.n0 E1 E) : ∃ X', X'.w = X.w ∧ Sat G E1 X' a := by
  obtain ⟨adms, ρ, hs⟩ := ht
  obtain ⟨E', X', h1, h2, h3⟩ := Steps.sound h hs
  exact ⟨X'.ren ρ E1.n, h1, h2.le h3⟩

end
end Go.VV
