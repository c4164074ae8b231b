/- Parameters of any plain type, opened: what comes in stands for values that no call may change. -/
import Derived.Test.YtfgipdfdilafnaaV23
import Derived.OpenShut
import Derived.ChangeSlices
set_option linter.unusedSimpArgs false
set_option linter.unusedVariables false
namespace Go.VV
open Go.RowKit Go.ChangeShapes Go.WideShapes

/-- What a cell of a parameter holds. -/
inductive CS where
  | int (k : IntKind)
  | bool
  | str
  | sl (s : Nat) (agg : Bool) (e : List CS)

mutual
def FitC : CS → AV → Prop
  | .int k, a => ∃ n, a = .int k n ∧ (Lit.int k n).wf = true
  | .bool, a => ∃ b, a = .bool b
  | .str, a => ∃ s : ByteArray, a = .str s ∧ s.size ≤ maxLen
  | .sl s agg e, a => ∃ n f, a = .sl s n f ∧ n ≤ maxLen ∧ ∀ j, j < n → ∃ l, f j = ofCells agg l ∧ FitL e l
def FitL : List CS → List AV → Prop
  | [], [] => True
  | c :: cs, a :: as => FitC c a ∧ FitL cs as
  | _, _ => False
end
theorem FitL.len : ∀ {cs : List CS} {as : List AV}, FitL cs as → as.length = cs.length
  | [], [], _ => rfl
  | c :: cs, a :: as, h => by simp only [FitL] at h; simp [FitL.len h.2]
  | [], _ :: _, h => h.elim
  | _ :: _, [], h => h.elim
theorem FitL.append : ∀ {cs cs' : List CS} {as as' : List AV}, FitL cs as → FitL cs' as' → FitL (cs ++ cs') (as ++ as')
  | [], _, [], _, _, h => h
  | c :: cs, _, a :: as, _, h, h' => by simp only [FitL] at h; exact ⟨h.1, FitL.append h.2 h'⟩
  | [], _, _ :: _, _, h, _ => h.elim
  | _ :: _, _, [], _, h, _ => h.elim
theorem FitC.plain : ∀ {c : CS} {a : AV}, FitC c a → a.pure = true ∧ a.cells = [a] ∧ ∀ X v, Rep X a v → v.oneCell' = true
  | .int k, a, h => by simp only [FitC] at h; obtain ⟨n, rfl, _⟩ := h; exact ⟨rfl, rfl, fun X v hr => by cases hr; rfl⟩
  | .bool, a, h => by simp only [FitC] at h; obtain ⟨n, rfl⟩ := h; exact ⟨rfl, rfl, fun X v hr => by cases hr; rfl⟩
  | .str, a, h => by simp only [FitC] at h; obtain ⟨n, rfl, _⟩ := h; exact ⟨rfl, rfl, fun X v hr => by cases hr; rfl⟩
  | .sl s agg e, a, h => by simp only [FitC] at h; obtain ⟨n, f, rfl, _⟩ := h; exact ⟨rfl, rfl, fun X v hr => by cases hr; rfl⟩
theorem FitL.plain : ∀ {cs : List CS} {as : List AV}, FitL cs as → ∀ a ∈ as, a.pure = true ∧ a.cells = [a] ∧ ∀ X v, Rep X a v → v.oneCell' = true
  | [], [], _ => by simp
  | c :: cs, a :: as, h => by
    simp only [FitL] at h
    intro b hb
    rcases List.mem_cons.1 hb with rfl | hb
    · exact FitC.plain h.1
    · exact FitL.plain h.2 b hb
  | [], _ :: _, h => h.elim
  | _ :: _, [], h => h.elim

def aggT (P : Program) (t : TypeId) : Bool := match P.underlying t with
  | some (.struct _) | some (.array _ _) => true
  | _ => false
def shapeF (r : TypeId → Option (List CS)) : List Field → Nat → Option (List CS)
  | [], _ => some []
  | f :: t, o => if f.offset = o then match r f.type with
      | some l => match shapeF r t (o + l.length) with
        | some l' => some (l ++ l')
        | none => none
      | none => none
      else none
def shapeA (l : List CS) : Nat → List CS
  | 0 => []
  | n + 1 => l ++ shapeA l n
def shapeT (P : Program) : Nat → TypeId → Option (List CS)
  | 0, _ => none
  | n + 1, t => match P.underlying t with
    | some .bool => some [.bool]
    | some (.int k) => some [.int k]
    | some .string => some [.str]
    | some (.slice e) => match shapeT P n e with
      | some l => if l.length = P.cellsOf e ∧ 0 < P.cellsOf e ∧ (aggT P e = true ∨ l.length = 1) then some [.sl (P.cellsOf e) (aggT P e) l] else none
      | none => none
    | some (.struct fs) => match shapeF (shapeT P n) fs.toList 0 with
      | some l => if l.length = P.cellsOf t then some l else none
      | none => none
    | some (.array m e) => match shapeT P n e with
      | some l => if l.length = P.cellsOf e ∧ m * P.cellsOf e = P.cellsOf t then some (shapeA l m) else none
      | none => none
    | _ => none

section
variable {H : Type} {enc : TypeId × Value → H} {P : Program} {w : World} {base : Nat} {spare : Nat → Bool} {held : Bool}

theorem take_drop_len (l : List Value) (k : Nat) : l.take k ++ l.drop (l.take k).length = l := by
  rw [List.length_take]
  rcases Nat.le_total k l.length with h | h
  · rw [Nat.min_eq_left h, List.take_append_drop]
  · rw [Nat.min_eq_right h, List.drop_length, List.append_nil, List.take_of_length_le h]

theorem RepL.append {X : RX} {l l' : List AV} {vs vs' : List Value} (h : RepL X l vs) (h' : RepL X l' vs') : RepL X (l ++ l') (vs ++ vs') := by
  induction l generalizing vs with
  | nil =>
    obtain ⟨hl, _⟩ := h
    have : vs = [] := List.length_eq_zero_iff.1 hl
    subst this
    exact h'
  | cons a t ih =>
    cases vs with
    | nil => exact absurd h.1 (by simp)
    | cons v vs =>
      refine .cons (h.2 0 a v rfl rfl) (ih ⟨by simpa using h.1, fun i b u hb hu => h.2 (i + 1) b u (by simpa using hb) (by simpa using hu)⟩)

theorem shapeF_sound {n m : Nat} {cs : List Value} {X : RX}
    (ih : ∀ (t : TypeId) (l : List CS) (cs : List Value) (x : DataW H × List MemPlace), shapeT P n t = some l → DataW.trod enc P w base spare held m t cs = some x → ∃ avs, FitL l avs ∧ RepL X avs cs) :
    ∀ (fs : List Field) (o : Nat) (l : List CS), shapeF (shapeT P n) fs o = some l → o + l.length = cs.length → (∀ f ∈ fs, ∃ x, DataW.trod enc P w base spare held m f.type ((cs.drop f.offset).take (P.cellsOf f.type)) = some x) →
      ∃ avs, FitL l avs ∧ RepL X avs (cs.drop o)
  | [], o, l, h, hl, _ => by
    simp only [shapeF, Option.some.injEq] at h
    subst h
    rw [List.drop_of_length_le (by simp at hl; omega)]
    exact ⟨[], trivial, .nil⟩
  | f :: t, o, l, h, hl, hf => by
    simp only [shapeF] at h
    split at h
    · rename_i ho
      split at h
      · rename_i l1 h1
        split at h
        · rename_i l2 h2
          simp only [Option.some.injEq] at h
          subst h
          obtain ⟨x, hx⟩ := hf f (by simp)
          obtain ⟨a1, hf1, hr1⟩ := ih _ _ _ _ h1 hx
          have e1 : ((cs.drop f.offset).take (P.cellsOf f.type)).length = l1.length := by rw [hr1.1, hf1.len]
          obtain ⟨a2, hf2, hr2⟩ := shapeF_sound ih t _ l2 h2 (by simp at hl; omega) (fun g hg => hf g (by simp [hg]))
          refine ⟨a1 ++ a2, hf1.append hf2, ?_⟩
          rw [← take_drop_len (cs.drop o) (P.cellsOf f.type)]
          rw [← ho] at hr2 ⊢
          refine hr1.append ?_
          rw [e1, List.drop_drop]
          exact hr2
        · cases h
      · cases h
    · cases h

theorem shapeA_sound {l : List CS} {cs : List Value} {X : RX} {k : Nat} (hl : l.length = k) :
    ∀ (n o : Nat), (∀ i, i < n → ∃ avs, FitL l avs ∧ RepL X avs ((cs.drop ((o + i) * k)).take k)) → (o + n) * k = cs.length → ∃ avs, FitL (shapeA l n) avs ∧ RepL X avs (cs.drop (o * k))
  | 0, o, h, he => by
    rw [List.drop_of_length_le (by rw [← he]; simp)]
    exact ⟨[], trivial, .nil⟩
  | n + 1, o, h, he => by
    obtain ⟨a1, hf1, hr1⟩ := h 0 (by omega)
    obtain ⟨a2, hf2, hr2⟩ := shapeA_sound hl n (o + 1) (fun i hi => by have := h (i + 1) (by omega); rwa [show o + (i + 1) = o + 1 + i by omega] at this) (by rw [← he]; congr 1; omega)
    refine ⟨a1 ++ a2, hf1.append hf2, ?_⟩
    rw [← take_drop_len (cs.drop (o * k)) k]
    rw [Nat.add_zero] at hr1
    refine hr1.append ?_
    have e1 : ((cs.drop (o * k)).take k).length = k := by rw [hr1.1, hf1.len, hl]
    rw [e1, List.drop_drop, show o * k + k = (o + 1) * k by rw [Nat.add_mul, Nat.one_mul]]
    exact hr2

theorem agg_rep {X : RX} {agg : Bool} {l : List AV} {s : Nat} (hs : l.length = s) (h : agg = true ∨ s = 1) : (ofCells agg l).cells = l ∨ agg = false ∧ ∃ a, l = [a] := by
  cases agg with
  | true => left; rfl
  | false => right; refine ⟨rfl, ?_⟩; match l, hs, h with | [a], _, _ => exact ⟨a, rfl⟩ | [], hs, h => (simp at hs h; omega) | _ :: _ :: _, hs, h => (simp at hs h; omega)

theorem shape_sound : ∀ (n m : Nat) (t : TypeId) (l : List CS) (cs : List Value) (x : DataW H × List MemPlace), shapeT P n t = some l → DataW.trod enc P w base spare held m t cs = some x → ∃ avs, FitL l avs ∧ RepL (RX.old w) avs cs := by
  intro n
  induction n with
  | zero => intro m t l cs x h; simp [shapeT] at h
  | succ n ih =>
    intro m t l cs x h hx
    simp only [shapeT] at h
    split at h
    · rename_i ht
      simp only [Option.some.injEq] at h
      subst h
      obtain ⟨b, rfl, _⟩ := DataW.trod_bool ht hx
      exact ⟨[.bool b], ⟨⟨b, rfl⟩, trivial⟩, .cons (.bool b) .nil⟩
    · rename_i k ht
      simp only [Option.some.injEq] at h
      subst h
      obtain ⟨b, rfl, _, hw⟩ := DataW.trod_int ht hx
      exact ⟨[.int k b], ⟨⟨b, rfl, hw⟩, trivial⟩, .cons (.int k b) .nil⟩
    · rename_i ht
      simp only [Option.some.injEq] at h
      subst h
      obtain ⟨b, rfl, _, hw⟩ := DataW.trod_string ht hx
      exact ⟨[.str b], ⟨⟨b, rfl, hw⟩, trivial⟩, .cons (.str b) .nil⟩
    · rename_i e ht
      split at h
      · rename_i l1 h1
        split at h
        · rename_i hc
          simp only [Option.some.injEq] at h
          subst h
          rcases DataW.trod_slice ht hx with ⟨rfl, _⟩ | ⟨a, len, cap, elems, rest, q, rfl, rfl, rfl, hb, hl, hm, hlen, hel, _, _⟩
          · refine ⟨[.sl (P.cellsOf e) 0 fun _ => .top], ⟨⟨0, _, rfl, by omega, fun j hj => by omega⟩, trivial⟩, .cons ?_ .nil⟩
            exact Rep.sl (X := RX.old w) _ 0 _ none 0 (fun _ _ => undef) (by omega) (by omega) (fun j hj => by omega) (fun h => by omega) (fun j hj => by omega) (fun j i q hj => by omega) (fun j i q hj => by omega)
          · have each : ∀ i, i < len → ∃ avs cs', FitL l1 avs ∧ RepL (RX.old w) avs cs' ∧ cs'.length = P.cellsOf e ∧ ∀ j, j < P.cellsOf e → w.cell? ((a.add (i * P.cellsOf e)).add j) = cs'[j]? := by
              intro i hi
              have h2 := hel i hi
              rw [List.getElem?_eq_getElem (by omega), Option.bind_eq_some_iff] at h2
              obtain ⟨cs', h3, h4⟩ := h2
              obtain ⟨avs, h5, h6⟩ := ih _ _ _ _ _ h1 h4
              obtain ⟨_, h7, h8⟩ := World.cells?_some h3
              exact ⟨avs, cs', h5, h6, h7, h8⟩
            let av : Nat → List AV := fun i => if hi : i < len then Classical.choose (each i hi) else []
            let vl : Nat → List Value := fun i => if hi : i < len then Classical.choose (Classical.choose_spec (each i hi)) else []
            have spec : ∀ i, i < len → FitL l1 (av i) ∧ RepL (RX.old w) (av i) (vl i) ∧ (vl i).length = P.cellsOf e ∧ ∀ j, j < P.cellsOf e → w.cell? ((a.add (i * P.cellsOf e)).add j) = (vl i)[j]? := by
              intro i hi
              simp only [av, vl, dif_pos hi]
              exact Classical.choose_spec (Classical.choose_spec (each i hi))
            have hcells : ∀ j, j < len → (ofCells (aggT P e) (av j)).cells = av j := by
              intro j hj
              have hs := spec j hj
              have hal : (av j).length = P.cellsOf e := by rw [hs.1.len, hc.1]
              cases hag : aggT P e with
              | true => rfl
              | false =>
                have h1 : l1.length = 1 := by rcases hc.2.2 with h | h; rw [hag] at h; cases h; exact h
                have hl1 : (av j).length = 1 := by rw [hs.1.len, h1]
                obtain ⟨b, hb⟩ : ∃ b, av j = [b] := List.length_eq_one_iff.1 hl1
                rw [hb]
                have := (hs.1.plain b (by rw [hb]; simp)).2.1
                simpa [ofCells] using this
            have hadd : ∀ (p q : Nat), (a.add p).add q = a.add (p + q) := by
              intro p q
              unfold Addr.add
              by_cases hp : p = 0 <;> by_cases hq : q = 0 <;> simp_all [Nat.add_assoc]
            refine ⟨[.sl (P.cellsOf e) len fun j => ofCells (aggT P e) (av j)], ⟨⟨len, _, rfl, by omega, fun j hj => ⟨av j, rfl, (spec j hj).1⟩⟩, trivial⟩, .cons ?_ .nil⟩
            refine Rep.sl (X := RX.old w) _ len _ (some a) cap (fun j i => ((vl j)[i]?).getD undef) hl (by simp only [maxLen] at hm; omega) ?_ ?_ ?_ ?_ ?_
            · intro j hj
              have hs := spec j hj
              cases hag : aggT P e with
              | true => exact AV.pureL_iff _ |>.2 (fun b hb => (hs.1.plain b hb).1)
              | false =>
                have h1 : l1.length = 1 := by rcases hc.2.2 with h | h; rw [hag] at h; cases h; exact h
                obtain ⟨b, hb⟩ : ∃ b, av j = [b] := List.length_eq_one_iff.1 (by rw [hs.1.len, h1])
                rw [hb]
                exact (hs.1.plain b (by rw [hb]; simp)).1
            · intro h0
              refine ⟨a, rfl, ?_, ?_⟩
              · have := (spec 0 h0).2.2.2 0 hc.2.1
                rw [List.getElem?_eq_getElem (by rw [(spec 0 h0).2.2.1]; exact hc.2.1)] at this
                show a.block < w.heap.size
                by_cases hbk : a.block < w.heap.size
                · exact hbk
                · exfalso
                  rw [hadd] at this
                  have hb2 : (a.add (0 * P.cellsOf e + 0)).block = a.block := add_block _ _
                  unfold World.cell? at this
                  rw [Array.getElem?_eq_none (by rw [hb2]; omega)] at this
                  simp at this
              · intro j i q hj hi
                rw [hcells j hj] at hi
                have hs := spec j hj
                have hil : i < P.cellsOf e := by rw [← hc.1, ← hs.1.len]; exact (List.getElem?_eq_some_iff.1 hi).1
                have := hs.2.2.2 i hil
                rw [hadd] at this
                show w.cell? _ = _
                rw [this, List.getElem?_eq_getElem (by rw [hs.2.2.1]; exact hil)]
                rfl
            · intro j hj
              rw [hcells j hj, (spec j hj).1.len, hc.1]
            · intro j i q hj hi
              rw [hcells j hj] at hi
              have hs := spec j hj
              have hil : i < (vl j).length := by rw [hs.2.2.1, ← hc.1, ← hs.1.len]; exact (List.getElem?_eq_some_iff.1 hi).1
              simp only [List.getElem?_eq_getElem hil, Option.getD_some]
              exact (hs.1.plain q (List.mem_of_getElem? hi)).2.2 _ _ (hs.2.1.2 i q _ hi (List.getElem?_eq_getElem hil))
            · intro j i q hj hi
              rw [hcells j hj] at hi
              have hs := spec j hj
              have hil : i < (vl j).length := by rw [hs.2.2.1, ← hc.1, ← hs.1.len]; exact (List.getElem?_eq_some_iff.1 hi).1
              simp only [List.getElem?_eq_getElem hil, Option.getD_some]
              exact hs.2.1.2 i q _ hi (List.getElem?_eq_getElem hil)
        · cases h
      · cases h
    · rename_i fs ht
      split at h
      · rename_i l1 h1
        split at h
        · rename_i hc
          simp only [Option.some.injEq] at h
          subst h
          obtain ⟨xs, q, rfl, _, hl, hxl, hf⟩ := DataW.trod_struct ht hx
          have := shapeF_sound (cs := cs) (X := RX.old w) (ih q) fs.toList 0 l1 h1 (by omega) (fun f hf' => by
            obtain ⟨i, hi⟩ := List.getElem?_of_mem hf'
            have h2 := hf i f (by simpa using hi)
            have hil : i < fs.toList.length := (List.getElem?_eq_some_iff.1 hi).1
            rw [List.getElem?_eq_getElem (by rw [hxl]; simpa using hil)] at h2
            exact ⟨_, h2⟩)
          simpa using this
        · cases h
      · cases h
    · rename_i k e ht
      split at h
      · rename_i l1 h1
        split at h
        · rename_i hc
          simp only [Option.some.injEq] at h
          subst h
          obtain ⟨xs, q, rfl, _, hl, hxl, hf⟩ := DataW.trod_array ht hx
          have := shapeA_sound (cs := cs) (X := RX.old w) hc.1 k 0 (fun i hi => by
            have h2 := hf i hi
            rw [List.getElem?_eq_getElem (by omega)] at h2
            rw [Nat.zero_add]
            exact ih _ _ _ _ _ h1 h2) (by rw [Nat.zero_add, hc.2, hl])
          simpa using this
        · cases h
      · cases h
    · cases h

/-- A parameter. -/
theorem open_param {r : Reach} {b0 n : Nat} {t : TypeId} {l : List CS} {v : Value} {d : DataW H} {ps : List MemPlace} (hs : shapeT P n t = some l) (hval : Value.okWide P w r b0 t v) (hd : DataW.Trod enc P w base spare held t v d ps) :
    ∃ avs, FitL l avs ∧ ((aggT P t = true → Rep (RX.old w) (.ag avs) v) ∧ (aggT P t = false → l.length = 1 → ∃ a, avs = [a] ∧ Rep (RX.old w) a v)) := by
  obtain ⟨fuel, hf⟩ := hd
  obtain ⟨avs, h1, h2⟩ := shape_sound n fuel t l _ _ hs hf
  refine ⟨avs, h1, fun ha => ?_, fun ha hl => ?_⟩
  · have : ∃ cs, v = .agg cs := by
      unfold aggT at ha
      simp only [Value.okWide] at hval
      split at ha <;> rename_i hu
      · rw [hu] at hval; obtain ⟨cs, h, _⟩ := hval; exact ⟨cs, h⟩
      · rw [hu] at hval; obtain ⟨cs, h, _⟩ := hval; exact ⟨cs, h⟩
      · cases ha
    obtain ⟨cs, rfl⟩ := this
    have := Rep.ag (X := RX.old w) avs cs.toList h2.1 h2.2
    simpa using this
  · obtain ⟨a, rfl⟩ : ∃ a, avs = [a] := List.length_eq_one_iff.1 (by rw [h1.len, hl])
    refine ⟨a, rfl, ?_⟩
    have hone : v.cells.toList = [v] := by
      cases n with
      | zero => simp [shapeT] at hs
      | succ n =>
        simp only [shapeT] at hs
        split at hs
        · rename_i ht; obtain ⟨b, rfl⟩ := okWide_bool ht hval; rfl
        · rename_i ht; obtain ⟨b, rfl⟩ := okWide_int ht hval; rfl
        · rename_i ht; obtain ⟨b, rfl⟩ := okWide_string ht hval; rfl
        · rename_i ht; obtain ⟨b, c, d, rfl⟩ := okWide_slice ht hval; rfl
        · rename_i ht; simp [aggT, ht] at ha
        · rename_i ht; simp [aggT, ht] at ha
        · cases hs
    rw [hone] at h2
    exact h2.2 0 a v rfl rfl
end
/-- The same law, for arguments that say more. -/
theorem Spec.wk {P : Program} {f : FuncId} {args args' : List AV} (h : Spec P f ⟨[], []⟩ 0 args fun r C' => r = .bool true ∧ C' = ⟨[], []⟩) (hw : WkL id 0 args args') : Spec P f ⟨[], []⟩ 0 args' fun r C' => r = .bool true ∧ C' = ⟨[], []⟩ :=
  h.use id id (fun j hj => absurd hj (Nat.not_lt_zero _)) hw trivial trivial fun r C2 ⟨h1, h2⟩ => by subst h1 h2; exact ⟨rfl, rfl⟩
theorem wk_id : ∀ {a : AV}, a.pure = true → Wk id 0 a a := by
  intro a
  induction a using AV.rec (motive_2 := fun l => AV.pureL l = true → WkL id 0 l l) with
  | top => intro h; simp [AV.pure] at h
  | nils => intro _; simp
  | int | bool | str => intro _; simp
  | sl s n f ih => intro _; exact wk_same
  | ag l ih => intro h; exact ih (by simpa [AV.pure] using h)
  | own i => intro h; simp [AV.pure] at h
  | ptr b o => intro h; simp [AV.pure] at h
  | ept x s j o ih => intro h; simp [AV.pure] at h
  | osl i s o n => intro h; simp [AV.pure] at h
  | fn f l ih => intro h; simp [AV.pure] at h
  | tup l ih => intro h; simp [AV.pure] at h
  | cnd p a ih => intro h; simp [AV.pure] at h
  | nil => trivial
  | cons a t ha ht => rename_i h; simp only [AV.pureL, Bool.and_eq_true] at h; exact ⟨ha h.1, ht h.2⟩
theorem fit_sl {α : Type} [Inhabited α] {s : Nat} {agg : Bool} {e : List CS} {a : AV} (g : α → AV) (Q : α → Prop) (hg : ∀ l, FitL e l → ∃ x, Q x ∧ (g x).pure = true ∧ Wk id 0 (g x) (ofCells agg l)) (h : FitC (.sl s agg e) a) :
    ∃ xs : List α, (∀ x ∈ xs, Q x) ∧ xs.length ≤ maxLen ∧ Wk id 0 (.sl s xs.length fun j => g (xs[j]?.getD default)) a := by
  simp only [FitC] at h
  obtain ⟨n, f, rfl, hn, hf⟩ := h
  have hx : ∀ j, j < n → ∃ x, Q x ∧ (g x).pure = true ∧ Wk id 0 (g x) (f j) := by
    intro j hj
    obtain ⟨l, e1, hl⟩ := hf j hj
    rw [e1]
    exact hg l hl
  let c : Nat → α := fun j => if hj : j < n then Classical.choose (hx j hj) else default
  have hc : ∀ j, j < n → Q (c j) ∧ (g (c j)).pure = true ∧ Wk id 0 (g (c j)) (f j) := by
    intro j hj
    simp only [c, dif_pos hj]
    exact Classical.choose_spec (hx j hj)
  refine ⟨(List.range n).map c, ?_, by simpa using hn, ?_⟩
  · intro x hx
    obtain ⟨j, hj, rfl⟩ := List.mem_map.1 hx
    exact (hc j (List.mem_range.1 hj)).1
  · refine wk_deep (by simp) fun j hj => ?_
    have hj' : j < n := by simpa using hj
    have e1 : ((List.range n).map c)[j]?.getD default = c j := by simp [hj']
    rw [e1]
    exact ⟨(hc j hj').2.1, (hc j hj').2.2⟩
/-- A number. -/
theorem fit_int {k : IntKind} {a : AV} (h : FitC (.int k) a) : ∃ n, a = .int k n ∧ (Lit.int k n).wf = true := by simpa only [FitC] using h
theorem fit_ints {k : IntKind} {a : AV} (h : FitC (.sl 1 false [.int k]) a) : ∃ l : List Int, (∀ x ∈ l, (Lit.int k x).wf = true) ∧ l.length ≤ maxLen ∧ Wk id 0 (.sl 1 l.length fun j => .int k (l[j]?.getD 0)) a :=
  fit_sl (fun x => .int k x) _ (fun l hl => by
    match l, hl with
    | [b], hl =>
      simp only [FitL] at hl
      obtain ⟨n, rfl, hn⟩ := fit_int hl.1
      exact ⟨n, hn, rfl, rfl⟩) h
end Go.VV
