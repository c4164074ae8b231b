/- Regions: any order. -/
import Derived.Test.YtfgipdfdilafnaaV27
set_option linter.unusedSimpArgs false
set_option linter.unusedVariables false
namespace Go.VV
open Go.RowKit

def reachB (md : Region.Mode) (ops : Array Oper) (i : Nat) : Nat → Nat → Bool
  | 0, _ => false
  | f + 1, d => match ops[d]? with
    | some o => o.after.any fun e => Region.binds md e && (e.on == i || reachB md ops i f e.on)
    | none => false
def closedB (md : Region.Mode) (ops : Array Oper) (listed : Array Bool) : Bool :=
  (List.range ops.size).all fun j => !listed.getD j false || match ops[j]? with
    | some o => o.after.all fun e => !Region.binds md e || listed.getD e.on false
    | none => true
def Closed (md : Region.Mode) (ops : Array Oper) (listed : Array Bool) : Prop :=
  ∀ j oj, ops[j]? = some oj → listed.getD j false = true → ∀ e ∈ oj.after, Region.binds md e = true → listed.getD e.on false = true

section
variable {P : Program} {ops : Array Oper} {Q : Exit → Act → World → Prop} {md : Region.Mode} {ds : List Nat}

theorem closedB_spec {listed : Array Bool} (h : closedB md ops listed = true) : Closed md ops listed := by
  intro j oj hj hl e he hb
  have hlt : j < ops.size := (Array.getElem?_eq_some_iff.1 hj).1
  have h1 := List.all_eq_true.1 h j (List.mem_range.2 hlt)
  simp only [hl, hj, Bool.not_true, Bool.false_or] at h1
  have h2 := Array.all_eq_true_iff_forall_mem.1 h1 e he
  simpa [hb] using h2
theorem Closed.set {listed : Array Bool} {i : Nat} (h : Closed md ops listed) (hi : i ∈ Region.ready md ops listed) : Closed md ops (listed.setIfInBounds i true) := by
  obtain ⟨_, oi, hoi, hall⟩ := mem_ready.1 hi
  intro j oj hj hl e he hb
  by_cases hij : i = j
  · subst hij
    have : oj = oi := Option.some.inj (hj.symm.trans hoi)
    subst this
    exact getD_set_true (hall e he hb)
  · rw [getD_set_ne false hij] at hl
    exact getD_set_true (h j oj hj hl e he hb)
theorem reach_listed {listed : Array Bool} {i : Nat} (hc : Closed md ops listed) : ∀ (fuel d : Nat), reachB md ops i fuel d = true → listed.getD d false = true → listed.getD i false = true
  | 0, _, h, _ => by simp [reachB] at h
  | fuel + 1, d, h, hl => by
    unfold reachB at h
    cases ho : ops[d]? with
    | none => rw [ho] at h; simp at h
    | some o =>
      rw [ho] at h
      obtain ⟨e, he, h1⟩ := Array.any_eq_true'.1 h
      simp only [Bool.and_eq_true, Bool.or_eq_true, beq_iff_eq] at h1
      have hle := hc d o ho hl e he h1.1
      rcases h1.2 with h2 | h2
      · rw [← h2]; exact hle
      · exact reach_listed hc fuel e.on h2 hle
theorem unlisted_both {listed : Array Bool} {i : Nat} (h1 : listed.getD i true = false) (h2 : listed.getD i false = true) : False := by
  rcases Nat.lt_or_ge i listed.size with h' | h'
  · simp [h'] at h1 h2; rw [h1] at h2; cases h2
  · simp [Array.getElem?_eq_none h'] at h2
theorem reach_not_ready {listed : Array Bool} {i d fuel : Nat} (hc : Closed md ops listed) (hr : reachB md ops i fuel d = true) (hun : listed.getD i true = false) : d ∉ Region.ready md ops listed := by
  intro hd
  obtain ⟨_, o, ho, hall⟩ := mem_ready.1 hd
  refine unlisted_both hun ?_
  cases fuel with
  | zero => simp [reachB] at hr
  | succ n =>
    unfold reachB at hr
    rw [ho] at hr
    obtain ⟨e, he, h1⟩ := Array.any_eq_true'.1 hr
    simp only [Bool.and_eq_true, Bool.or_eq_true, beq_iff_eq] at h1
    have hle := hall e he h1.1
    rcases h1.2 with h2 | h2
    · rw [← h2]; exact hle
    · exact reach_listed hc n e.on h2 hle

/-- Whatever order is picked from here on; what the pending reads lean on, S, stays or grows, but for the operations of ds. -/
def wpX (P : Program) (md : Region.Mode) (ops : Array Oper) (Q : Exit → Act → World → Prop) (ds : List Nat) : Nat → Array Bool → Act → World → (World → Prop) → Prop
  | 0, listed, a, w, _ => Region.ready md ops listed = [] ∧ Q .normal a w
  | fuel + 1, listed, a, w, S =>
    (Region.ready md ops listed = [] → Q .normal a w) ∧
    ∀ i ∈ Region.ready md ops listed, wpOp P ops Q i (fun a' w' => ∃ S' : World → Prop, (i ∉ ds → ∀ W, S' W → S W) ∧ S' w' ∧ wpX P md ops Q ds fuel (listed.setIfInBounds i true) a' w' S') a w
theorem wpAny_of_X : ∀ (fuel : Nat) (listed : Array Bool) (a : Act) (w : World) (S : World → Prop), wpX P md ops Q ds fuel listed a w S → wpAny P md ops Q fuel listed a w
  | 0, _, _, _, _, h => h
  | fuel + 1, _, _, _, _, h => ⟨h.1, fun i hi => wpOp_mono (fun a' w' ⟨S', _, _, h'⟩ => wpAny_of_X fuel _ a' w' S' h') (h.2 i hi)⟩

theorem YieldsIf.le {S S' : World → Prop} {o : Oper} {v : Value} {a : Act} (h : YieldsIf P ops S o v a) (hle : ∀ W, S' W → S W) : YieldsIf P ops S' o v a :=
  h.imp (fun ⟨h1, h2⟩ => ⟨h1, fun w hw => h2 w (hle w hw)⟩) id

theorem wpX_first {i : Nat} {oi : Oper} {v : Value} (hi : ops[i]? = some oi) (hsel : ∀ (j : Nat) (o : Oper) cs b, ops[j]? = some o → o.op ≠ .select cs b)
    (hQ : ∀ c a w, Q (.panic c) (a.put oi.dst v) w → Q (.panic c) a w) (n : Nat) :
    ∀ (fuel : Nat) (listed : Array Bool) (a : Act) (w : World) (S : World → Prop),
      (∀ j oj, ops[j]? = some oj → j ≠ i → listed.getD j true = false → (∀ e ∈ oj.after, Region.binds md e = true → e.on ≠ i) → oi.apart ops oj = true) →
      Closed md ops listed → (∀ d ∈ ds, listed.getD d true = false → reachB md ops i n d = true) →
      i ∈ Region.ready md ops listed → YieldsIf P ops S oi v a → S w →
      wpX P md ops Q ds fuel (listed.setIfInBounds i true) (a.put oi.dst v) w S → wpX P md ops Q ds (fuel + 1) listed a w S := by
  intro fuel
  induction fuel with
  | zero =>
    intro listed a w S _ _ _ hr hy hS H
    refine ⟨fun h => (by rw [h] at hr; cases hr), fun j hj => ?_⟩
    by_cases hji : j = i
    · subst hji; exact hy.wpOp hi hS ⟨S, fun _ _ h => h, hS, H⟩
    · have := ready_mono hj hji
      rw [H.1] at this
      cases this
  | succ fuel ih =>
    intro listed a w S hfree hc hd hr hy hS H
    refine ⟨fun h => (by rw [h] at hr; cases hr), fun j hj => ?_⟩
    by_cases hji : j = i
    · subst hji; exact hy.wpOp hi hS ⟨S, fun _ _ h => h, hS, H⟩
    · have h1 := H.2 j (ready_mono hj hji)
      obtain ⟨hjun, oj, hoj, hall⟩ := mem_ready.1 hj
      have hiun := (mem_ready.1 hr).1
      have hnot : ∀ e ∈ oj.after, Region.binds md e = true → e.on ≠ i := fun e he hb heq => by
        have h1 := hall e he hb
        rw [heq] at h1
        exact unlisted_both hiun h1
      have hjd : j ∉ ds := fun hm => reach_not_ready hc (hd j hm hjun) hiun hj
      have h2 := wpOp_putIf hoj (hfree j oj hoj hji hjun hnot) (fun cs b => hsel i oi cs b hi) (fun cs b => hsel j oj cs b hoj) hQ hy h1
      have hfree' : ∀ k ok, ops[k]? = some ok → k ≠ i → (listed.setIfInBounds j true).getD k true = false →
          (∀ e ∈ ok.after, Region.binds md e = true → e.on ≠ i) → oi.apart ops ok = true := fun k ok hk hki hun hno => by
        refine hfree k ok hk hki ?_ hno
        by_cases hjk : j = k
        · subst hjk; exact hjun
        · rw [getD_set_ne true hjk] at hun; exact hun
      have hd' : ∀ d ∈ ds, (listed.setIfInBounds j true).getD d true = false → reachB md ops i n d = true := fun d hm hun => by
        refine hd d hm ?_
        by_cases hjk : j = d
        · subst hjk; exact hjun
        · rw [getD_set_ne true hjk] at hun; exact hun
      refine wpOp_mono (fun a' w' ⟨hy', S', hle, hS', h3⟩ => ⟨S', hle, hS', ih (listed.setIfInBounds j true) a' w' S' hfree' (hc.set hj) hd' (ready_mono hr (Ne.symm hji)) (YieldsIf.le hy' (hle hjd)) hS' ?_⟩) h2
      rw [Array.setIfInBounds_comm _ _ hji]
      exact h3

theorem wpX_first2 {i : Nat} {oi : Oper} {v : Value} (hi : ops[i]? = some oi) (hsel : ∀ (j : Nat) (o : Oper) cs b, ops[j]? = some o → o.op ≠ .select cs b)
    (hQ : ∀ c a w, Q (.panic c) (a.put oi.dst v) w → Q (.panic c) a w) :
    ∀ (fuel : Nat) (listed : Array Bool) (a : Act) (w : World) (S : World → Prop),
      (∀ j oj, ops[j]? = some oj → j ≠ i → listed.getD j true = false → (∀ e ∈ oj.after, Region.binds md e = true → e.on ≠ i) → oi.apart ops oj = true) →
      Closed md ops listed →
      i ∈ Region.ready md ops listed → YieldsIf P ops (fun _ => True) oi v a → S w →
      wpX P md ops Q ds fuel (listed.setIfInBounds i true) (a.put oi.dst v) w S → wpX P md ops Q ds (fuel + 1) listed a w S := by
  intro fuel
  induction fuel with
  | zero =>
    intro listed a w S _ _ hr hy hS H
    refine ⟨fun h => (by rw [h] at hr; cases hr), fun j hj => ?_⟩
    by_cases hji : j = i
    · subst hji; exact hy.wpOp hi trivial ⟨S, fun _ _ h => h, hS, H⟩
    · have := ready_mono hj hji
      rw [H.1] at this
      cases this
  | succ fuel ih =>
    intro listed a w S hfree hc hr hy hS H
    refine ⟨fun h => (by rw [h] at hr; cases hr), fun j hj => ?_⟩
    by_cases hji : j = i
    · subst hji; exact hy.wpOp hi trivial ⟨S, fun _ _ h => h, hS, H⟩
    · have h1 := H.2 j (ready_mono hj hji)
      obtain ⟨hjun, oj, hoj, hall⟩ := mem_ready.1 hj
      have hiun := (mem_ready.1 hr).1
      have hnot : ∀ e ∈ oj.after, Region.binds md e = true → e.on ≠ i := fun e he hb heq => by
        have h1 := hall e he hb
        rw [heq] at h1
        exact unlisted_both hiun h1
      have h2 := wpOp_putIf hoj (hfree j oj hoj hji hjun hnot) (fun cs b => hsel i oi cs b hi) (fun cs b => hsel j oj cs b hoj) hQ hy h1
      have hfree' : ∀ k ok, ops[k]? = some ok → k ≠ i → (listed.setIfInBounds j true).getD k true = false →
          (∀ e ∈ ok.after, Region.binds md e = true → e.on ≠ i) → oi.apart ops ok = true := fun k ok hk hki hun hno => by
        refine hfree k ok hk hki ?_ hno
        by_cases hjk : j = k
        · subst hjk; exact hjun
        · rw [getD_set_ne true hjk] at hun; exact hun
      refine wpOp_mono (fun a' w' ⟨hy', S', hle, hS', h3⟩ => ⟨S', hle, hS', ih (listed.setIfInBounds j true) a' w' S' hfree' (hc.set hj) (ready_mono hr (Ne.symm hji)) hy' hS' ?_⟩) h2
      rw [Array.setIfInBounds_comm _ _ hji]
      exact h3

theorem wpX_done {listed : Array Bool} {a : Act} {w : World} (hr : Region.ready md ops listed = []) (h : Q .normal a w) : ∀ fuel S, wpX P md ops Q ds fuel listed a w S
  | 0, _ => ⟨hr, h⟩
  | _ + 1, _ => ⟨fun _ => h, by rw [hr]; simp⟩
end

/-- An order of work: what is taken first, what must come up, or what may; lz: what may come at any time. -/
inductive Sch where
  | done
  | take (i : Nat) (r : Sch)
  | one (i : Nat) (r : Sch)
  | two (i : Nat) (r : Sch) (j : Nat) (r' : Sch)
  | three (i : Nat) (r : Sch) (j : Nat) (r' : Sch) (k : Nat) (r'' : Sch)
  | lz (i : Nat) (r : Sch)
def Sch.lzs : Sch → List Nat
  | .done => []
  | .take _ r => r.lzs
  | .one _ r => r.lzs
  | .two _ r _ _ => r.lzs
  | .three _ r _ _ _ _ => r.lzs
  | .lz i r => i :: r.lzs
def movB (ops : Array Oper) (i : Nat) : Bool := match ops[i]? with
  | some o => heapless o.op
  | none => false
def setAll (l : Array Bool) : List Nat → Array Bool
  | [] => l
  | i :: t => setAll (l.setIfInBounds i true) t
def actsB (md : Region.Mode) (ops : Array Oper) (l : Array Bool) (zs all : List Nat) : List Nat := (Region.ready md ops (setAll l zs)).filter fun j => !all.contains j
def schOk (md : Region.Mode) (ops : Array Oper) (ds : List Nat) : Nat → Array Bool → Sch → Bool
  | _, l, .done => (Region.ready md ops l).isEmpty
  | f + 1, l, .take i r => Region.free md ops l i && (Region.ready md ops l).contains i && closedB md ops l && ((ds.all fun d => l.getD d true || reachB md ops i ops.size d) || movB ops i) && schOk md ops ds f (l.setIfInBounds i true) r && !r.lzs.contains i
  | f + 1, l, .one i r => actsB md ops l r.lzs r.lzs == [i] && (Region.ready md ops l).contains i && schOk md ops ds f (l.setIfInBounds i true) r && !r.lzs.contains i
  | f + 1, l, .two i r j r' => actsB md ops l r.lzs r.lzs == [i, j] && (Region.ready md ops l).contains i && schOk md ops ds f (l.setIfInBounds i true) r && schOk md ops ds f (l.setIfInBounds j true) r' && !r.lzs.contains i && !r.lzs.contains j && r.lzs.all (fun z => r'.lzs.contains z) && r'.lzs.all fun z => r.lzs.contains z
  | f + 1, l, .three i r j r' k r'' => actsB md ops l r.lzs r.lzs == [i, j, k] && (Region.ready md ops l).contains i && schOk md ops ds f (l.setIfInBounds i true) r && schOk md ops ds f (l.setIfInBounds j true) r' && schOk md ops ds f (l.setIfInBounds k true) r'' && !r.lzs.contains i && !r.lzs.contains j && !r.lzs.contains k && r.lzs.all (fun z => r'.lzs.contains z) && (r'.lzs.all fun z => r.lzs.contains z) && r.lzs.all (fun z => r''.lzs.contains z) && r''.lzs.all fun z => r.lzs.contains z
  | f + 1, l, .lz i r => (actsB md ops l r.lzs (i :: r.lzs)).isEmpty && (Region.ready md ops l).contains i && schOk md ops ds f (l.setIfInBounds i true) r && !r.lzs.contains i
  | 0, _, _ => false
def lzB (md : Region.Mode) (ops : Array Oper) (ios : List Iop) (i : Nat) : Bool := match ios[i]?, ops[i]? with
  | some io, some o => lzI io && o.after.all (fun e => !Region.binds md e) && (List.range ops.size).all fun j => j == i || (ops[j]?).bind (·.dst) != io.d
  | _, _ => false
inductive T where
  | done
  | take (io : Iop) (r : T)
  | act (ex : Bool) (io : Iop) (r : T)
  | two (ex : Bool) (io : Iop) (r : T) (ex' : Bool) (io' : Iop) (r' : T)
  | three (ex : Bool) (io : Iop) (r : T) (ex' : Bool) (io' : Iop) (r' : T) (ex'' : Bool) (io'' : Iop) (r'' : T)
  | fg (ds : List Nat) (r : T)
  | lz (io : Iop) (r : T)
def lzd (ios : List Iop) (zs : List Nat) : List Nat := zs.filterMap fun i => (ios[i]?).bind (·.d)
def T.wrap (ds : List Nat) (t : T) : T := match ds with
  | [] => t
  | d :: r => .fg (d :: r) t
def lay (ios : List Iop) (ds : List Nat) : Sch → Option T
  | .done => some .done
  | .take i r => match ios[i]?, lay ios ds r with
    | some io, some t => if io.q then some (.wrap (lzd ios r.lzs) (.take io t)) else none
    | _, _ => none
  | .one i r => match ios[i]?, lay ios ds r with
    | some io, some t => some (.wrap (lzd ios r.lzs) (.act (decide (i ∈ ds)) io t))
    | _, _ => none
  | .two i r j r' => match ios[i]?, lay ios ds r, ios[j]?, lay ios ds r' with
    | some io, some t, some io', some t' => some (.wrap (lzd ios r.lzs) (.two (decide (i ∈ ds)) io t (decide (j ∈ ds)) io' t'))
    | _, _, _, _ => none
  | .three i r j r' k r'' => match ios[i]?, lay ios ds r, ios[j]?, lay ios ds r', ios[k]?, lay ios ds r'' with
    | some io, some t, some io', some t', some io'', some t'' => some (.wrap (lzd ios r.lzs) (.three (decide (i ∈ ds)) io t (decide (j ∈ ds)) io' t' (decide (k ∈ ds)) io'' t''))
    | _, _, _, _, _, _ => none
  | .lz i r => match ios[i]?, lay ios ds r with
    | some io, some t => some (.wrap (lzd ios (i :: r.lzs)) (.lz io t))
    | _, _ => none
def Env.less (E : Env) (ub : List Nat) : Env := { E with boxes := dropks ub E.boxes }
def vcA (P : Program) (mt : Mt) (ub : Option (List Nat)) (E : Env) (io : Iop) (K : Env → Prop) : Prop :=
  match io.q with
  | true => vcQ E E io K
  | false => vcAct P mt ub E io K
def vcT (P : Program) (mt : Mt) (ub : List Nat) (Q : Env → Prop) : T → Env → Prop
  | .done, E => Q E
  | .take io r, E => (ub.all fun b => (E.boxes.lookup b).isSome) = true ∧ vcQ (E.less ub) E io (vcT P mt ub Q r)
  | .act ex io r, E => vcA P mt (if ex then none else some ub) E io (vcT P mt ub Q r)
  | .two ex io r ex' io' r', E => vcA P mt (if ex then none else some ub) E io (vcT P mt ub Q r) ∧ vcA P mt (if ex' then none else some ub) E io' (vcT P mt ub Q r')
  | .three ex io r ex' io' r' ex'' io'' r'', E => vcA P mt (if ex then none else some ub) E io (vcT P mt ub Q r) ∧ vcA P mt (if ex' then none else some ub) E io' (vcT P mt ub Q r') ∧ vcA P mt (if ex'' then none else some ub) E io'' (vcT P mt ub Q r'')
  | .fg ds r, E => vcT P mt ub Q r (E.forget ds)
  | .lz io r, E => (ub.all fun b => (E.boxes.lookup b).isSome) = true ∧ vcE P mt E (fun E' av => vcT P mt ub Q r (E'.set io.d av)) io.i

section
variable {P : Program} {G : Gl} {E : Env} {X : RX} {a : Act} {o : Oper} {mt : Mt} {ops : Array Oper} {ub ds : List Nat}

theorem Sat.less (h : Sat G E X a) (ub : List Nat) : Sat G (E.less ub) X a := by
  have hb : ∀ b B, (dropks ub E.boxes).lookup b = some B → E.boxes.lookup b = some B := by
    intro b B hb
    rw [lookup_dropks] at hb
    split at hb
    · cases hb
    · exact hb
  exact ⟨h.n, ⟨h.inv.fr, h.inv.Flt, h.inv.Fold, h.inv.Fnew, fun b B hb' => h.inv.box b B (hb b B hb'), h.inv.row, fun b b' B B' h1 h2 => h.inv.bb b b' B B' (hb b B h1) (hb b' B' h2), h.inv.rr, fun b i B R h1 h2 => h.inv.br b i B R (hb b B h1) h2⟩, h.tm, h.df, h.kp⟩

/-- What the reads lean on. -/
def Sx (ub : List Nat) (X : RX) (W : World) : Prop := X.w.heap.size ≤ W.heap.size ∧ ∀ k, k < X.w.heap.size → (¬ ∃ b ∈ ub, X.β b = k) → W.heap[k]? = X.w.heap[k]?
theorem Sx.self (ub : List Nat) (X : RX) : Sx ub X X.w := ⟨Nat.le_refl _, fun _ _ _ => rfl⟩
theorem Sx.same (h : Sat G E X a) (hub : ∀ b ∈ ub, ∃ B, E.boxes.lookup b = some B) {W : World} (hS : Sx ub X W) : Same (E.less ub) X W := by
  intro k hk
  refine hS.2 k ?_ ?_
  · rcases hk with hk | ⟨b, B, hb, rfl⟩ | ⟨i, R, hi, hg⟩
    · exact h.inv.Flt k hk
    · exact box_lt (h.less ub).inv hb
    · exact row_lt h.inv hi hg
  · rintro ⟨b, hb, e⟩
    obtain ⟨B, hB⟩ := hub b hb
    rcases hk with hk | ⟨b', B', hb', e'⟩ | ⟨i, R, hi, hg⟩
    · exact (h.inv.box b B hB).nf (by rw [e]; exact hk)
    · simp only [Env.less] at hb'
      rw [lookup_dropks] at hb'
      split at hb'
      · cases hb'
      · rename_i hn
        refine h.inv.bb b b' B B' hB hb' (fun e2 => hn (e2 ▸ hb)) (e.trans e'.symm)
    · exact h.inv.br b i B R hB hi (e ▸ hg)
theorem Sx.step (h : Sat G E X a) (hub : ∀ b ∈ ub, ∃ B, E.boxes.lookup b = some B) {M : Nat → Prop} {X' : RX} (hc : Ch M X X') (hM : ∀ k, M k → ∃ b ∈ ub, X.β b = k) {W : World} (hS : Sx ub X' W) : Sx ub X W := by
  have hMs : ¬ M X.w.heap.size := by
    intro hm
    obtain ⟨b, hb, e⟩ := hM _ hm
    obtain ⟨B, hB⟩ := hub b hb
    have := box_lt h.inv hB
    omega
  refine ⟨Nat.le_trans hc.1 hS.1, fun k hk hn => ?_⟩
  rw [← hc.2.1 k hk (fun hm => hn (hM k hm))]
  refine hS.2 k (Nat.lt_of_lt_of_le hk hc.1) ?_
  rintro ⟨b, hb, e⟩
  obtain ⟨B, hB⟩ := hub b hb
  refine hn ⟨b, hb, ?_⟩
  rw [← e, hc.2.2 hMs b (h.inv.box b B hB).lt]

theorem wpX_mono {md : Region.Mode} {Q : Exit → Act → World → Prop} {S S2 : World → Prop} (h : ∀ W, S2 W → S W) : ∀ {fuel : Nat} {l : Array Bool} {a : Act} {w : World}, wpX P md ops Q ds fuel l a w S2 → wpX P md ops Q ds fuel l a w S
  | 0, _, _, _, hx => hx
  | _ + 1, _, _, _, hx => ⟨hx.1, fun i hi => wpOp_mono (fun a' w' ⟨S', h1, h2, h3⟩ => ⟨S', fun hn W hW => h W (h1 hn W hW), h2, h3⟩) (hx.2 i hi)⟩

/-! ### what is listed, and what is listed though nobody has named it -/
structure Rel (lA lS : Array Bool) (D : List Nat) : Prop where
  size : lA.size = lS.size
  get : ∀ k b, lA.getD k b = if k ∈ D ∧ k < lS.size then true else lS.getD k b
theorem Rel.refl (l : Array Bool) : Rel l l [] := ⟨rfl, fun k b => by simp⟩
theorem getD_set (l : Array Bool) (i k : Nat) (b : Bool) : (l.setIfInBounds i true).getD k b = if k = i ∧ k < l.size then true else l.getD k b := by
  by_cases h : i = k
  · subst h
    by_cases h2 : i < l.size
    · simp [h2]
    · simp [h2]
  · rw [getD_set_ne b h, if_neg (fun e => h e.1.symm)]
theorem setAll_size : ∀ (is : List Nat) (l : Array Bool), (setAll l is).size = l.size
  | [], _ => rfl
  | i :: t, l => by simp only [setAll]; rw [setAll_size t]; simp
theorem setAll_get : ∀ (is : List Nat) (l : Array Bool) (k : Nat) (b : Bool), (setAll l is).getD k b = if k ∈ is ∧ k < l.size then true else l.getD k b
  | [], l, k, b => by simp [setAll]
  | i :: t, l, k, b => by
    simp only [setAll]
    rw [setAll_get t, getD_set, Array.size_setIfInBounds]
    by_cases h3 : k = i
    · subst h3; by_cases h1 : k ∈ t <;> by_cases h2 : k < l.size <;> simp [h1, h2]
    · by_cases h1 : k ∈ t <;> by_cases h2 : k < l.size <;> simp [h1, h2, h3]
theorem unl_lt {l : Array Bool} {k : Nat} (h : l.getD k true = false) : k < l.size := by
  rcases Nat.lt_or_ge k l.size with h' | h'
  · exact h'
  · simp [Array.getElem?_eq_none h'] at h
theorem Rel.set {lA lS : Array Bool} {D : List Nat} (h : Rel lA lS D) (i : Nat) : Rel (lA.setIfInBounds i true) (lS.setIfInBounds i true) D :=
  ⟨by simp [h.size], fun k b => by
    rw [getD_set, getD_set, h.get, Array.size_setIfInBounds, h.size]
    by_cases h3 : k = i
    · subst h3; by_cases h1 : k ∈ D <;> by_cases h2 : k < lS.size <;> simp [h1, h2]
    · by_cases h1 : k ∈ D <;> by_cases h2 : k < lS.size <;> simp [h1, h2, h3]⟩
theorem Rel.exec {lA lS : Array Bool} {D : List Nat} (h : Rel lA lS D) (i : Nat) : Rel (lA.setIfInBounds i true) lS (i :: D) :=
  ⟨by simp [h.size], fun k b => by
    rw [getD_set, h.get, h.size]
    by_cases h3 : k = i
    · subst h3; by_cases h1 : k ∈ D <;> by_cases h2 : k < lS.size <;> simp [h1, h2]
    · by_cases h1 : k ∈ D <;> by_cases h2 : k < lS.size <;> simp [h1, h2, h3]⟩
theorem Rel.catch {lA lS : Array Bool} {D D' : List Nat} {i : Nat} (h : Rel lA lS D) (hi : i ∈ D) (hD : ∀ k, k ∈ D ↔ k = i ∨ k ∈ D') : Rel lA (lS.setIfInBounds i true) D' :=
  ⟨by simp [h.size], fun k b => by
    rw [h.get, getD_set, Array.size_setIfInBounds]
    simp only [hD]
    by_cases h3 : k = i
    · subst h3; by_cases h1 : k ∈ D' <;> by_cases h2 : k < lS.size <;> simp [h1, h2]
    · by_cases h1 : k ∈ D' <;> by_cases h2 : k < lS.size <;> simp [h1, h2, h3]⟩
theorem Rel.unl {lA lS : Array Bool} {D : List Nat} (h : Rel lA lS D) {j : Nat} (hj : lA.getD j true = false) : lS.getD j true = false ∧ j ∉ D := by
  have hlt : j < lS.size := h.size ▸ unl_lt hj
  rw [h.get] at hj
  by_cases hn : j ∈ D ∧ j < lS.size
  · rw [if_pos hn] at hj; cases hj
  · rw [if_neg hn] at hj; exact ⟨hj, fun hm => hn ⟨hm, hlt⟩⟩
theorem Rel.ready {md : Region.Mode} {lA lS : Array Bool} {D : List Nat} (h : Rel lA lS D) {j : Nat} (hj : j ∈ Region.ready md ops lS) (hD : j ∉ D) : j ∈ Region.ready md ops lA := by
  rw [mem_ready] at *
  obtain ⟨h0, o, ho, hall⟩ := hj
  refine ⟨by rw [h.get, if_neg (fun e => hD e.1)]; exact h0, o, ho, fun e he hb => ?_⟩
  rw [h.get]
  split
  · rfl
  · exact hall e he hb
theorem Rel.ready_up {md : Region.Mode} {lA lS : Array Bool} {D zs : List Nat} (h : Rel lA lS D) {j : Nat} (hj : j ∈ Region.ready md ops lA) (hz : j ∉ zs) (hD : ∀ k ∈ D, k ∈ zs) : j ∈ Region.ready md ops (setAll lS zs) := by
  rw [mem_ready] at *
  obtain ⟨h0, o, ho, hall⟩ := hj
  refine ⟨by rw [setAll_get, if_neg (fun e => hz e.1)]; exact (h.unl h0).1, o, ho, fun e he hb => ?_⟩
  have h2 := hall e he hb
  rw [h.get] at h2
  rw [setAll_get]
  split
  · rfl
  · rename_i hn
    rw [if_neg (fun e' => hn ⟨hD _ e'.1, e'.2⟩)] at h2
    exact h2

/-- A block that came though nobody has named it. -/
def DF (P : Program) (ios : List Iop) (G G2 : Gl) (a : Act) (p : Nat × Nat) : Prop :=
  ∃ io d v ob, ios[p.1]? = some io ∧ io.d = some d ∧ Hid G G2 p.2 ob ∧ (∀ u, a.tmps[d]? = some u → u = v) ∧
    ∀ (mt : Mt) (G : Gl) (E : Env) (X : RX) (a : Act) (K : Env → AV → Prop), Sat G E X a → Free G E X p.2 ob → vcE P mt E K io.i →
      ∃ E' av X', K E' av ∧ X'.w = X.w ∧ (∀ b, b < X.n → X'.β b = X.β b) ∧ Sat G E' X' a ∧ Rep X' av v
theorem Sat.setSame (hs : Sat G E X a) {d : Nat} {av : AV} {v : Value} (hr : Rep X av v) (hv : ∀ u, a.tmps[d]? = some u → u = v) : Sat G (E.set (some d) av) X a := by
  have h := hs.put (some d) hr
  have e : a.put (some d) v = a := by
    have : a.tmps.setIfInBounds d v = a.tmps := by
      apply Array.ext_getElem?
      intro i
      rw [Array.getElem?_setIfInBounds]
      split
      · rename_i hi
        subst hi
        split
        · rename_i hlt
          have h2 : a.tmps[d]? = some a.tmps[d] := Array.getElem?_eq_getElem hlt
          rw [h2, hv _ h2]
        · rename_i hlt
          rw [Array.getElem?_eq_none (by omega)]
      · rfl
    simp only [Act.put, this]
  rwa [e] at h
theorem D_le {md : Region.Mode} : ∀ (s : Sch) (f : Nat) (l : Array Bool) (D : List Nat), schOk md ops ds f l s = true → D.Nodup → (∀ k ∈ D, k ∈ s.lzs) → D.length ≤ f := by
  intro s
  induction s with
  | done =>
    intro f l D _ _ h
    cases D with
    | nil => exact Nat.zero_le _
    | cons k t => exact absurd (h k (by simp)) (by simp [Sch.lzs])
  | take i r ih =>
    intro f l D h hn hD
    cases f with
    | zero => simp [schOk] at h
    | succ f => simp only [schOk, Bool.and_eq_true] at h; exact Nat.le_succ_of_le (ih f _ D h.1.2 hn hD)
  | one i r ih =>
    intro f l D h hn hD
    cases f with
    | zero => simp [schOk] at h
    | succ f => simp only [schOk, Bool.and_eq_true] at h; exact Nat.le_succ_of_le (ih f _ D h.1.2 hn hD)
  | two i r j r' ih _ =>
    intro f l D h hn hD
    cases f with
    | zero => simp [schOk] at h
    | succ f => simp only [schOk, Bool.and_eq_true] at h; exact Nat.le_succ_of_le (ih f _ D h.1.1.1.1.1.2 hn hD)
  | three i r j r' k r'' ih _ _ =>
    intro f l D h hn hD
    cases f with
    | zero => simp [schOk] at h
    | succ f => simp only [schOk, Bool.and_eq_true] at h; exact Nat.le_succ_of_le (ih f _ D h.1.1.1.1.1.1.1.1.1.2 hn hD)
  | lz i r ih =>
    intro f l D h hn hD
    cases f with
    | zero => simp [schOk] at h
    | succ f =>
      simp only [schOk, Bool.and_eq_true] at h
      have := ih f _ (D.erase i) h.1.2 (hn.erase i) (fun k hk => by
        have hk2 := (List.Nodup.mem_erase_iff hn).1 hk
        have := hD k hk2.2
        simp only [Sch.lzs, List.mem_cons] at this
        exact this.resolve_left hk2.1)
      have h2 := List.length_erase_le (a := i) (l := D)
      have h3 := List.le_length_erase (a := i) (l := D)
      omega

/-- Where the work stands. -/
structure St (P : Program) (ios : List Iop) (G G2 : Gl) (E : Env) (X : RX) (a : Act) (lA lS : Array Bool) (zs : List Nat) (D : List (Nat × Nat)) : Prop where
  sub : Sub G G2
  sat : Sat G2 E X a
  rel : Rel lA lS (D.map (·.1))
  nd : (D.map (·.1)).Nodup
  ng : (D.map (·.2)).Nodup
  mem : ∀ p ∈ D, p.1 ∈ zs ∧ lS.getD p.1 true = false ∧ DF P ios G G2 a p

theorem vcT_sound {md : Region.Mode} {Qe : Env → Prop} {Q : Exit → Act → World → Prop} (hQ : ∀ E' X' a', Qe E' → Sat G E' X' a' → Q .normal a' X'.w) (hpan : ∀ c a w, ¬ Q (.panic c) a w) (hsel : Region.noSelect ops = true)
    {ios : List Iop} (hios : compIOs P ops ops.toList = some ios) :
    ∀ (s : Sch) (fS fA : Nat) (lS lA : Array Bool) (D : List (Nat × Nat)) (t : T) (E : Env) (X : RX) (a : Act) (G2 : Gl), schOk md ops ds fS lS s = true → lay ios ds s = some t → (∀ z ∈ s.lzs, lzB md ops ios z = true) → St P ios G G2 E X a lA lS s.lzs D → fS = fA + D.length → vcT P mt ub Qe t E →
      wpX P md ops Q ds fA lA a X.w (Sx ub X) := by
  have hget : ∀ (l : List Oper) (ios : List Iop), compIOs P ops l = some ios → ∀ (i : Nat) (io : Iop), ios[i]? = some io → ∃ o, l[i]? = some o ∧ compIO P ops o = some io := by
    intro l
    induction l with
    | nil => intro ios h i io hi; simp only [compIOs, Option.some.injEq] at h; subst h; simp at hi
    | cons o l ih =>
      intro ios h i io hi
      obtain ⟨io0, r, h1, h2, rfl⟩ := compIOs_cons h
      cases i with
      | zero => simp only [List.getElem?_cons_zero, Option.some.injEq] at hi; subst hi; exact ⟨o, rfl, h1⟩
      | succ i => simp only [List.getElem?_cons_succ] at hi ⊢; exact ih r h2 i io hi
  have hg := fun i io hi => hget ops.toList ios hios i io hi
  -- one operation that must or may come up
  have step : ∀ (G2 : Gl) (i : Nat) (io : Iop) (fuel : Nat) (listed : Array Bool) (E : Env) (X : RX) (a : Act) (r : T), ios[i]? = some io → Sat G2 E X a → vcA P mt (if decide (i ∈ ds) then none else some ub) E io (vcT P mt ub Qe r) →
      (∀ E' X' o v, ops[i]? = some o → Sat G2 E' X' (a.put o.dst v) → vcT P mt ub Qe r E' → wpX P md ops Q ds fuel (listed.setIfInBounds i true) (a.put o.dst v) X'.w (Sx ub X')) →
      wpOp P ops Q i (fun a' w' => ∃ S' : World → Prop, (i ∉ ds → ∀ W, S' W → Sx ub X W) ∧ S' w' ∧ wpX P md ops Q ds fuel (listed.setIfInBounds i true) a' w' S') a X.w := by
    intro G2 i io fuel listed E X a r hi hs hv hnext
    obtain ⟨o, ho, hc⟩ := hg i io hi
    have ho' : ops[i]? = some o := by rw [← Array.getElem?_toList]; exact ho
    unfold wpOp
    rw [ho']
    cases hq : io.q with
    | true =>
      simp only [vcA, hq] at hv
      obtain ⟨v, E', h3, h4, h5⟩ := vcQ_sound hs hs hc hq hv
      rcases h5 with ⟨hw, hrun⟩ | ⟨hw, rfl⟩
      · simp only
        rw [if_pos hw]
        exact .inl (by
          unfold Oper.wp
          rw [hrun X.w (fun _ _ => rfl)]
          exact ⟨Sx ub X, fun _ W hW => hW, Sx.self ub X, hnext E' X o _ ho' h4 h3⟩)
      · simp only
        rw [if_neg (by rw [hw]; simp)]
        exact ⟨Sx ub X, fun _ W hW => hW, Sx.self ub X, hnext E' X o _ ho' h4 h3⟩
    | false =>
    simp only [vcA, hq] at hv
    have := vcAct_sound hs hc hq hv (fun a' w' => ∃ S' : World → Prop, (i ∉ ds → ∀ W, S' W → Sx ub X W) ∧ S' w' ∧ wpX P md ops Q ds fuel (listed.setIfInBounds i true) a' w' S') Q (fun E' X' v h1 h2 h3 => by
      obtain ⟨M, hch, hM⟩ := h3
      refine ⟨Sx ub X', fun hn W hW => ?_, Sx.self ub X', hnext E' X' o _ ho' h2 h1⟩
      rcases hM ub (by simp [hn]) with ⟨hub, hM⟩ | rfl
      · exact Sx.step hs hub hch hM hW
      · exact hW)
    simp only
    by_cases hw : Region.wanted o (yielded ops a.tmps) = true
    · rw [if_pos hw] at this ⊢; exact .inl this
    · rw [if_neg hw] at this ⊢; exact this
  -- what is forgotten
  have unw : ∀ (zs : List Nat) (t : T) (E : Env) (X : RX) (a : Act) (G2 : Gl) (lA lS : Array Bool) (D : List (Nat × Nat)), St P ios G G2 E X a lA lS zs D → vcT P mt ub Qe (.wrap (lzd ios zs) t) E →
      ∃ E1, vcT P mt ub Qe t E1 ∧ St P ios G G2 E1 X a lA lS zs D ∧ ∀ z ∈ zs, ∀ io, ios[z]? = some io → ∀ d, io.d = some d → E1.tm.lookup d = none := by
    intro zs t E X a G2 lA lS D hst hv
    have hin : ∀ z ∈ zs, ∀ io, ios[z]? = some io → ∀ d, io.d = some d → d ∈ lzd ios zs := by
      intro z hz io hio d hd
      exact List.mem_filterMap.2 ⟨z, hz, by rw [hio]; exact hd⟩
    generalize hds : lzd ios zs = dz at hv hin
    cases dz with
    | nil => exact ⟨E, hv, hst, fun z hz io hio d hd => absurd (hin z hz io hio d hd) (by simp)⟩
    | cons d0 r =>
      exact ⟨E.forget (d0 :: r), hv, ⟨hst.sub, hst.sat.forget _, hst.rel, hst.nd, hst.ng, hst.mem⟩, fun z hz io hio d hd => forget_none (hin z hz io hio d hd)⟩
  -- a block that comes early
  have early : ∀ (zs : List Nat) (E : Env) (X : RX) (a : Act) (G2 : Gl) (lA lS : Array Bool) (D : List (Nat × Nat)) (fuel j : Nat), St P ios G G2 E X a lA lS zs D → (∀ z ∈ zs, ∀ io, ios[z]? = some io → ∀ d, io.d = some d → E.tm.lookup d = none) →
      lzB md ops ios j = true → j ∈ zs → lA.getD j true = false →
      (∀ X1 a1 G3 D1, St P ios G G3 E X1 a1 (lA.setIfInBounds j true) lS zs D1 → D1.length = D.length + 1 → D1.map (·.1) = j :: D.map (·.1) → wpX P md ops Q ds fuel (lA.setIfInBounds j true) a1 X1.w (Sx ub X1)) →
      wpOp P ops Q j (fun a' w' => ∃ S' : World → Prop, (j ∉ ds → ∀ W, S' W → Sx ub X W) ∧ S' w' ∧ wpX P md ops Q ds fuel (lA.setIfInBounds j true) a' w' S') a X.w := by
    intro zs E X a G2 lA lS D fuel j hst hE hz hjz hun hnext
    unfold lzB at hz
    cases hio : ios[j]? with
    | none => simp [hio] at hz
    | some io =>
      obtain ⟨o, ho, hc⟩ := hg j io hio
      have ho' : ops[j]? = some o := by rw [← Array.getElem?_toList]; exact ho
      simp only [hio, ho', Bool.and_eq_true] at hz
      have hlz := lzI_spec hc hz.1.1
      obtain ⟨d, vf, ob, hd, hdo, hrun, hnm⟩ := hlz.out
      unfold wpOp
      rw [ho']
      have hw : Region.wanted o (yielded ops a.tmps) = true := by simp [Region.wanted, hlz.g]
      simp only
      rw [if_pos hw]
      refine .inl ?_
      unfold Oper.wp
      rw [hrun a X.w]
      obtain ⟨G3, h1, h2, h3, h4⟩ := lz_exec hst.sub hst.sat (hE j hjz io hio d hd) (vf X.w.heap.size) ob
      refine ⟨Sx ub { X with w := X.w.alloc ob }, fun _ W hW => ?_, Sx.self ub _, ?_⟩
      · refine ⟨Nat.le_trans (by simp) hW.1, fun k hk hn => ?_⟩
        rw [hW.2 k (by show k < (X.w.alloc ob).heap.size; simp; omega) hn]
        exact Below.heap_alloc X.w ob k hk
      · rw [hdo]
        refine hnext { X with w := X.w.alloc ob } _ G3 ((j, X.w.heap.size) :: D) ⟨h1, h2, hst.rel.exec j, ?_, ?_, ?_⟩ rfl rfl
        · simp only [List.map_cons, List.nodup_cons]
          exact ⟨(hst.rel.unl hun).2, hst.nd⟩
        · simp only [List.map_cons, List.nodup_cons]
          refine ⟨fun hm => ?_, hst.ng⟩
          obtain ⟨p, hp, e⟩ := List.mem_map.1 hm
          obtain ⟨_, _, _, ob', _, _, hh, _⟩ := (hst.mem p hp).2.2
          have := (hh.now hst.sat).2.2
          omega
        · intro p hp
          rcases List.mem_cons.1 hp with rfl | hp
          · refine ⟨hjz, (hst.rel.unl hun).1, io, d, vf X.w.heap.size, ob, hio, hd, h4, fun u hu => ?_, fun mt G E X' a K hs hf hv => hnm mt G E X' a _ K hs hf hv⟩
            simp only [Act.put] at hu
            rw [Array.getElem?_setIfInBounds] at hu
            simp only [if_true] at hu
            split at hu
            · cases hu; rfl
            · cases hu
          · obtain ⟨m1, m2, io', d', v', ob', q1, q2, q3, q4, q5⟩ := hst.mem p hp
            refine ⟨m1, m2, io', d', v', ob', q1, q2, h3 _ _ q3, fun u hu => ?_, q5⟩
            have hne : d ≠ d' := by
              intro e
              have hne2 : p.1 ≠ j := fun e2 => (hst.rel.unl hun).2 (e2 ▸ List.mem_map_of_mem hp)
              obtain ⟨o2, ho2, hc2⟩ := hg p.1 io' q1
              have ho2' : ops[p.1]? = some o2 := by rw [← Array.getElem?_toList]; exact ho2
              have h6 := List.all_eq_true.1 hz.2 p.1 (List.mem_range.2 (Array.getElem?_eq_some_iff.1 ho2').1)
              simp only [Bool.or_eq_true, beq_iff_eq, bne_iff_ne] at h6
              have := h6.resolve_left hne2
              rw [ho2'] at this
              simp only [Option.bind_some] at this
              rw [← (compIO_spec hc2).2.1, q2, hd, e] at this
              exact this rfl
            simp only [Act.put] at hu
            rw [Array.getElem?_setIfInBounds_ne hne] at hu
            exact q4 u hu
  -- behind a step of the order
  have next : ∀ (zs zs' : List Nat) (E E' : Env) (X X' : RX) (a : Act) (G2 : Gl) (lA lS : Array Bool) (D : List (Nat × Nat)) (i : Nat) (o : Oper) (v : Value), St P ios G G2 E X a lA lS zs D → (∀ z ∈ zs, lzB md ops ios z = true) → (∀ z, z ∈ zs ↔ z ∈ zs') → i ∉ zs → ops[i]? = some o → Sat G2 E' X' (a.put o.dst v) →
      St P ios G G2 E' X' (a.put o.dst v) (lA.setIfInBounds i true) (lS.setIfInBounds i true) zs' D := by
    intro zs zs' E E' X X' a G2 lA lS D i o v hst hz hzz hi ho hs
    refine ⟨hst.sub, hs, hst.rel.set i, hst.nd, hst.ng, fun p hp => ?_⟩
    obtain ⟨m1, m2, io', d', v', ob', q1, q2, q3, q4, q5⟩ := hst.mem p hp
    have hne : i ≠ p.1 := fun e => hi (e ▸ m1)
    refine ⟨(hzz _).1 m1, by rw [getD_set_ne true hne]; exact m2, io', d', v', ob', q1, q2, q3, fun u hu => q4 u ?_, q5⟩
    cases hod : o.dst with
    | none => rw [hod] at hu; exact hu
    | some d =>
      have hdd : d ≠ d' := by
        intro e
        have h1 := hz p.1 m1
        unfold lzB at h1
        obtain ⟨o2, ho2, _⟩ := hg p.1 io' q1
        have ho2' : ops[p.1]? = some o2 := by rw [← Array.getElem?_toList]; exact ho2
        simp only [q1, ho2', Bool.and_eq_true] at h1
        have h6 := List.all_eq_true.1 h1.2 i (List.mem_range.2 (Array.getElem?_eq_some_iff.1 ho).1)
        simp only [Bool.or_eq_true, beq_iff_eq, bne_iff_ne] at h6
        have := h6.resolve_left hne
        rw [ho] at this
        simp only [Option.bind_some] at this
        rw [hod, q2, e] at this
        exact this rfl
      rw [hod] at hu
      simp only [Act.put] at hu
      rw [Array.getElem?_setIfInBounds_ne hdd] at hu
      exact hu
  have zready : ∀ (z : Nat) (l : Array Bool), lzB md ops ios z = true → l.getD z true = false → z ∈ Region.ready md ops l := by
    intro z l hz hl
    unfold lzB at hz
    cases hio : ios[z]? with
    | none => simp [hio] at hz
    | some io =>
      cases ho : ops[z]? with
      | none => simp [hio, ho] at hz
      | some o =>
        simp only [hio, ho, Bool.and_eq_true] at hz
        refine mem_ready.2 ⟨hl, o, ho, fun e he hb => ?_⟩
        have := Array.all_eq_true_iff_forall_mem.1 hz.1.2 e he
        rw [hb] at this
        simp at this
  intro s
  induction s with
  | done =>
    intro fS fA lS lA D t E X a G2 hok hl hz hst hf hv
    simp only [lay, Option.some.injEq] at hl
    subst hl
    have hD : D = [] := by
      cases D with
      | nil => rfl
      | cons p r => exact absurd (hst.mem p (by simp)).1 (by simp [Sch.lzs])
    subst hD
    have hr : Region.ready md ops lS = [] := by
      cases fS <;> simpa [schOk] using hok
    have hrA : Region.ready md ops lA = [] := by
      apply List.eq_nil_iff_forall_not_mem.2
      intro j hj
      have := hst.rel.ready_up (zs := []) hj (by simp) (by simp)
      simp only [setAll] at this
      rw [hr] at this
      simp at this
    exact wpX_done hrA (hQ E X a hv (hst.sub.back hst.sat)) fA _
  | take i r ih =>
    intro fS fA lS lA D t E X a G2 hok hl hz hst hf hv
    cases fS with
    | zero => simp [schOk] at hok
    | succ fS =>
      simp only [schOk, Bool.and_eq_true] at hok
      obtain ⟨⟨⟨⟨⟨h1, h2⟩, h3⟩, h4⟩, h5⟩, h6⟩ := hok
      have hir : i ∉ r.lzs := by simpa using h6
      have hle := D_le r fS _ (D.map (·.1)) h5 hst.nd (fun k hk => by obtain ⟨p, hp, rfl⟩ := List.mem_map.1 hk; exact (hst.mem p hp).1)
      rw [List.length_map] at hle
      obtain ⟨fA, rfl⟩ : ∃ n, fA = n + 1 := ⟨fA - 1, by omega⟩
      simp only [lay] at hl
      cases hi : ios[i]? with
      | none => simp [hi] at hl
      | some io =>
        cases hr : lay ios ds r with
        | none => simp [hi, hr] at hl
        | some t' =>
          simp only [hi, hr] at hl
          split at hl
          · rename_i hq
            simp only [Option.some.injEq] at hl
            subst hl
            obtain ⟨E, hv, hst, hE⟩ := unw r.lzs _ E X a G2 lA lS D hst hv
            obtain ⟨o, ho, hc⟩ := hg i io hi
            have ho' : ops[i]? = some o := by rw [← Array.getElem?_toList]; exact ho
            simp only [vcT] at hv
            have hs := hst.sat
            have hub : ∀ b ∈ ub, ∃ B, E.boxes.lookup b = some B := fun b hb => Option.isSome_iff_exists.1 (List.all_eq_true.1 hv.1 b hb)
            have hiS : i ∈ Region.ready md ops lS := by simpa using h2
            have hiD : i ∉ D.map (·.1) := fun hm => by obtain ⟨p, hp, e⟩ := List.mem_map.1 hm; exact hir (e ▸ (hst.mem p hp).1)
            have hiA := hst.rel.ready hiS hiD
            have hcl : Closed md ops lA := by
              intro j oj hj hlj e he hb
              rw [hst.rel.get] at hlj ⊢
              split
              · rfl
              · split at hlj
                · rename_i hm
                  obtain ⟨p, hp, e'⟩ := List.mem_map.1 hm.1
                  have := zready j lS (by rw [← e']; exact hz _ (hst.mem p hp).1) (by rw [← e']; exact (hst.mem p hp).2.1)
                  obtain ⟨_, o2, ho2, hall⟩ := mem_ready.1 this
                  rw [hj] at ho2
                  cases ho2
                  exact hall e he hb
                · exact closedB_spec h3 j oj hj hlj e he hb
            have hfree := fun (j : Nat) (oj : Oper) (hj : ops[j]? = some oj) (hne : j ≠ i) (hun : lA.getD j true = false) (hno : ∀ e ∈ oj.after, Region.binds md e = true → e.on ≠ i) => Region.free_spec ho' h1 j oj hj hne (hst.rel.unl hun).1 hno
            have hnx : ∀ E' v, Sat G2 E' X (a.put o.dst v) → vcT P mt ub Qe t' E' → wpX P md ops Q ds fA (lA.setIfInBounds i true) (a.put o.dst v) X.w (Sx ub X) := fun E' v h7 h8 =>
              ih fS fA _ _ D t' E' X _ G2 h5 hr hz (next r.lzs r.lzs E E' X X a G2 lA lS D i o v hst hz (fun _ => Iff.rfl) hir ho' h7) (by omega) h8
            rcases Bool.or_eq_true_iff.1 h4 with h4 | h4
            · obtain ⟨v, E', h6, h7, h8⟩ := vcQ_sound hs (hs.less ub) hc hq hv.2
              refine wpX_first ho' (Region.noSelect_spec hsel) (fun c a w h => (hpan _ _ _ h).elim) ops.size fA lA a X.w (Sx ub X) hfree hcl (fun d hd hun => ?_) hiA ?_ (Sx.self ub X) (hnx E' v h7 h6)
              · have := List.all_eq_true.1 h4 d hd
                rw [(hst.rel.unl hun).1] at this
                simpa using this
              · rcases h8 with ⟨hw, hrun⟩ | ⟨hw, rfl⟩
                · exact .inl ⟨hw, fun W hW => hrun W (Sx.same hs hub hW)⟩
                · exact .inr ⟨hw, rfl⟩
            · have hn : heapless o.op = true := by simpa [movB, ho'] using h4
              obtain ⟨v, E', h6, h7, h8⟩ := vcQ_sound0 hn hs (hs.less ub) hc hq hv.2
              refine wpX_first2 ho' (Region.noSelect_spec hsel) (fun c a w h => (hpan _ _ _ h).elim) fA lA a X.w (Sx ub X) hfree hcl hiA ?_ (Sx.self ub X) (hnx E' v h7 h6)
              rcases h8 with ⟨hw, hrun⟩ | ⟨hw, rfl⟩
              · exact .inl ⟨hw, fun W _ => hrun W⟩
              · exact .inr ⟨hw, rfl⟩
          · cases hl
  | one i r ih =>
    intro fS fA lS lA D t E X a G2 hok hl hz hst hf hv
    cases fS with
    | zero => simp [schOk] at hok
    | succ fS =>
      simp only [schOk, Bool.and_eq_true, beq_iff_eq] at hok
      obtain ⟨⟨⟨h1, h2⟩, h3⟩, h4⟩ := hok
      have hir : i ∉ r.lzs := by simpa using h4
      simp only [lay] at hl
      cases hi : ios[i]? with
      | none => simp [hi] at hl
      | some io =>
        cases hr : lay ios ds r with
        | none => simp [hi, hr] at hl
        | some t' =>
          simp only [hi, hr, Option.some.injEq] at hl
          subst hl
          obtain ⟨E1, hv1, hst1, hE1⟩ := unw r.lzs _ E X a G2 lA lS D hst hv
          clear hv hst
          revert E1; intro E hv hst hE
          simp only [vcT] at hv
          have hiS : i ∈ Region.ready md ops lS := by simpa using h2
          induction fA generalizing lA D X a G2 with
          | zero =>
            have hle := D_le r fS _ (D.map (·.1)) h3 hst.nd (fun k hk => by obtain ⟨p, hp, rfl⟩ := List.mem_map.1 hk; exact (hst.mem p hp).1)
            rw [List.length_map] at hle
            omega
          | succ fA ihf =>
            have hiD : i ∉ D.map (·.1) := fun hm => by obtain ⟨p, hp, e⟩ := List.mem_map.1 hm; exact hir (e ▸ (hst.mem p hp).1)
            have hiA := hst.rel.ready hiS hiD
            refine ⟨fun h => (by rw [h] at hiA; cases hiA), fun j hj => ?_⟩
            by_cases hjz : j ∈ r.lzs
            · exact early r.lzs E X a G2 lA lS D fA j hst hE (hz j hjz) hjz (mem_ready.1 hj).1 (fun X1 a1 G3 D1 h5 h6 h7 => ihf _ D1 X1 a1 G3 (by omega) h5)
            · have := hst.rel.ready_up (zs := r.lzs) hj hjz (fun k hk => by obtain ⟨p, hp, rfl⟩ := List.mem_map.1 hk; exact (hst.mem p hp).1)
              have h5 : j ∈ actsB md ops lS r.lzs r.lzs := List.mem_filter.2 ⟨this, by simpa using hjz⟩
              rw [h1, List.mem_singleton] at h5
              subst h5
              exact step G2 j io fA lA E X a t' hi hst.sat hv (fun E' X' o v ho h6 h7 => ih fS fA _ _ D t' E' X' _ G2 h3 hr hz (next r.lzs r.lzs E E' X X' a G2 lA lS D j o v hst hz (fun _ => Iff.rfl) hir ho h6) (by omega) h7)
  | two i r j r' ih ih' =>
    intro fS fA lS lA D t E X a G2 hok hl hz hst hf hv
    cases fS with
    | zero => simp [schOk] at hok
    | succ fS =>
      simp only [schOk, Bool.and_eq_true, beq_iff_eq] at hok
      obtain ⟨⟨⟨⟨⟨⟨⟨h1, h2⟩, h3⟩, h3'⟩, h4⟩, h4'⟩, h5⟩, h5'⟩ := hok
      have hir : i ∉ r.lzs := by simpa using h4
      have hjr : j ∉ r.lzs := by simpa using h4'
      have hzz : ∀ z, z ∈ r.lzs ↔ z ∈ r'.lzs := fun z => ⟨fun hz => by simpa using List.all_eq_true.1 h5 z hz, fun hz => by simpa using List.all_eq_true.1 h5' z hz⟩
      simp only [lay] at hl
      cases hi : ios[i]? with
      | none => simp [hi] at hl
      | some io =>
        cases hr : lay ios ds r with
        | none => simp [hi, hr] at hl
        | some t1 =>
          cases hi' : ios[j]? with
          | none => simp [hi, hr, hi'] at hl
          | some io' =>
            cases hr' : lay ios ds r' with
            | none => simp [hi, hr, hi', hr'] at hl
            | some t2 =>
              simp only [hi, hr, hi', hr', Option.some.injEq] at hl
              subst hl
              obtain ⟨E1, hv1, hst1, hE1⟩ := unw r.lzs _ E X a G2 lA lS D hst hv
              clear hv hst
              revert E1; intro E hv hst hE
              simp only [vcT] at hv
              have hiS : i ∈ Region.ready md ops lS := by simpa using h2
              induction fA generalizing lA D X a G2 with
              | zero =>
                have hle := D_le r fS _ (D.map (·.1)) h3 hst.nd (fun k hk => by obtain ⟨p, hp, rfl⟩ := List.mem_map.1 hk; exact (hst.mem p hp).1)
                rw [List.length_map] at hle
                omega
              | succ fA ihf =>
                have hiD : i ∉ D.map (·.1) := fun hm => by obtain ⟨p, hp, e⟩ := List.mem_map.1 hm; exact hir (e ▸ (hst.mem p hp).1)
                have hiA := hst.rel.ready hiS hiD
                refine ⟨fun h => (by rw [h] at hiA; cases hiA), fun k hk => ?_⟩
                by_cases hkz : k ∈ r.lzs
                · exact early r.lzs E X a G2 lA lS D fA k hst hE (hz k hkz) hkz (mem_ready.1 hk).1 (fun X1 a1 G3 D1 h5 h6 h7 => ihf _ D1 X1 a1 G3 (by omega) h5)
                · have := hst.rel.ready_up (zs := r.lzs) hk hkz (fun k hk => by obtain ⟨p, hp, rfl⟩ := List.mem_map.1 hk; exact (hst.mem p hp).1)
                  have h6 : k ∈ actsB md ops lS r.lzs r.lzs := List.mem_filter.2 ⟨this, by simpa using hkz⟩
                  rw [h1] at h6
                  simp only [List.mem_cons, List.not_mem_nil, or_false] at h6
                  rcases h6 with rfl | rfl
                  · exact step G2 k io fA lA E X a t1 hi hst.sat hv.1 (fun E' X' o v ho h6 h7 => ih fS fA _ _ D t1 E' X' _ G2 h3 hr hz (next r.lzs r.lzs E E' X X' a G2 lA lS D k o v hst hz (fun _ => Iff.rfl) hir ho h6) (by omega) h7)
                  · exact step G2 k io' fA lA E X a t2 hi' hst.sat hv.2 (fun E' X' o v ho h6 h7 => ih' fS fA _ _ D t2 E' X' _ G2 h3' hr' (fun z hz' => hz z ((hzz z).2 hz')) (next r.lzs r'.lzs E E' X X' a G2 lA lS D k o v hst hz hzz hjr ho h6) (by omega) h7)
  | three i r j r' q r'' ih ih' ih'' =>
    intro fS fA lS lA D t E X a G2 hok hl hz hst hf hv
    cases fS with
    | zero => simp [schOk] at hok
    | succ fS =>
      simp only [schOk, Bool.and_eq_true, beq_iff_eq] at hok
      obtain ⟨⟨⟨⟨⟨⟨⟨⟨⟨⟨⟨h1, h2⟩, h3⟩, h3'⟩, h3''⟩, h4⟩, h4'⟩, h4''⟩, h5⟩, h5'⟩, h6⟩, h6'⟩ := hok
      have hir : i ∉ r.lzs := by simpa using h4
      have hjr : j ∉ r.lzs := by simpa using h4'
      have hqr : q ∉ r.lzs := by simpa using h4''
      have hzq : ∀ z, z ∈ r.lzs ↔ z ∈ r''.lzs := fun z => ⟨fun hz => by simpa using List.all_eq_true.1 h6 z hz, fun hz => by simpa using List.all_eq_true.1 h6' z hz⟩
      have hzz : ∀ z, z ∈ r.lzs ↔ z ∈ r'.lzs := fun z => ⟨fun hz => by simpa using List.all_eq_true.1 h5 z hz, fun hz => by simpa using List.all_eq_true.1 h5' z hz⟩
      simp only [lay] at hl
      cases hi : ios[i]? with
      | none => simp [hi] at hl
      | some io =>
        cases hr : lay ios ds r with
        | none => simp [hi, hr] at hl
        | some t1 =>
          cases hi' : ios[j]? with
          | none => simp [hi, hr, hi'] at hl
          | some io' =>
            cases hr' : lay ios ds r' with
            | none => simp [hi, hr, hi', hr'] at hl
            | some t2 =>
             cases hi'' : ios[q]? with
             | none => simp [hi, hr, hi', hr', hi''] at hl
             | some io'' =>
             cases hr'' : lay ios ds r'' with
             | none => simp [hi, hr, hi', hr', hi'', hr''] at hl
             | some t3 =>
              simp only [hi, hr, hi', hr', hi'', hr'', Option.some.injEq] at hl
              subst hl
              obtain ⟨E1, hv1, hst1, hE1⟩ := unw r.lzs _ E X a G2 lA lS D hst hv
              clear hv hst
              revert E1; intro E hv hst hE
              simp only [vcT] at hv
              have hiS : i ∈ Region.ready md ops lS := by simpa using h2
              induction fA generalizing lA D X a G2 with
              | zero =>
                have hle := D_le r fS _ (D.map (·.1)) h3 hst.nd (fun k hk => by obtain ⟨p, hp, rfl⟩ := List.mem_map.1 hk; exact (hst.mem p hp).1)
                rw [List.length_map] at hle
                omega
              | succ fA ihf =>
                have hiD : i ∉ D.map (·.1) := fun hm => by obtain ⟨p, hp, e⟩ := List.mem_map.1 hm; exact hir (e ▸ (hst.mem p hp).1)
                have hiA := hst.rel.ready hiS hiD
                refine ⟨fun h => (by rw [h] at hiA; cases hiA), fun k hk => ?_⟩
                by_cases hkz : k ∈ r.lzs
                · exact early r.lzs E X a G2 lA lS D fA k hst hE (hz k hkz) hkz (mem_ready.1 hk).1 (fun X1 a1 G3 D1 h5 h6 h7 => ihf _ D1 X1 a1 G3 (by omega) h5)
                · have := hst.rel.ready_up (zs := r.lzs) hk hkz (fun k hk => by obtain ⟨p, hp, rfl⟩ := List.mem_map.1 hk; exact (hst.mem p hp).1)
                  have h6 : k ∈ actsB md ops lS r.lzs r.lzs := List.mem_filter.2 ⟨this, by simpa using hkz⟩
                  rw [h1] at h6
                  simp only [List.mem_cons, List.not_mem_nil, or_false] at h6
                  rcases h6 with rfl | rfl | rfl
                  · exact step G2 k io fA lA E X a t1 hi hst.sat hv.1 (fun E' X' o v ho h6 h7 => ih fS fA _ _ D t1 E' X' _ G2 h3 hr hz (next r.lzs r.lzs E E' X X' a G2 lA lS D k o v hst hz (fun _ => Iff.rfl) hir ho h6) (by omega) h7)
                  · exact step G2 k io' fA lA E X a t2 hi' hst.sat hv.2.1 (fun E' X' o v ho h6 h7 => ih' fS fA _ _ D t2 E' X' _ G2 h3' hr' (fun z hz' => hz z ((hzz z).2 hz')) (next r.lzs r'.lzs E E' X X' a G2 lA lS D k o v hst hz hzz hjr ho h6) (by omega) h7)
                  · exact step G2 k io'' fA lA E X a t3 hi'' hst.sat hv.2.2 (fun E' X' o v ho h6 h7 => ih'' fS fA _ _ D t3 E' X' _ G2 h3'' hr'' (fun z hz' => hz z ((hzq z).2 hz')) (next r.lzs r''.lzs E E' X X' a G2 lA lS D k o v hst hz hzq hqr ho h6) (by omega) h7)
  | lz i r ih =>
    intro fS fA lS lA D t E X a G2 hok hl hz hst hf hv
    cases fS with
    | zero => simp [schOk] at hok
    | succ fS =>
      simp only [schOk, Bool.and_eq_true, List.isEmpty_iff] at hok
      obtain ⟨⟨⟨h1, h2⟩, h3⟩, h4⟩ := hok
      have hir : i ∉ r.lzs := by simpa using h4
      simp only [lay] at hl
      cases hi : ios[i]? with
      | none => simp [hi] at hl
      | some io =>
        cases hr : lay ios ds r with
        | none => simp [hi, hr] at hl
        | some t' =>
          simp only [hi, hr, Option.some.injEq] at hl
          subst hl
          simp only [Sch.lzs] at hst hz
          obtain ⟨E1, hv1, hst1, hE1⟩ := unw (i :: r.lzs) _ E X a G2 lA lS D hst hv
          clear hv hst
          revert E1; intro E hv hst hE
          simp only [vcT] at hv
          have hiS : i ∈ Region.ready md ops lS := by simpa using h2
          have hub : ∀ b ∈ ub, ∃ B, E.boxes.lookup b = some B := fun b hb => Option.isSome_iff_exists.1 (List.all_eq_true.1 hv.1 b hb)
          -- it has come: it gets its name
          have named : ∀ (fA : Nat) (lA : Array Bool) (D : List (Nat × Nat)) (X : RX) (a : Act) (G2 : Gl), St P ios G G2 E X a lA lS (i :: r.lzs) D → fS + 1 = fA + D.length → i ∈ D.map (·.1) → wpX P md ops Q ds fA lA a X.w (Sx ub X) := by
            intro fA lA D X a G2 hst hf him
            obtain ⟨p, hp, hpi⟩ := List.mem_map.1 him
            obtain ⟨_, _, io', d, v, ob, q1, q2, q3, q4, q5⟩ := hst.mem p hp
            rw [hpi, hi] at q1
            cases q1
            obtain ⟨G3, w1, w2, w3, w4⟩ := lz_free hst.sub hst.sat q3
            obtain ⟨E', av, X', k1, k2, k3, k4, k5⟩ := q5 mt G3 E X a _ w2 w3 hv.2
            have k6 := k4.setSame (d := d) k5 q4
            have hperm : ∀ k, k ∈ D.map (·.1) ↔ k = i ∨ k ∈ (D.erase p).map (·.1) := by
              intro k
              have hpm : D.Perm (p :: D.erase p) := List.perm_cons_erase hp
              rw [(hpm.map (·.1)).mem_iff, List.map_cons, List.mem_cons, hpi]
            have hnd2 : (p.1 :: (D.erase p).map (·.1)).Nodup := by
              have hpm : (D.map (·.1)).Perm ((p :: D.erase p).map (·.1)) := (List.perm_cons_erase hp).map _
              exact hpm.nodup_iff.1 hst.nd
            have hng2 : (p.2 :: (D.erase p).map (·.2)).Nodup := by
              have hpm : (D.map (·.2)).Perm ((p :: D.erase p).map (·.2)) := (List.perm_cons_erase hp).map _
              exact hpm.nodup_iff.1 hst.ng
            have := ih fS fA (lS.setIfInBounds i true) lA (D.erase p) t' (E'.set io.d av) X' a G3 h3 hr (fun z hz' => hz z (List.mem_cons_of_mem _ hz')) ⟨w1, by rw [q2]; exact k6, hst.rel.catch him hperm, (List.nodup_cons.1 hnd2).2, (List.nodup_cons.1 hng2).2, fun p' hp' => ?_⟩ (by
              have := List.length_erase_of_mem hp
              have : 0 < D.length := List.length_pos_of_mem hp
              omega) k1
            · rw [k2] at this
              refine wpX_mono (fun W hW => ?_) this
              refine ⟨by have := hW.1; rw [k2] at this; exact this, fun k hk hn => ?_⟩
              have := hW.2 k (by rw [k2]; exact hk) (fun ⟨b, hb, e⟩ => hn ⟨b, hb, by
                obtain ⟨B, hB⟩ := hub b hb
                rw [← e, k3 b (hst.sat.inv.box b B hB).lt]⟩)
              rw [k2] at this
              exact this
            · have hp'D := List.mem_of_mem_erase hp'
              obtain ⟨m1, m2, io2, d2, v2, ob2, s1, s2, s3, s4, s5⟩ := hst.mem p' hp'D
              have hne : p'.1 ≠ i := fun e => (List.nodup_cons.1 hnd2).1 (by rw [hpi, ← e]; exact List.mem_map_of_mem hp')
              have hng : p'.2 ≠ p.2 := fun e => (List.nodup_cons.1 hng2).1 (by rw [← e]; exact List.mem_map_of_mem hp')
              refine ⟨(List.mem_cons.1 m1).resolve_left hne, by rw [getD_set_ne true (Ne.symm hne)]; exact m2, io2, d2, v2, ob2, s1, s2, w4 _ _ hng s3, s4, s5⟩
          induction fA generalizing lA D X a G2 with
          | zero =>
            by_cases him : i ∈ D.map (·.1)
            · exact named 0 lA D X a G2 hst hf him
            · have hle := D_le r fS _ (D.map (·.1)) h3 hst.nd (fun k hk => by obtain ⟨p, hp, rfl⟩ := List.mem_map.1 hk; exact (List.mem_cons.1 (hst.mem p hp).1).resolve_left (fun e => him (e ▸ List.mem_map_of_mem hp)))
              rw [List.length_map] at hle
              omega
          | succ fA ihf =>
            by_cases him : i ∈ D.map (·.1)
            · exact named _ lA D X a G2 hst hf him
            · have hiA := hst.rel.ready hiS him
              refine ⟨fun h => (by rw [h] at hiA; cases hiA), fun j hj => ?_⟩
              by_cases hjz : j ∈ i :: r.lzs
              · exact early (i :: r.lzs) E X a G2 lA lS D fA j hst hE (hz j hjz) hjz (mem_ready.1 hj).1 (fun X1 a1 G3 D1 h5 h6 h7 => ihf _ D1 X1 a1 G3 (by omega) h5)
              · have := hst.rel.ready_up (zs := r.lzs) hj (fun h => hjz (List.mem_cons_of_mem _ h)) (fun k hk => by obtain ⟨p, hp, rfl⟩ := List.mem_map.1 hk; exact (List.mem_cons.1 (hst.mem p hp).1).resolve_left (fun e => him (e ▸ List.mem_map_of_mem hp)))
                have h5 : j ∈ actsB md ops lS r.lzs (i :: r.lzs) := List.mem_filter.2 ⟨this, by simpa using hjz⟩
                rw [h1] at h5
                cases h5

end
end Go.VV
