/- Each quiet operation yields what its instruction says. -/
import Derived.Test.YtfgipdfdilafnaaV3
set_option linter.unusedSimpArgs false
set_option linter.unusedVariables false
namespace Go.VV
open Go.RowKit

section
variable {P : Program} {G : Gl} {E : Env} {X : RX} {a : Act} {o : Oper} {p : Prop} {K : AV → Prop}

/-- Blocks that are known by name, or frozen. -/
def Kn (E : Env) (X : RX) (k : Nat) : Prop := X.F k ∨ (∃ b B, E.boxes.lookup b = some B ∧ X.β b = k) ∨ ∃ i R, E.rows.lookup i = some R ∧ (X.κ i).ownBlock = some k
def Same (E : Env) (X : RX) (W : World) : Prop := ∀ k, Kn E X k → W.heap[k]? = X.w.heap[k]?
/-- What a quiet operation is to show: its value hangs on the known blocks alone. -/
def Yields (P : Program) (E : Env) (X : RX) (a : Act) (o : Oper) (p : Prop) (K : AV → Prop) : Prop := ∃ av, K av ∧ (p → ∃ v, (∀ W, Same E X W → (execOp a.eval o).run P W = .ok (.value v) W) ∧ Rep X av v)

theorem yields_no (h : (p → False) ∧ K .top) : Yields P E X a o p K := ⟨.top, h.2, fun hp => (h.1 hp).elim⟩

/-- It reads no heap. -/
def heapless : Op → Bool
  | .move _ | .assign _ | .binOp _ _ _ _ _ => true
  | .extract _ _ | .fieldAddr _ _ _ | .pick _ _ _ | .unOp _ _ _ => true
  | _ => false
/-- Its value hangs on no block. -/
def Yields0 (P : Program) (X : RX) (a : Act) (o : Oper) (p : Prop) (K : AV → Prop) : Prop := ∃ av, K av ∧ (p → ∃ v, (∀ W, (execOp a.eval o).run P W = .ok (.value v) W) ∧ Rep X av v)
theorem Yields0.y (h : Yields0 P X a o p K) : Yields P E X a o p K := let ⟨av, h1, h2⟩ := h; ⟨av, h1, fun hp => let ⟨v, h3, h4⟩ := h2 hp; ⟨v, fun W _ => h3 W, h4⟩⟩
theorem yields0_no (h : (p → False) ∧ K .top) : Yields0 P X a o p K := ⟨.top, h.2, fun hp => (h.1 hp).elim⟩
theorem q_mov {x : Operand} {x' : Opn} (hs : Sat G E X a) (ho : o.op = .move x ∨ o.op = .assign x) (hx : compO x = some x') (h : vq E p K (.mov x')) : Yields0 P X a o p K := by
  obtain ⟨av, hk, hr⟩ := AV.un_of h
  refine ⟨av, hk, fun hp => ⟨a.eval x, ?_, hr X _ (opd_rep hs hx) hp⟩⟩
  intro W
  rcases ho with ho | ho <;> simp [execOp, ho]

theorem sel_rep {b : Bool} {x y : AV} {vx vy : Value} (hx : b = true → Rep X x vx) (hy : b = false → Rep X y vy) : Rep X (AV.sel b x y) (if b then vx else vy) := by
  cases b
  · exact hy rfl
  · exact hx rfl

theorem q_pick {c x y : Operand} {c' x' y' : Opn} (hs : Sat G E X a) (ho : o.op = .pick c x y) (hc : compO c = some c') (hx : compO x = some x') (hy : compO y = some y') (h : vq E p K (.pick c' x' y')) : Yields0 P X a o p K := by
  obtain ⟨cv, h1, hrc⟩ := AV.un_of h
  cases cv
  case bool b =>
    obtain ⟨xv, h2, hrx⟩ := AV.un_of h1
    obtain ⟨yv, h3, hry⟩ := AV.un_of h2
    refine ⟨_, h3, fun hp => ?_⟩
    have e := (hrc X _ (opd_rep hs hc) hp).bool_inv
    refine ⟨_, ?_, sel_rep (fun hb => hrx X _ (opd_rep hs hx) ⟨hp, hb⟩) (fun hb => hry X _ (opd_rep hs hy) ⟨hp, hb⟩)⟩
    intro W
    simp only [execOp, ho, e, asBool, Sem.run_bind, Sem.run_pure, Result.andThen_ok]
  all_goals exact yields0_no h1

theorem q_load {t : TypeId} {x : Operand} {x' : Opn} {i : TypeInfo} {d : TypeDesc} (hs : Sat G E X a) (ho : o.op = .load t x) (hi : P.info? t = some i) (hd : P.underlying t = some d)
    (h1 : Program.isAggT P t = true ∨ i.size = 1) (hx : compO x = some x') (h : vq E p K (.load i.size (Program.isAggT P t) x')) : Yields P E X a o p K := by
  obtain ⟨xv, h2, hr⟩ := AV.un_of h
  have fin : ∀ (ad : Addr) (cs : List AV), K (ofCells (Program.isAggT P t) cs) → (p → a.eval x = .pointer (some ad) ∧ ∃ vals : List Value, vals.length = i.size ∧ (∀ q v, vals[q]? = some v → X.w.cell? (ad.add q) = some v) ∧ RepL X cs vals ∧ cs.length = i.size) → (p → Kn E X ad.block) → Yields P E X a o p K := by
    intro ad cs hk hh hkn
    refine ⟨_, hk, fun hp => ?_⟩
    obtain ⟨e, vals, hl, hcell, hrep, hlen⟩ := hh hp
    have hrun := fun W (hW : Same E X W) => run_loadN hi hd W ad vals hl (fun q v hv => cell_of_heap (by rw [add_block]; exact hW _ (hkn hp)) (hcell q v hv)) h1
    refine ⟨_, ?_, hrep.ofCells' _ (by rcases h1 with h1 | h1; exact .inl h1; exact .inr (hlen.trans h1))⟩
    intro W hW
    simp only [execOp, ho, e, Instr.loadAt, Instr.sureAddr]
    refine run_value ?_
    simpa only [Sem.run_bind, Sem.run_pure, Result.andThen_ok] using hrun W hW
  cases xv
  case ptr b off =>
    simp only at h2
    split at h2
    · rename_i B hB
      refine fin ⟨X.β b, off, none⟩ _ h2.2 (fun hp => ⟨(hr X _ (opd_rep hs hx) hp).ptr_inv.1, ptr_cells hs hB (h2.1 hp)⟩) (fun _ => .inr (.inl ⟨b, B, hB, rfl⟩))
    · exact yields_no h2
  case ept xx s j off =>
    have hrr := fun hp => (hr X _ (opd_rep hs hx) hp).ept_inv
    cases xx
    case sl s' m f =>
      simp only at h2
      by_cases hp : p
      · obtain ⟨ad, e, hh⟩ := hrr hp
        rcases hh with ⟨m', f', c, he, hsl, hj⟩ | ⟨_, _, _, he, _⟩
        · injection he with e1 e2 e3
          subst e1 e2 e3
          refine fin _ _ h2.2 (fun _ => ⟨e, sl_cells hsl hj (h2.1 hp)⟩) (fun _ => .inl ?_)
          obtain ⟨A, c', e', _, _, hF⟩ := hsl.sl_inv
          obtain ⟨ad', e2, hF⟩ := hF (by omega)
          injection e' with e3 _ _
          rw [← e3] at e2
          cases e2
          rw [add_block]; exact hF
        · cases he
      · exact ⟨_, h2.2, fun hp' => (hp hp').elim⟩
    case own r =>
      simp only at h2
      split at h2
      · rename_i R hR
        by_cases hp : p
        · obtain ⟨ad, e, hh⟩ := hrr hp
          obtain ⟨e1, e2, e3⟩ := h2.1 hp
          rcases hh with ⟨m', f', c, he, hsl, hj⟩ | ⟨r', n, c, he, hi', hk, hj⟩
          · cases he
          · injection he with e1
            subst e1
            subst e1
            refine fin _ _ h2.2 (fun _ => ⟨e, row_cells hs hR hk e2 e3⟩) (fun _ => .inr (.inr ⟨_, R, hR, ?_⟩))
            rw [hk, add_block]; rfl
        · exact ⟨_, h2.2, fun hp' => (hp hp').elim⟩
      · exact yields_no h2
    all_goals exact yields_no h2
  all_goals exact yields_no h2

theorem q_bin {t ty : TypeId} {op : BinOp} {x y : Operand} {x' y' : Opn} {bo : Bool} (hs : Sat G E X a) (ho : o.op = .binOp op t x y ty) (hb : bo = true → P.underlying t = some .bool) (hx : compO x = some x') (hy : compO y = some y') (h : vq E p K (.bin bo op x' y')) : Yields0 P X a o p K := by
  obtain ⟨xv, h1, hrx⟩ := AV.un_of h
  obtain ⟨yv, h2, hry⟩ := AV.un_of h1
  split at h2
  · rename_i c r hc
    refine ⟨r, h2.2, fun hp => ?_⟩
    have hall := binA_sound (P := P) (t := t) (xo := x) (yo := y) hc hb (h2.1 hp) (hrx X _ (opd_rep hs hx) hp) (hry X _ (opd_rep hs hy) hp)
    obtain ⟨v, _, hrep⟩ := hall X.w
    refine ⟨v, ?_, hrep⟩
    intro W
    obtain ⟨v', hrun, hrep'⟩ := hall W
    have ev := binA_det hc hrep hrep'
    subst ev
    simp only [execOp, ho]
    exact run_value hrun
  · exact yields0_no h2

theorem eqsOf_spec {op : BinOp} {t : TypeId} {q : Bool × List Bool} (h : eqsOf P op t = some q) : (∃ fs : Array Field, P.underlying t = some (.struct fs) ∧ P.stoodInHeld t = false ∧ P.eqGuardType P.depth t = false ∧ eqKs P 0 fs.toList = some q.2) ∧ ((op = .eql ∧ q.1 = false) ∨ (op = .neq ∧ q.1 = true)) := by
  unfold eqsOf at h
  split at h
  · split at h
    · rename_i fs hu
      split at h
      · rename_i hc
        simp only [Option.map_eq_some_iff] at h
        obtain ⟨l, hl, rfl⟩ := h
        exact ⟨⟨fs, hu, hc.1, hc.2, hl⟩, .inl ⟨rfl, rfl⟩⟩
      · cases h
    · cases h
  · split at h
    · rename_i fs hu
      split at h
      · rename_i hc
        simp only [Option.map_eq_some_iff] at h
        obtain ⟨l, hl, rfl⟩ := h
        exact ⟨⟨fs, hu, hc.1, hc.2, hl⟩, .inr ⟨rfl, rfl⟩⟩
      · cases h
    · cases h
  · cases h
theorem q_eqs {t ty : TypeId} {op : BinOp} {x y : Operand} {x' y' : Opn} {q : Bool × List Bool} (hs : Sat G E X a) (ho : o.op = .binOp op t x y ty) (hq : eqsOf P op t = some q) (hx : compO x = some x') (hy : compO y = some y') (h : vq E p K (.eqs q.1 q.2 x' y')) : Yields0 P X a o p K := by
  obtain ⟨⟨fs, hu, hst, hgt, hks⟩, hop⟩ := eqsOf_spec hq
  obtain ⟨xv, h1, hrx⟩ := AV.un_of h
  obtain ⟨yv, h2, hry⟩ := AV.un_of h1
  split at h2
  · rename_i l l'
    split at h2
    · rename_i b hb
      refine ⟨_, h2, fun hp => ⟨.bool (b != q.1), ?_, .bool _⟩⟩
      have r1 := hrx X _ (opd_rep hs hx) hp
      have r2 := hry X _ (opd_rep hs hy) hp
      obtain ⟨xs, e1, c1, d1⟩ : ∃ xs : List Value, a.eval x = .agg xs.toArray ∧ xs.length = l.length ∧ ∀ (i : Nat) (c : AV) (v : Value), l[i]? = some c → xs[i]? = some v → Rep X c v := by
        revert r1
        generalize a.eval x = v
        intro r1
        cases r1 with
        | ag _ vs hl hh => exact ⟨vs, rfl, hl, hh⟩
      obtain ⟨ys, e2, c2, d2⟩ : ∃ ys : List Value, a.eval y = .agg ys.toArray ∧ ys.length = l'.length ∧ ∀ (i : Nat) (c : AV) (v : Value), l'[i]? = some c → ys[i]? = some v → Rep X c v := by
        revert r2
        generalize a.eval y = v
        intro r2
        cases r2 with
        | ag _ vs hl hh => exact ⟨vs, rfl, hl, hh⟩
      intro W
      have hfs : P.fieldsOf t = fs := by unfold Program.fieldsOf; rw [hu]
      have heq : (Op.equal t (.agg xs.toArray) (.agg ys.toArray)).run P W = .ok b W := by
        show (Op.equalIn (9999 + 1) t _ _).run P W = _
        rw [run_equalIn_struct W 9999 t _ _ (by rw [hfs]; exact hu) hst, hfs]
        refine run_eqFields_ks (X := X) 9998 W _ _ fs.toList 0 q.2 l l' b hks hb (fun j c hc => ?_) (fun j c hc => ?_)
        · have hlt := (List.getElem?_eq_some_iff.1 hc).1
          have hv : xs[j]? = some (xs[j]'(by omega)) := List.getElem?_eq_getElem _
          exact ⟨_, by rw [Nat.zero_add]; exact (List.getElem?_toArray).trans hv, d1 j c _ hc hv⟩
        · have hlt := (List.getElem?_eq_some_iff.1 hc).1
          have hv : ys[j]? = some (ys[j]'(by omega)) := List.getElem?_eq_getElem _
          exact ⟨_, by rw [Nat.zero_add]; exact (List.getElem?_toArray).trans hv, d2 j c _ hc hv⟩
      simp only [execOp, ho, e1, e2]
      refine run_value ?_
      have hg : (eqGuard op t x y (.agg xs.toArray) (.agg ys.toArray)).run P W = .ok () W := by
        rcases hop with ⟨rfl, _⟩ | ⟨rfl, _⟩ <;> simp [eqGuard, Sem.run_bind, run_program, hgt]
      simp only [Sem.run_bind, hg, Result.andThen_ok]
      rcases hop with ⟨rfl, e⟩ | ⟨rfl, e⟩
      · show ((do pure (.bool (← Op.equal t _ _)) : Sem Value)).run P W = _
        simp only [Sem.run_bind, heq, Result.andThen_ok, Sem.run_pure, e]
        simp
      · show ((do pure (.bool (!(← Op.equal t _ _))) : Sem Value)).run P W = _
        simp only [Sem.run_bind, heq, Result.andThen_ok, Sem.run_pure, e]
        simp
    · exact yields0_no h2
  · exact yields0_no h2

theorem q_not {t : TypeId} {x : Operand} {x' : Opn} (hs : Sat G E X a) (ho : o.op = .unOp .not t x) (hx : compO x = some x') (h : vq E p K (.not x')) : Yields0 P X a o p K := by
  obtain ⟨xv, h1, hrx⟩ := AV.un_of h
  cases xv
  case bool b =>
    refine ⟨_, h1, fun hp => ⟨.bool !b, ?_, .bool _⟩⟩
    have e := (hrx X _ (opd_rep hs hx) hp).bool_inv
    intro W
    simp only [execOp, ho, e]
    exact run_value rfl
  all_goals exact yields0_no h1

theorem q_neg {t : TypeId} {x : Operand} {x' : Opn} (hs : Sat G E X a) (ho : o.op = .unOp .neg t x) (hx : compO x = some x') (h : vq E p K (.neg x')) : Yields0 P X a o p K := by
  obtain ⟨xv, h1, hrx⟩ := AV.un_of h
  cases xv
  case int k n =>
    refine ⟨_, h1, fun hp => ⟨.int k (k.wrap (0 - n)), ?_, .int _ _⟩⟩
    have e := (hrx X _ (opd_rep hs hx) hp).int_inv
    intro W
    simp only [execOp, ho, e]
    exact run_value rfl
  all_goals exact yields0_no h1

theorem q_conv {s t : TypeId} {k k' : IntKind} {x : Operand} {x' : Opn} (hs : Sat G E X a) (ho : o.op = .convert s t x) (h1 : P.underlying s = some (.int k')) (h2 : P.underlying t = some (.int k)) (hx : compO x = some x') (h : vq E p K (.conv k x')) : Yields0 P X a o p K := by
  obtain ⟨xv, h3, hrx⟩ := AV.un_of h
  cases xv
  case int kk n =>
    refine ⟨_, h3, fun hp => ⟨.int k (k.wrap n), ?_, .int _ _⟩⟩
    have e := (hrx X _ (opd_rep hs hx) hp).int_inv
    intro W
    simp only [execOp, ho, e]
    refine run_value ?_
    simp [convert, run_underlying h1, run_underlying h2, Conv.intToInt]
  all_goals exact yields0_no h3

theorem q_fad {t : TypeId} {fs : Array Field} {f : Nat} {fd : Field} {i : TypeInfo} {x : Operand} {x' : Opn} (hs : Sat G E X a) (ho : o.op = .fieldAddr t x f) (ht : P.underlying t = some (.struct fs)) (hf : fs[f]? = some fd) (hi : P.info? fd.type = some i) (hz : i.size ≠ 0)
    (hx : compO x = some x') (h : vq E p K (.fad fd.offset x')) : Yields0 P X a o p K := by
  obtain ⟨xv, h3, hrx⟩ := AV.un_of h
  have hrun : ∀ ad : Addr, a.eval x = .pointer (some ad) → ∀ W, (execOp a.eval o).run P W = .ok (.value (.pointer (some (ad.add fd.offset)))) W := by
    intro ad e W
    simp only [execOp, ho, e]
    refine run_value ?_
    simp [Instr.fieldAt, run_underlying ht, hf, Instr.sureAddr, fieldPlace, sizeOf, typeInfo, hi, hz]
  cases xv
  case ptr b off =>
    refine ⟨_, h3, fun hp => ?_⟩
    obtain ⟨e, hb⟩ := (hrx X _ (opd_rep hs hx) hp).ptr_inv
    refine ⟨_, hrun _ e, ?_⟩
    rw [add_blk]
    exact .ptr b _ hb
  case ept xx s j off =>
    refine ⟨_, h3, fun hp => ?_⟩
    obtain ⟨ad, e, hh⟩ := (hrx X _ (opd_rep hs hx) hp).ept_inv
    refine ⟨_, hrun _ e, ?_⟩
    rw [add_add, Nat.add_assoc]
    rcases hh with ⟨m, f, c, rfl, hsl, hj⟩ | ⟨r, n, c, rfl, hr, hk, hj⟩
    · exact .eptS s m f j _ ad c hsl hj
    · exact .eptO r s j _ ad n c hr hk hj
  all_goals exact yields0_no h3

theorem q_fld {t : TypeId} {fs : Array Field} {f : Nat} {fd : Field} {i : TypeInfo} {d : TypeDesc} {x : Operand} {x' : Opn} (hs : Sat G E X a) (ho : o.op = .field t x f) (ht : P.underlying t = some (.struct fs)) (hf : fs[f]? = some fd) (hi : P.info? fd.type = some i)
    (hd : P.underlying fd.type = some d) (h1 : Program.isAggT P fd.type = true ∨ i.size = 1) (hx : compO x = some x') (h : vq E p K (.fld fd.offset i.size (Program.isAggT P fd.type) x')) : Yields0 P X a o p K := by
  obtain ⟨xv, h3, hrx⟩ := AV.un_of h
  cases xv
  case ag l =>
    refine ⟨_, h3.2, fun hp => ?_⟩
    have hb := h3.1 hp
    have hag : ∀ W, ((isAgg fd.type).run P W : Result Bool) = .ok (Program.isAggT P fd.type) W := by
      intro W
      simp only [isAgg, Sem.run_bind, run_underlying hd, Result.andThen_ok, Program.isAggT, hd]
      cases d <;> rfl
    cases hv : a.eval x with
    | agg vs =>
      have hr := hrx X _ (opd_rep hs hx) hp
      rw [hv] at hr
      cases hr with
      | ag _ vs' hl hh =>
        have h2 := RepL.sub (X := X) ⟨hl, hh⟩ fd.offset i.size hb
        refine ⟨_, ?_, h2.1.ofCells' _ (by rcases h1 with h1 | h1; exact .inl h1; exact .inr (h2.2.trans h1))⟩
        intro W
        simp only [execOp, ho, hv]
        refine run_value ?_
        simp only [Instr.field, Sem.run_bind, run_underlying ht, Result.andThen_ok, hf, asAgg, Sem.run_pure, part, hag]
        cases hag' : Program.isAggT P fd.type with
        | true =>
          simp only [if_true, Sem.run_bind, sizeOf, typeInfo, program, Sem.run, hi, Result.andThen_ok, Sem.run_pure]
          simp [List.extract_eq_take_drop]
        | false =>
          have h1' : i.size = 1 := by simpa [hag'] using h1
          have hlt : fd.offset < vs'.length := by omega
          simp [h1', List.getElem?_eq_getElem hlt]
    | _ =>
      have hr := hrx X _ (opd_rep hs hx) hp
      rw [hv] at hr
      cases hr
  all_goals exact yields0_no h3

theorem q_iad {t e : TypeId} {i : TypeInfo} {x j : Operand} {x' j' : Opn} (hs : Sat G E X a) (ho : o.op = .indexAddr t x j) (ht : P.underlying t = some (.slice e)) (hi : P.info? e = some i) (hx : compO x = some x') (hj : compO j = some j') (h : vq E p K (.iad i.size x' j')) : Yields0 P X a o p K := by
  obtain ⟨xv, h1, hrx⟩ := AV.un_of h
  obtain ⟨jv, h2, hrj⟩ := AV.un_of h1
  have hel : P.elem t = e := by simp [Program.elem, ht]
  have hrun : ∀ (ad : Addr) (n c : Nat) (k : IntKind) (q : Int), a.eval x = .slice (some ad) n c → a.eval j = .int k q → 0 ≤ q → q < n → ∀ W, (execOp a.eval o).run P W = .ok (.value (.pointer (some (ad.add (q.toNat * i.size))))) W := by
    intro ad n c k q e1 e2 h0 h1 W
    simp only [execOp, ho, e1, e2]
    refine run_value ?_
    rw [run_indexAt_slice W t ad n c k q (by rw [hel]; exact ht), if_pos ⟨h0, h1⟩, hel]
    simp [sizeOf, typeInfo, hi]
  split at h2
  · rename_i s' m f k q
    refine ⟨_, h2.2, fun hp => ?_⟩
    obtain ⟨hs', h0, hlt⟩ := h2.1 hp
    obtain ⟨A, c, e1, hc, hm, hA⟩ := (hrx X _ (opd_rep hs hx) hp).sl_inv
    obtain ⟨ad, rfl, hF⟩ := hA (by omega)
    have e2 := (hrj X _ (opd_rep hs hj) hp).int_inv
    refine ⟨_, hrun ad _ c k q e1 e2 h0 hlt, ?_⟩
    have := hrx X _ (opd_rep hs hx) hp
    rw [e1] at this
    subst hs'
    have h5 := Rep.eptS i.size m f q.toNat 0 ad c this (by omega)
    simpa using h5
  · rename_i r k q
    split at h2
    · rename_i R hR
      refine ⟨_, h2.2, fun hp => ?_⟩
      obtain ⟨hs', h0, hlt⟩ := h2.1 hp
      have hro := hs.inv.row r R hR
      obtain ⟨xs, hown, hE, _⟩ := hro.rep
      have e1 : a.eval x = X.κ r := by
        have := hrx X _ (opd_rep hs hx) hp
        generalize a.eval x = v at this
        cases this; rfl
      have e2 := (hrj X _ (opd_rep hs hj) hp).int_inv
      rcases hown.2 with ⟨_, h0'⟩ | ⟨g, cap, cur, e3, _⟩
      · omega
      · rw [e3] at e1
        refine ⟨_, hrun _ _ cap k q e1 e2 h0 hlt, ?_⟩
        have h5 := Rep.eptO (X := X) r R.s q.toNat 0 _ _ cap hro.lt e3 (by omega)
        rw [hs'] at h5
        rw [hs']
        simpa using h5
    · exact yields0_no h2
  · exact yields0_no h2

theorem q_iar {t e : TypeId} {n : Nat} {i : TypeInfo} {x j : Operand} {x' j' : Opn} (hs : Sat G E X a) (ho : o.op = .indexAddr t x j) (ht : P.underlying t = some (.array n e)) (hi : P.info? e = some i) (hx : compO x = some x') (hj : compO j = some j') (h : vq E p K (.iar n i.size x' j')) : Yields0 P X a o p K := by
  obtain ⟨xv, h1, hrx⟩ := AV.un_of h
  obtain ⟨jv, h2, hrj⟩ := AV.un_of h1
  have hel : P.elem t = e := by simp [Program.elem, ht]
  have hal : P.arrayLen t = n := by simp [Program.arrayLen, ht]
  have hrun : ∀ (ad : Addr) (k : IntKind) (q : Int), a.eval x = .pointer (some ad) → a.eval j = .int k q → 0 ≤ q → q < n → ∀ W, (execOp a.eval o).run P W = .ok (.value (.pointer (some (ad.add (q.toNat * i.size))))) W := by
    intro ad k q e1 e2 h0 h1 W
    simp only [execOp, ho, e1, e2]
    refine run_value ?_
    rw [run_indexAt_array W t ad k q (by rw [hel, hal]; exact ht), if_pos ⟨h0, by rw [hal]; exact h1⟩, hel]
    simp [sizeOf, typeInfo, hi]
  split at h2
  · rename_i b o' k q
    refine ⟨_, h2.2, fun hp => ?_⟩
    obtain ⟨h0, hlt⟩ := h2.1 hp
    obtain ⟨e1, hb⟩ := (hrx X _ (opd_rep hs hx) hp).ptr_inv
    refine ⟨_, hrun _ k q e1 (hrj X _ (opd_rep hs hj) hp).int_inv h0 hlt, ?_⟩
    rw [add_blk]
    exact .ptr b _ hb
  · rename_i xx s' q' o' k q
    refine ⟨_, h2.2, fun hp => ?_⟩
    obtain ⟨h0, hlt⟩ := h2.1 hp
    obtain ⟨ad, e1, hh⟩ := (hrx X _ (opd_rep hs hx) hp).ept_inv
    refine ⟨_, hrun _ k q e1 (hrj X _ (opd_rep hs hj) hp).int_inv h0 hlt, ?_⟩
    rw [add_add, Nat.add_assoc]
    rcases hh with ⟨m, f, c, rfl, hsl, hj'⟩ | ⟨r, n', c, rfl, hr, hk, hj'⟩
    · exact .eptS _ m f _ _ ad c hsl hj'
    · exact .eptO r _ _ _ ad n' c hr hk hj'
  · exact yields0_no h2

theorem q_ext {x : Operand} {x' : Opn} {i : Nat} (hs : Sat G E X a) (ho : o.op = .extract x i) (hx : compO x = some x') (h : vq E p K (.ext x' i)) : Yields0 P X a o p K := by
  obtain ⟨xv, h1, hrx⟩ := AV.un_of h
  cases xv
  case tup l =>
    refine ⟨_, h1.2, fun hp => ?_⟩
    have hlt := h1.1 hp
    have hr := hrx X _ (opd_rep hs hx) hp
    generalize hv : a.eval x = v at hr
    cases hr with
    | tup _ vs hl hh =>
      have hg : vs[i]? = some (vs[i]'(by omega)) := List.getElem?_eq_getElem _
      refine ⟨vs[i]'(by omega), ?_, hh i _ _ (getD_get hlt) hg⟩
      intro W
      simp only [execOp, ho, hv]
      refine run_value ?_
      simp [Instr.extract, hg]
  all_goals exact yields0_no h1

theorem q_nchk {x : Operand} {x' : Opn} (hs : Sat G E X a) (ho : o.op = .nilCheck x) (hx : compO x = some x') (h : vq E p K (.nchk x')) : Yields0 P X a o p K := by
  obtain ⟨xv, h1, hrx⟩ := AV.un_of h
  cases xv
  case ptr b off =>
    refine ⟨_, h1, fun hp => ?_⟩
    obtain ⟨e, hb⟩ := (hrx X _ (opd_rep hs hx) hp).ptr_inv
    refine ⟨_, ?_, .ptr b off hb⟩
    intro W
    simp [execOp, ho, e]
  case ept y s j o =>
    refine ⟨_, h1, fun hp => ?_⟩
    have hr := hrx X _ (opd_rep hs hx) hp
    have hp2 : ∃ ad, a.eval x = .pointer (some ad) := by
      generalize a.eval _ = v at hr
      cases hr with
      | eptS s n f j off ad c h hj => exact ⟨_, rfl⟩
      | eptO i s j off ad n c hi hk hj => exact ⟨_, rfl⟩
    obtain ⟨ad, e⟩ := hp2
    refine ⟨_, ?_, e ▸ hr⟩
    intro W
    simp [execOp, ho, e]
  case fn f l =>
    refine ⟨_, h1, fun hp => ?_⟩
    have hr := hrx X _ (opd_rep hs hx) hp
    generalize hv : a.eval x = v at hr
    cases hr with
    | fn _ _ vs hl hh =>
      refine ⟨_, ?_, .fn f l vs hl hh⟩
      intro W
      simp [execOp, ho, hv]
  all_goals exact yields0_no h1

theorem q_len {t e ty : TypeId} {x : Operand} {x' : Opn} (hs : Sat G E X a) (ho : o.op = .call { callee := .builtin .len, args := #[x], argTypes := #[t] }) (ht : P.underlying t = some (.slice e)) (hx : compO x = some x') (h : vq E p K (.len x')) : Yields P E X a o p K := by
  obtain ⟨xv, h1, hrx⟩ := AV.un_of h
  have hel : P.elem t = e := by simp [Program.elem, ht]
  have hrun : ∀ (A : Option Addr) (n c : Nat), a.eval x = .slice A n c → ∀ W, Same E X W → (execOp a.eval o).run P W = .ok (.value (goInt n)) W := by
    intro A n c e1 W hW
    have := run_len_slice (P := P) W t o.type A n c (by rw [hel]; exact ht)
    simp only [execOp, ho, resolve, Sem.run_bind, Sem.run_pure, Result.andThen_ok, invoke, builtin, List.map_toArray, List.map_cons, List.map_nil, e1, this]
  cases xv
  case sl s m f =>
    by_cases hp : p
    · obtain ⟨A, c, e1, hc, hm, _⟩ := (hrx X _ (opd_rep hs hx) hp).sl_inv
      exact ⟨_, h1 (.inl hm), fun _ => ⟨_, hrun A _ c e1, .int _ _⟩⟩
    · exact ⟨_, h1 (.inr hp), fun hp' => (hp hp').elim⟩
  case own r =>
    simp only at h1
    split at h1
    · rename_i R hR
      by_cases hp : p
      · have hro := hs.inv.row r R hR
        obtain ⟨xs, hown, hE, _⟩ := hro.rep
        have e1 : a.eval x = X.κ r := by
          have := hrx X _ (opd_rep hs hx) hp
          generalize a.eval x = v at this
          cases this; rfl
        rcases hown.2 with ⟨e3, h0'⟩ | ⟨g, cap, cur, e3, _, _, hc1, hc2, _⟩
        · rw [e3] at e1
          refine ⟨_, h1 (.inl (by omega)), fun _ => ⟨_, hrun _ _ _ e1, ?_⟩⟩
          rw [h0']; exact .int _ _
        · rw [e3] at e1
          simp only [maxLen] at hc2
          exact ⟨_, h1 (.inl (by omega)), fun _ => ⟨_, hrun _ _ _ e1, .int _ _⟩⟩
      · exact ⟨_, h1 (.inr hp), fun hp' => (hp hp').elim⟩
    · exact yields_no h1
  case nils =>
    refine ⟨_, h1, fun hp => ?_⟩
    have e1 : a.eval x = .slice none 0 0 := by
      have := hrx X _ (opd_rep hs hx) hp
      generalize a.eval x = v at this
      cases this; rfl
    exact ⟨_, hrun _ _ _ e1, .int _ _⟩
  all_goals exact yields_no h1

theorem q_mm {b : Bool} {x y : Operand} {x' y' : Opn} {ts : Array TypeId} (hs : Sat G E X a) (ho : o.op = .call { callee := .builtin (if b then .max else .min), args := #[x, y], argTypes := ts }) (hx : compO x = some x') (hy : compO y = some y') (h : vq E p K (.mm b x' y')) : Yields P E X a o p K := by
  obtain ⟨xv, h1, hrx⟩ := AV.un_of h
  obtain ⟨yv, h2, hry⟩ := AV.un_of h1
  split at h2
  · rename_i k m k' n
    refine ⟨_, h2, fun hp => ⟨_, ?_, .int _ _⟩⟩
    have e1 := (hrx X _ (opd_rep hs hx) hp).int_inv
    have e2 := (hry X _ (opd_rep hs hy) hp).int_inv
    intro W hW
    cases b
    · simp only [execOp, ho, resolve, Sem.run_bind, Sem.run_pure, Result.andThen_ok, invoke, builtin, List.map_toArray, List.map_cons, List.map_nil, e1, e2, Bool.false_eq_true, if_false]
      simp [Builtin.min_, Builtin.min2, minI]
    · simp only [execOp, ho, resolve, Sem.run_bind, Sem.run_pure, Result.andThen_ok, invoke, builtin, List.map_toArray, List.map_cons, List.map_nil, e1, e2, if_true]
      simp [Builtin.max_, Builtin.max2, maxI]
  · exact yields_no h2

theorem q_mm3 {b : Bool} {x y z : Operand} {x' y' z' : Opn} {ts : Array TypeId} (hs : Sat G E X a) (ho : o.op = .call { callee := .builtin (if b then .max else .min), args := #[x, y, z], argTypes := ts }) (hx : compO x = some x') (hy : compO y = some y') (hz : compO z = some z') (h : vq E p K (.mm3 b x' y' z')) : Yields P E X a o p K := by
  obtain ⟨xv, h1, hrx⟩ := AV.un_of h
  obtain ⟨yv, h2, hry⟩ := AV.un_of h1
  obtain ⟨zv, h3, hrz⟩ := AV.un_of h2
  split at h3
  · rename_i k m k' n k'' q
    refine ⟨_, h3, fun hp => ⟨_, ?_, .int _ _⟩⟩
    have e1 := (hrx X _ (opd_rep hs hx) hp).int_inv
    have e2 := (hry X _ (opd_rep hs hy) hp).int_inv
    have e3 := (hrz X _ (opd_rep hs hz) hp).int_inv
    intro W hW
    cases b
    · simp only [execOp, ho, resolve, Sem.run_bind, Sem.run_pure, Result.andThen_ok, invoke, builtin, List.map_toArray, List.map_cons, List.map_nil, e1, e2, e3, Bool.false_eq_true, if_false]
      simp [Builtin.min_, Builtin.min2, minI]; first | rfl | congr
    · simp only [execOp, ho, resolve, Sem.run_bind, Sem.run_pure, Result.andThen_ok, invoke, builtin, List.map_toArray, List.map_cons, List.map_nil, e1, e2, e3, if_true]
      simp [Builtin.max_, Builtin.max2, maxI]; first | rfl | congr
  · exact yields_no h3

theorem AV.unL_of {p : Prop} : ∀ {l : List AV} {k : List AV → Prop}, AV.unL p k l → ∃ l', k l' ∧ ∀ X vs, RepL X l vs → p → RepL X l' vs
  | [], k, h => ⟨[], h, fun _ _ h _ => h⟩
  | a :: t, k, h => by
    obtain ⟨a', h1, h2⟩ := AV.un_of h
    obtain ⟨t', h3, h4⟩ := AV.unL_of h1
    refine ⟨a' :: t', h3, fun X vs hr hp => ?_⟩
    obtain ⟨hl, hr⟩ := hr
    match vs, hl with
    | v :: vs, hl =>
      exact .cons (h2 X v (hr 0 a v rfl rfl) hp) (h4 X vs ⟨by simpa using hl, fun i b u hb hu => hr (i + 1) b u hb hu⟩ hp)
theorem compParts_rep (hs : Sat G E X a) (pl : List (Nat × Nat)) : ∀ (parts : List (Nat × Operand)) (ps : List (Nat × Nat × Opn)), compParts pl parts = some ps →
    RepL X (ps.map fun q => E.opd q.2.2) (parts.map fun x => a.eval x.2) ∧ ∀ l, l.length = ps.length → (l.all AV.known = true) → RepL X l (parts.map fun x => a.eval x.2) →
    (zipP ps l).length = (parts.map fun x => (x.1, a.eval x.2)).length ∧
    ∀ (k : Nat) (p : Nat × Value) (q : Nat × Nat × AV), (parts.map fun x => (x.1, a.eval x.2))[k]? = some p → (zipP ps l)[k]? = some q → pl[p.1]? = some (q.1, q.2.1) ∧ RepL X q.2.2.cells p.2.cells.toList
  | [], ps, h => by simp only [compParts, Option.some.injEq] at h; subst h; exact ⟨.nil, fun l _ _ _ => ⟨by simp [zipP], fun k p q hp => by simp at hp⟩⟩
  | (i, x) :: r, ps, h => by
    simp only [compParts] at h
    cases h1 : pl[i]? with
    | none => simp [h1] at h
    | some q0 =>
      cases h2 : compO x with
      | none => simp [h1, h2] at h
      | some x' =>
        cases h3 : compParts pl r with
        | none => simp [h1, h2, h3] at h
        | some r' =>
          simp only [h1, h2, h3, Option.some.injEq] at h
          subst h
          have ih := compParts_rep hs pl r r' h3
          refine ⟨.cons (opd_rep hs h2) ih.1, fun l hl hall hr => ?_⟩
          match l, hl with
          | b :: l, hl =>
            simp only [List.all_cons, Bool.and_eq_true] at hall
            have ih' := ih.2 l (by simpa using hl) hall.2 ⟨by simpa using hr.1, fun i c u hc hu => hr.2 (i + 1) c u hc hu⟩
            refine ⟨by simpa [zipP] using ih'.1, fun k p q hp hq => ?_⟩
            cases k with
            | zero =>
              simp only [List.map_cons, zipP, List.getElem?_cons_zero, Option.some.injEq] at hp hq
              subst hp hq
              exact ⟨h1, (hr.2 0 b _ rfl rfl).cells hall.1⟩
            | succ k =>
              simp only [List.map_cons, zipP, List.getElem?_cons_succ] at hp hq
              exact ih'.2 k p q hp hq

theorem q_build {t : TypeId} {fs : Array Field} {parts : Array (Nat × Operand)} {z : List AV} {pl : List (Nat × Nat)} {ps : List (Nat × Nat × Opn)} (hs : Sat G E X a) (ho : o.op = .build t parts) (hu : P.underlying t = some (.struct fs))
    (hz : zeroA P t = some z) (hpl : fs.toList.mapM (fun f => (P.info? f.type).map fun i => (f.offset, i.size)) = some pl) (hp : compParts pl parts.toList = some ps) (h : vq E p K (.build z ps)) : Yields0 P X a o p K := by
  obtain ⟨i, zv, h1, h2, h3⟩ := zeroA_spec hz
  simp only [vq] at h
  obtain ⟨l, h, hl⟩ := AV.unL_of h
  obtain ⟨hr, hq⟩ := compParts_rep hs pl parts.toList ps hp
  cases hf : fillA z (zipP ps l) with
  | none => simp only [hf] at h; exact yields0_no h
  | some cs =>
    simp only [hf] at h
    refine ⟨_, h.2, fun hp' => ?_⟩
    have hr' := hl X _ hr hp'
    have hlen : l.length = ps.length := by have := hr'.1; have h0 := hr.1; simp only [List.length_map] at this h0; omega
    obtain ⟨g1, g2⟩ := hq l hlen (h.1 hp') hr'
    obtain ⟨r, hr1, hr2⟩ := fillA_sound (fun k => pl[k]?) _ _ zv.cells z cs (h3 X) g1 g2 hf
    have hb : P.built t (parts.map fun x => (x.1, a.eval x.2)).toList = some r := by
      unfold Program.built
      simp only [h1, hu, h2, hpl, List.getElem?_toArray, Array.toList_map]
      exact hr1
    have hrep : Rep X (.ag cs) (.agg r) := by simpa using Rep.ag (X := X) cs r.toList hr2.1 hr2.2
    refine ⟨_, ?_, hrep⟩
    intro W
    unfold execOp
    simp only [ho, Sem.run_bind, run_build W t _ r hb, Result.andThen_ok]
    rfl

theorem q_buildA {t e : TypeId} {n : Nat} {ie : TypeInfo} {parts : Array (Nat × Operand)} {z : List AV} {ps : List (Nat × Nat × Opn)} (hs : Sat G E X a) (ho : o.op = .build t parts) (hu : P.underlying t = some (.array n e))
    (hz : zeroA P t = some z) (hie : P.info? e = some ie) (hp : compParts ((List.range n).map fun k => (k * ie.size, ie.size)) parts.toList = some ps) (h : vq E p K (.build z ps)) : Yields0 P X a o p K := by
  obtain ⟨i, zv, h1, h2, h3⟩ := zeroA_spec hz
  simp only [vq] at h
  obtain ⟨l, h, hl⟩ := AV.unL_of h
  obtain ⟨hr, hq⟩ := compParts_rep hs _ parts.toList ps hp
  cases hf : fillA z (zipP ps l) with
  | none => simp only [hf] at h; exact yields0_no h
  | some cs =>
    simp only [hf] at h
    refine ⟨_, h.2, fun hp' => ?_⟩
    have hr' := hl X _ hr hp'
    have hlen : l.length = ps.length := by have := hr'.1; have h0 := hr.1; simp only [List.length_map] at this h0; omega
    obtain ⟨g1, g2⟩ := hq l hlen (h.1 hp') hr'
    obtain ⟨r, hr1, hr2⟩ := fillA_sound (fun i => some (i * ie.size, ie.size)) _ _ zv.cells z cs (h3 X) g1 (fun k pp qq hpp hqq => by
      obtain ⟨e1, e2⟩ := g2 k pp qq hpp hqq
      refine ⟨?_, e2⟩
      rw [List.getElem?_map] at e1
      cases hk : (List.range n)[pp.1]? with
      | none => simp [hk] at e1
      | some q =>
        have : q = pp.1 := by
          have := List.getElem?_eq_some_iff.1 hk
          obtain ⟨h, e⟩ := this
          simpa using e.symm
        subst this
        simpa [hk] using e1) hf
    have hb : P.built t (parts.map fun x => (x.1, a.eval x.2)).toList = some r := by
      unfold Program.built
      simp only [h1, hu, h2, hie, Array.toList_map]
      exact hr1
    have hrep : Rep X (.ag cs) (.agg r) := by simpa using Rep.ag (X := X) cs r.toList hr2.1 hr2.2
    refine ⟨_, ?_, hrep⟩
    intro W
    unfold execOp
    simp only [ho, Sem.run_bind, run_build W t _ r hb, Result.andThen_ok]
    rfl

theorem q_mkfn {f : FuncId} {first caps : Array Operand} {cs : List Opn} (hs : Sat G E X a) (ho : o.op = .makeFunc (.func f) first caps) (hf : first.toList = []) (hc : compL caps.toList = some cs) (h : vq E p K (.mkfn f cs)) : Yields0 P X a o p K := by
  simp only [vq] at h
  obtain ⟨l, h, hl⟩ := AV.unL_of h
  have h0 : first = #[] := by cases first; simpa using hf
  refine ⟨_, h, fun hp => ?_⟩
  have hr := hl X _ (compL_rep hs _ _ hc) hp
  have hrep : Rep X (.fn f l) (.func (.func f) #[] (caps.map a.eval)) := by
    have := Rep.fn (X := X) f l _ hr.1 hr.2
    have e : caps.map a.eval = (caps.toList.map a.eval).toArray := by apply Array.ext'; simp
    rw [e]; exact this
  refine ⟨_, ?_, hrep⟩
  intro W
  unfold execOp
  simp [ho, Instr.makeFunc, h0]

/-- Every quiet instruction. -/
theorem vq_sound {ins : Ins} (hs : Sat G E X a) (hc : compQ P o.op = some ins) (h : vq E p K ins) : Yields P E X a o p K := by
  unfold compQ at hc
  split at hc
  · rename_i x ho
    obtain ⟨x', hx, rfl⟩ := Option.map_eq_some_iff.1 hc
    exact (q_mov hs (.inl ho) hx h).y
  · rename_i x ho
    obtain ⟨x', hx, rfl⟩ := Option.map_eq_some_iff.1 hc
    exact (q_mov hs (.inr ho) hx h).y
  · rename_i c x y ho
    obtain ⟨c', hc', h1⟩ := compO_bind hc
    obtain ⟨x', hx, h2⟩ := compO_bind h1
    obtain ⟨y', hy, h3⟩ := compO_bind h2
    cases h3
    exact (q_pick hs ho hc' hx hy h).y
  · rename_i t x ho
    split at hc
    · rename_i i d hi hd
      split at hc
      · rename_i hb
        obtain ⟨x', hx, h1⟩ := compO_bind hc
        cases h1
        exact q_load hs ho hi hd (by simpa using hb) hx h
      · cases hc
    · cases hc
  · rename_i op t x y ty ho
    split at hc
    · rename_i q hq
      obtain ⟨x', hx, h1⟩ := compO_bind hc
      obtain ⟨y', hy, h2⟩ := compO_bind h1
      cases h2
      exact (q_eqs hs ho hq hx hy h).y
    · obtain ⟨x', hx, h1⟩ := compO_bind hc
      obtain ⟨y', hy, h2⟩ := compO_bind h1
      cases h2
      refine (q_bin hs ho (fun hb => ?_) hx hy h).y
      split at hb
      · assumption
      · cases hb
  · rename_i t x ho
    obtain ⟨x', hx, h1⟩ := compO_bind hc
    cases h1
    exact (q_not hs ho hx h).y
  · rename_i t x ho
    obtain ⟨x', hx, h1⟩ := compO_bind hc
    cases h1
    exact (q_neg hs ho hx h).y
  · rename_i s t x ho
    split at hc
    · rename_i k1 k2 h1 h2
      obtain ⟨x', hx, h3⟩ := compO_bind hc
      cases h3
      exact (q_conv hs ho h1 h2 hx h).y
    · cases hc
  · rename_i t x f ho
    split at hc
    · rename_i fs ht
      split at hc
      · rename_i fd hf
        split at hc
        · cases hc
        · rename_i hz
          obtain ⟨x', hx, h3⟩ := compO_bind hc
          cases h3
          cases hi : P.info? fd.type with
          | none => simp [Program.szT, hi] at hz
          | some i => exact (q_fad hs ho ht hf hi (by simpa [Program.szT, hi] using hz) hx h).y
      · cases hc
    · cases hc
  · rename_i t x f ho
    split at hc
    · rename_i fs ht
      split at hc
      · rename_i fd hf
        split at hc
        · rename_i i d hi hd
          split at hc
          · rename_i hb
            obtain ⟨x', hx, h3⟩ := compO_bind hc
            cases h3
            exact (q_fld hs ho ht hf hi hd (by simpa using hb) hx h).y
          · cases hc
        · cases hc
      · cases hc
    · cases hc
  · rename_i t x j ho
    split at hc
    · rename_i e ht
      split at hc
      · rename_i i hi
        obtain ⟨x', hx, h1⟩ := compO_bind hc
        obtain ⟨j', hj, h2⟩ := compO_bind h1
        cases h2
        exact (q_iad hs ho ht hi hx hj h).y
      · cases hc
    · rename_i n e ht
      split at hc
      · rename_i i hi
        split at hc
        · cases hc
        · obtain ⟨x', hx, h1⟩ := compO_bind hc
          obtain ⟨j', hj, h2⟩ := compO_bind h1
          cases h2
          exact (q_iar hs ho ht hi hx hj h).y
      · cases hc
    · cases hc
  · rename_i x i ho
    obtain ⟨x', hx, h1⟩ := compO_bind hc
    cases h1
    exact (q_ext hs ho hx h).y
  · rename_i x ho
    obtain ⟨x', hx, h1⟩ := compO_bind hc
    cases h1
    exact (q_nchk hs ho hx h).y
  · rename_i c ho
    split at hc
    · rename_i b hb
      have ho' : o.op = .call { callee := .builtin b, args := c.args.toList.toArray, argTypes := c.argTypes.toList.toArray } := by
        rw [ho]; cases c; simp at hb ⊢; exact hb
      generalize c.args.toList = as at hc ho'
      generalize c.argTypes.toList = ts at hc ho'
      unfold compB at hc
      split at hc
      · split at hc
        · split at hc
          · rename_i e ht
            obtain ⟨x', hx, rfl⟩ := Option.map_eq_some_iff.1 hc
            exact q_len (ty := 0) hs ho' ht hx h
          · cases hc
        · cases hc
      · split at hc
        · obtain ⟨x', hx, h1⟩ := compO_bind hc
          obtain ⟨y', hy, h2⟩ := compO_bind h1
          cases h2
          exact q_mm (b := true) hs ho' hx hy h
        · obtain ⟨x', hx, h1⟩ := compO_bind hc
          obtain ⟨y', hy, h2⟩ := compO_bind h1
          obtain ⟨z', hz, h3⟩ := compO_bind h2
          cases h3
          exact q_mm3 (b := true) hs ho' hx hy hz h
        · cases hc
      · split at hc
        · obtain ⟨x', hx, h1⟩ := compO_bind hc
          obtain ⟨y', hy, h2⟩ := compO_bind h1
          cases h2
          exact q_mm (b := false) hs ho' hx hy h
        · obtain ⟨x', hx, h1⟩ := compO_bind hc
          obtain ⟨y', hy, h2⟩ := compO_bind h1
          obtain ⟨z', hz, h3⟩ := compO_bind h2
          cases h3
          exact q_mm3 (b := false) hs ho' hx hy hz h
        · cases hc
      · cases hc
    · cases hc
  · rename_i t parts ho
    split at hc
    · rename_i fs hu
      split at hc
      · rename_i z pl hz hpl
        obtain ⟨ps, hp, rfl⟩ := Option.map_eq_some_iff.1 hc
        exact (q_build hs ho hu hz hpl hp h).y
      · cases hc
    · rename_i n e hu
      split at hc
      · rename_i z i hz hie
        obtain ⟨ps, hp, rfl⟩ := Option.map_eq_some_iff.1 hc
        exact (q_buildA hs ho hu hz hie hp h).y
      · cases hc
    · cases hc
  · rename_i f first caps ho
    split at hc
    · rename_i hf
      obtain ⟨cs, hcs, rfl⟩ := Option.map_eq_some_iff.1 hc
      exact (q_mkfn hs ho hf hcs h).y
    · cases hc
  · cases hc

theorem vq_sound0 {ins : Ins} (hn : heapless o.op = true) (hs : Sat G E X a) (hc : compQ P o.op = some ins) (h : vq E p K ins) : Yields0 P X a o p K := by
  cases ho : o.op <;> simp only [heapless, ho, Bool.false_eq_true] at hn
  case move x =>
    simp only [compQ, ho] at hc
    obtain ⟨x', hx, rfl⟩ := Option.map_eq_some_iff.1 hc
    exact q_mov hs (.inl ho) hx h
  case assign x =>
    simp only [compQ, ho] at hc
    obtain ⟨x', hx, rfl⟩ := Option.map_eq_some_iff.1 hc
    exact q_mov hs (.inr ho) hx h
  case binOp op t x y ty =>
    simp only [compQ, ho] at hc
    split at hc
    · rename_i q hq
      obtain ⟨x', hx, h1⟩ := compO_bind hc
      obtain ⟨y', hy, h2⟩ := compO_bind h1
      cases h2
      exact q_eqs hs ho hq hx hy h
    · obtain ⟨x', hx, h1⟩ := compO_bind hc
      obtain ⟨y', hy, h2⟩ := compO_bind h1
      cases h2
      refine q_bin hs ho (fun hb => ?_) hx hy h
      split at hb
      · assumption
      · cases hb
  case extract x i =>
    simp only [compQ, ho] at hc
    obtain ⟨x', hx, h1⟩ := compO_bind hc
    cases h1
    exact q_ext hs ho hx h
  case pick c x y =>
    simp only [compQ, ho] at hc
    obtain ⟨c', hc', h1⟩ := compO_bind hc
    obtain ⟨x', hx, h2⟩ := compO_bind h1
    obtain ⟨y', hy, h3⟩ := compO_bind h2
    cases h3
    exact q_pick hs ho hc' hx hy h
  case unOp u t x =>
    cases u with
    | not =>
      simp only [compQ, ho] at hc
      obtain ⟨x', hx, h1⟩ := compO_bind hc
      cases h1
      exact q_not hs ho hx h
    | neg =>
      simp only [compQ, ho] at hc
      obtain ⟨x', hx, h1⟩ := compO_bind hc
      cases h1
      exact q_neg hs ho hx h
    | _ => simp [compQ, ho] at hc
  case fieldAddr t x f =>
    simp only [compQ, ho] at hc
    split at hc
    · rename_i fs ht
      split at hc
      · rename_i fd hf
        split at hc
        · cases hc
        · rename_i hz
          obtain ⟨x', hx, h3⟩ := compO_bind hc
          cases h3
          cases hi : P.info? fd.type with
          | none => simp [Program.szT, hi] at hz
          | some i => exact q_fad hs ho ht hf hi (by simpa [Program.szT, hi] using hz) hx h
      · cases hc
    · cases hc

end
end Go.VV
