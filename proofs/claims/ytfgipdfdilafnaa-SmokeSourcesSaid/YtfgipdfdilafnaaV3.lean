/- The quiet instructions keep their word. -/
import Derived.Great.BuildSlice
import Derived.Laws.StructEq
import Derived.ChangeKeysEq
import Derived.Test.YtfgipdfdilafnaaV2
set_option linter.unusedSimpArgs false
set_option linter.unusedVariables false
namespace Go.VV
open Go.RowKit

theorem add_add (a : Addr) (m n : Nat) : (a.add m).add n = a.add (m + n) := by
  unfold Addr.add
  by_cases hm : m = 0 <;> by_cases hn : n = 0 <;> simp [hm, hn, Nat.add_assoc]
theorem add_blk (g o n : Nat) : (⟨g, o, none⟩ : Addr).add n = ⟨g, o + n, none⟩ := by unfold Addr.add; split <;> simp_all

theorem run_cellsFrom {P : Program} (w : World) (ad : Addr) (vals : List Value) : ∀ (i : Nat) (acc : Array Value), (∀ q v, vals[q]? = some v → w.cell? (ad.add (i + q)) = some v) →
    (loadCellsFrom ad i vals.length acc).run P w = .ok (acc ++ vals.toArray) w := by
  induction vals with
  | nil => intro i acc _; simp [loadCellsFrom]
  | cons v vals ih =>
    intro i acc h
    have h0 := h 0 v rfl
    simp only [Nat.add_zero] at h0
    have := ih (i + 1) (acc.push v) (fun q u hq => by have := h (q + 1) u (by simpa using hq); rwa [show i + 1 + q = i + (q + 1) by omega])
    simp only [List.length_cons, loadCellsFrom, Sem.run_bind, load, Sem.run, h0, Result.andThen_ok, this]
    simp
theorem run_loadN {P : Program} {t : TypeId} {i : TypeInfo} {d : TypeDesc} (hi : P.info? t = some i) (hd : P.underlying t = some d) (w : World) (ad : Addr) (vals : List Value) (hl : vals.length = i.size)
    (hc : ∀ q v, vals[q]? = some v → w.cell? (ad.add q) = some v) (h1 : Program.isAggT P t = true ∨ i.size = 1) :
    (loadVar t ad).run P w = .ok (if Program.isAggT P t then .agg vals.toArray else vals.getD 0 undef) w := by
  have hcells := run_cellsFrom (P := P) w ad vals 0 #[] (fun q v hq => by simpa using hc q v hq)
  rw [hl] at hcells
  have hag : ((isAgg t).run P w : Result Bool) = .ok (Program.isAggT P t) w := by
    simp only [isAgg, Sem.run_bind, run_underlying hd, Result.andThen_ok, Program.isAggT, hd]
    cases d <;> rfl
  have hsz : (sizeOf t).run P w = .ok i.size w := by simp [sizeOf, typeInfo, hi]
  simp only [loadVar, Sem.run_bind, hag, Result.andThen_ok]
  cases hb : Program.isAggT P t with
  | true => simp [hsz, loadCells, hcells, Result.andThen_ok]
  | false =>
    have h1' : i.size = 1 := by simpa [hb] using h1
    match vals, hl.trans h1' with
    | [v], _ =>
      have := hc 0 v rfl
      simp only [Addr.add_zero'] at this
      simp [load, Sem.run, this]

theorem Rep.ofCells {X : RX} (agg : Bool) {cs : List AV} {vs : List Value} (h : RepL X cs vs) (h1 : agg = true ∨ cs.length = 1) : Rep X (ofCells agg cs) (if agg then .agg vs.toArray else vs.getD 0 undef) := by
  cases agg with
  | true => simp only [VV.ofCells, if_true]; exact .ag cs vs h.1 h.2
  | false =>
    simp only [VV.ofCells, Bool.false_eq_true, if_false]
    have h1' : cs.length = 1 := by simpa using h1
    match cs, vs, h1', h.1, h.2 with
    | [c], [v], _, _, h2 => exact h2 0 c v rfl rfl
theorem RepL.ofCells' {X : RX} {cs : List AV} {vs : List Value} (h : RepL X cs vs) (agg : Bool) (h1 : agg = true ∨ cs.length = 1) : Rep X (VV.ofCells agg cs) (if agg then .agg vs.toArray else vs.getD 0 undef) := Rep.ofCells agg h h1
theorem RepL.sub {X : RX} {l : List AV} {vs : List Value} (h : RepL X l vs) (off n : Nat) (hn : off + n ≤ l.length) : RepL X ((l.drop off).take n) ((vs.drop off).take n) ∧ ((l.drop off).take n).length = n := by
  refine ⟨⟨by simp [h.1], fun i a v ha hv => ?_⟩, by simp only [List.length_take, List.length_drop, List.length_map, List.length_range]; omega⟩
  rw [List.getElem?_take] at ha hv
  split at ha
  · rename_i hlt
    rw [if_pos hlt] at hv
    rw [List.getElem?_drop] at ha hv
    exact h.2 _ _ _ ha hv
  · cases ha

/-- A pointer's cells. -/
theorem ptr_cells {G : Gl} {E : Env} {X : RX} {a : Act} (hs : Sat G E X a) {b off n : Nat} {B : Bx} (hb : E.boxes.lookup b = some B) (hn : off + n ≤ B.c.length) :
    ∃ vals : List Value, vals.length = n ∧ (∀ q v, vals[q]? = some v → X.w.cell? ((⟨X.β b, off, none⟩ : Addr).add q) = some v) ∧ RepL X ((B.c.drop off).take n) vals ∧ ((B.c.drop off).take n).length = n := by
  obtain ⟨vs, hh, hr⟩ := (hs.inv.box b B hb).cells
  have h2 := hr.sub off n hn
  refine ⟨(vs.drop off).take n, by rw [h2.1.1, h2.2], fun q v hq => ?_, h2.1, h2.2⟩
  rw [List.getElem?_take] at hq
  split at hq
  · rw [List.getElem?_drop] at hq
    rw [add_blk]
    simp only [World.cell?, hh]
    simpa using hq
  · cases hq
theorem getD_get {α : Type} {l : List α} {j : Nat} {d : α} (h : j < l.length) : l[j]? = some (l.getD j d) := by
  rw [List.getD_eq_getElem?_getD, List.getElem?_eq_getElem h]; rfl
theorem sl_cells {X : RX} {s m : Nat} {f : Nat → AV} {ad : Addr} {c j off n : Nat} (h : Rep X (.sl s m f) (.slice (some ad) m c)) (hj : j < m) (hn : off + n ≤ (f j).cells.length) :
    ∃ vals : List Value, vals.length = n ∧ (∀ q v, vals[q]? = some v → X.w.cell? ((ad.add (j * s + off)).add q) = some v) ∧ RepL X (((f j).cells.drop off).take n) vals ∧ (((f j).cells.drop off).take n).length = n := by
  cases h with
  | sl _ _ _ _ _ val hl hm hp h0 h1 h3 h2 =>
    obtain ⟨ad', e, hF, hc⟩ := h0 (by omega)
    injection e with e
    subst e
    have hlen : (((f j).cells.drop off).take n).length = n := by simp only [List.length_take, List.length_drop, List.length_map, List.length_range]; omega
    have hq : ∀ q, q < n → ∃ c, (f j).cells[off + q]? = some c := fun q hq => ⟨_, List.getElem?_eq_getElem (by omega)⟩
    refine ⟨(List.range n).map fun q => val j (off + q), by simp, fun q v hv => ?_, ⟨by simp only [List.length_take, List.length_drop, List.length_map, List.length_range]; omega, fun i a v ha hv => ?_⟩, hlen⟩
    · have hqn : q < n := by
        rcases Nat.lt_or_ge q n with h | h
        · exact h
        · simp [h] at hv
      obtain ⟨c', hc'⟩ := hq q hqn
      simp [hqn] at hv
      subst hv
      rw [add_add, Nat.add_assoc]
      exact hc j (off + q) c' hj hc'
    · rw [List.getElem?_take] at ha
      split at ha
      · rename_i hin
        rw [List.getElem?_drop] at ha
        simp [hin] at hv
        subst hv
        exact h2 j (off + i) a hj ha
      · cases ha
theorem own_form {w : World} {e : TypeId} {s : Nat} {v : Value} {n : Nat} {xs : List Value} {ad : Addr} {m c : Nat} (h : w.ownsRow 0 e s v n xs) (hv : v = .slice (some ad) m c) : ∃ g, ad = ⟨g, 0, none⟩ ∧ m = n ∧ v.ownBlock = some g := by
  rcases h.2 with ⟨h1, _⟩ | ⟨g, cap, cur, h1, _⟩
  · rw [h1] at hv; cases hv
  · rw [h1] at hv
    injection hv with h2 h3 h4
    injection h2 with h2
    exact ⟨g, h2.symm, h3.symm, by rw [h1]; rfl⟩
theorem row_cells {G : Gl} {E : Env} {X : RX} {a : Act} (hs : Sat G E X a) {i : Nat} {R : Row} {ad : Addr} {m c j off n : Nat} (hr : E.rows.lookup i = some R) (hk : X.κ i = .slice (some ad) m c) (hj : j < R.l.length)
    (hn : off + n ≤ (R.l.getD j .top).cells.length) :
    ∃ vals : List Value, vals.length = n ∧ (∀ q v, vals[q]? = some v → X.w.cell? ((ad.add (j * R.s + off)).add q) = some v) ∧ RepL X (((R.l.getD j .top).cells.drop off).take n) vals ∧ (((R.l.getD j .top).cells.drop off).take n).length = n := by
  obtain ⟨xs, ho, hE, _⟩ := (hs.inv.row i R hr).rep
  obtain ⟨g, rfl, rfl, hob⟩ := own_form ho hk
  have hg := getD_get (d := AV.top) hj
  have hcl := hE.2.1 j _ hg
  have hlen : (((R.l.getD j .top).cells.drop off).take n).length = n := by simp only [List.length_take, List.length_drop, List.length_map, List.length_range]; omega
  have hxl := ho.1
  have hbound : j * R.s + R.s ≤ xs.length := by
    rw [hxl]
    calc j * R.s + R.s = (j + 1) * R.s := by rw [Nat.succ_mul]
      _ ≤ R.l.length * R.s := Nat.mul_le_mul_right _ hj
  have hget : ∀ q, q < n → ∃ v, xs[j * R.s + (off + q)]? = some v := fun q hq => ⟨_, List.getElem?_eq_getElem (by omega)⟩
  refine ⟨(xs.drop (j * R.s + off)).take n, by simp only [List.length_take, List.length_drop, List.length_map, List.length_range]; omega, fun q v hv => ?_, ⟨by simp only [List.length_take, List.length_drop, List.length_map, List.length_range]; omega, fun k a v ha hv => ?_⟩, hlen⟩
  · rw [List.getElem?_take] at hv
    split at hv
    · rw [List.getElem?_drop] at hv
      rw [add_add]
      exact ho.cells hob _ _ hv
    · cases hv
  · rw [List.getElem?_take] at ha hv
    split at ha
    · rename_i hin
      rw [if_pos hin] at hv
      rw [List.getElem?_drop] at ha hv
      exact hE.2.2 j _ (off + k) a v hg ha (by rwa [← Nat.add_assoc])
    · cases ha


theorem Rep.bool_inv {X : RX} {b : Bool} {v : Value} (h : Rep X (.bool b) v) : v = .bool b := by cases h; rfl
theorem Rep.int_inv {X : RX} {k : IntKind} {n : Int} {v : Value} (h : Rep X (.int k n) v) : v = .int k n := by cases h; rfl
theorem Rep.ptr_inv {X : RX} {b o : Nat} {v : Value} (h : Rep X (.ptr b o) v) : v = .pointer (some ⟨X.β b, o, none⟩) ∧ b < X.n := by cases h; exact ⟨rfl, ‹_›⟩
theorem Rep.sl_inv {X : RX} {s n : Nat} {f : Nat → AV} {v : Value} (h : Rep X (.sl s n f) v) : ∃ A c, v = .slice A n c ∧ n ≤ c ∧ n ≤ 9223372036854775807 ∧ (0 < n → ∃ ad, A = some ad ∧ X.F ad.block) := by
  cases h with
  | sl _ _ _ A c val hl hm hp h0 h1 h3 h2 => exact ⟨A, c, rfl, hl, hm, fun h => let ⟨ad, e, hF, _⟩ := h0 h; ⟨ad, e, hF⟩⟩

/-- An element's address. -/
theorem Rep.ept_inv {X : RX} {x : AV} {s j off : Nat} {v : Value} (h : Rep X (.ept x s j off) v) : ∃ ad : Addr, v = .pointer (some (ad.add (j * s + off))) ∧
    ((∃ m f c, x = .sl s m f ∧ Rep X (.sl s m f) (.slice (some ad) m c) ∧ j < m) ∨ (∃ i n c, x = .own i ∧ i < X.n ∧ X.κ i = .slice (some ad) n c ∧ j < n)) := by
  cases h with
  | eptS _ m f _ _ ad c h hj => exact ⟨ad, rfl, .inl ⟨m, f, c, rfl, h, hj⟩⟩
  | eptO i _ _ _ ad n c hi hk hj => exact ⟨ad, rfl, .inr ⟨i, n, c, rfl, hi, hk, hj⟩⟩

theorem AV.un_of {p : Prop} {k : AV → Prop} {a : AV} (h : a.un p k) : ∃ a', k a' ∧ ∀ X v, Rep X a v → p → Rep X a' v := by
  obtain ⟨a', hk, hr⟩ := AV.un_spec h
  exact ⟨a', hk, fun X v h hp => hr hp X v h⟩

theorem binA_sound {P : Program} {bo : Bool} {op : BinOp} {t : TypeId} {xo yo : Operand} {x y : AV} {c : Prop} {r : AV} (h : binA bo op x y = some (c, r)) (hb : bo = true → P.underlying t = some .bool) (hc : c) {X : RX} {vx vy : Value} (hx : Rep X x vx) (hy : Rep X y vy) (w : World) :
    ∃ v, ((do eqGuard op t xo yo vx vy; binOp op t vx vy : Sem Value)).run P w = .ok v w ∧ Rep X r v := by
  unfold binA at h
  split at h
  · rename_i k a k' b
    cases hx.int_inv
    cases hy.int_inv
    have hg : eqGuard op t xo yo (.int k a) (.int k' b) = pure () := eqGuard_at_int _ _ _ _ _ _ _
    simp only [hg, Sem.run_bind, Sem.run_pure, Result.andThen_ok]
    cases op <;> simp only [reduceCtorEq] at h
    case shl =>
      simp only [Option.some.injEq, Prod.mk.injEq] at h
      obtain ⟨rfl, rfl⟩ := h
      rw [binOp_shl, shift_shl k k' a b hc.1 hc.2]
      exact ⟨_, rfl, .int _ _⟩
    case shr =>
      simp only [Option.some.injEq, Prod.mk.injEq] at h
      obtain ⟨rfl, rfl⟩ := h
      rw [binOp_shr, shift_shr k k' a b hc.1 hc.2]
      exact ⟨_, rfl, .int _ _⟩
    all_goals
      split at h
      · rename_i hk
        subst hk
        first
          | (simp only [Option.some.injEq, Prod.mk.injEq] at h
             obtain ⟨rfl, rfl⟩ := h
             first
               | (refine ⟨_, ?_, .int _ _⟩; simp [binOp, Op.intArith]; done)
               | (refine ⟨_, ?_, .int _ _⟩; simp [binOp, Op.intDiv, hc]; done)
               | (refine ⟨_, ?_, .int _ _⟩; simp [binOp_and, binOp_or, binOp_xor, intBits_and, intBits_or, intBits_xor]; done))
          | (simp only [cmpI, Option.map_some, Option.map_none, Option.some.injEq, Prod.mk.injEq, reduceCtorEq] at h
             obtain ⟨rfl, rfl⟩ := h
             refine ⟨_, ?_, .bool _⟩
             simp [binOp, Op.intCmp]; done)
          | (simp [cmpI] at h; done)
      · cases h
  · rename_i a b
    cases hx.bool_inv
    cases hy.bool_inv
    have hg : eqGuard op t xo yo (.bool a) (.bool b) = pure () := eqGuard_at_bool _ _ _ _ _ _
    simp only [hg, Sem.run_bind, Sem.run_pure, Result.andThen_ok]
    split at h
    · rename_i hbo
      have he := run_equal_bool (P := P) w t a b (hb hbo)
      cases op <;> simp only [reduceCtorEq, Option.some.injEq, Prod.mk.injEq] at h <;> obtain ⟨rfl, rfl⟩ := h <;> refine ⟨_, ?_, .bool _⟩
      · show ((do pure (.bool (← Op.equal t (.bool a) (.bool b))) : Sem Value)).run P w = _
        simp only [Sem.run_bind, he, Result.andThen_ok, Sem.run_pure]
      · show ((do pure (.bool (!(← Op.equal t (.bool a) (.bool b)))) : Sem Value)).run P w = _
        simp only [Sem.run_bind, he, Result.andThen_ok, Sem.run_pure]
        rfl
    · cases h
  · cases h

theorem binA_det {bo : Bool} {op : BinOp} {x y : AV} {c : Prop} {r : AV} (h : binA bo op x y = some (c, r)) {X : RX} {v v' : Value} (hv : Rep X r v) (hv' : Rep X r v') : v = v' := by
  have key : (∃ k n, r = .int k n) ∨ ∃ b, r = .bool b := by
    unfold binA at h
    split at h
    · cases op <;> simp only [reduceCtorEq] at h
      case shl => simp only [Option.some.injEq, Prod.mk.injEq] at h; exact .inl ⟨_, _, h.2.symm⟩
      case shr => simp only [Option.some.injEq, Prod.mk.injEq] at h; exact .inl ⟨_, _, h.2.symm⟩
      all_goals
        split at h
        · first
          | (simp only [Option.some.injEq, Prod.mk.injEq] at h; exact .inl ⟨_, _, h.2.symm⟩)
          | (simp only [cmpI, Option.map_some, Option.some.injEq, Prod.mk.injEq] at h; exact .inr ⟨_, h.2.symm⟩)
          | (simp [cmpI] at h; done)
        · cases h
    · split at h
      · cases op <;> simp only [reduceCtorEq, Option.some.injEq, Prod.mk.injEq] at h
        all_goals exact .inr ⟨_, h.2.symm⟩
      · cases h
    · cases h
  rcases key with ⟨k, n, rfl⟩ | ⟨b, rfl⟩
  · rw [hv.int_inv, hv'.int_inv]
  · rw [hv.bool_inv, hv'.bool_inv]
theorem eqI_int {ks : List Bool} {l l' : List AV} {b : Bool} (h : eqI (true :: ks) l l' = some b) : ∃ k a r a' r' q, l = .int k a :: r ∧ l' = .int k a' :: r' ∧ eqI ks r r' = some q ∧ b = (a == a' && q) := by
  match l, l', h with
  | .int k a :: r, .int k' a' :: r', h =>
    simp only [eqI] at h
    split at h
    · rename_i e
      subst e
      simp only [Option.map_eq_some_iff] at h
      obtain ⟨q, h1, h2⟩ := h
      exact ⟨k, a, r, a', r', q, rfl, rfl, h1, h2.symm⟩
    · cases h
theorem eqI_bool {ks : List Bool} {l l' : List AV} {b : Bool} (h : eqI (false :: ks) l l' = some b) : ∃ a r a' r' q, l = .bool a :: r ∧ l' = .bool a' :: r' ∧ eqI ks r r' = some q ∧ b = (a == a' && q) := by
  match l, l', h with
  | .bool a :: r, .bool a' :: r', h =>
    simp only [eqI, Option.map_eq_some_iff] at h
    obtain ⟨q, h1, h2⟩ := h
    exact ⟨a, r, a', r', q, rfl, rfl, h1, h2.symm⟩
theorem run_eqFields_ks {P : Program} {X : RX} (d : Nat) (w : World) (xs ys : Array Value) : ∀ (fs : List Field) (i : Nat) (ks : List Bool) (l l' : List AV) (b : Bool), eqKs P i fs = some ks → eqI ks l l' = some b →
    (∀ (j : Nat) (a : AV), l[j]? = some a → ∃ v, xs[i + j]? = some v ∧ Rep X a v) → (∀ (j : Nat) (a : AV), l'[j]? = some a → ∃ v, ys[i + j]? = some v ∧ Rep X a v) →
    (Op.eqFields (d + 1) xs ys fs).run P w = .ok b w
  | [], i, ks, l, l', b, h1, h2, _, _ => by
    simp only [eqKs, Option.some.injEq] at h1
    subst h1
    unfold eqI at h2
    split at h2 <;> simp_all [Op.eqFields]
  | f :: fs, i, ks, l, l', b, h1, h2, hx, hy => by
    simp only [eqKs] at h1
    split at h1
    · rename_i hf
      have step : ∀ (c : Bool) (ks' : List Bool) (a a' : AV) (r r' : List AV) (q : Bool), l = a :: r → l' = a' :: r' → eqKs P (i + 1) fs = some ks' → eqI ks' r r' = some q → P.plainKey f.type = true →
          (∀ v v', Rep X a v → Rep X a' v' → (Op.equalIn (d + 1) f.type v v').run P w = .ok c w) → (Op.eqFields (d + 1) xs ys (f :: fs)).run P w = .ok (c && q) w := by
        intro c ks' a a' r r' q e1 e2 hk hq hp he
        subst e1 e2
        obtain ⟨v, hv, hr⟩ := hx 0 a rfl
        obtain ⟨v', hv', hr'⟩ := hy 0 a' rfl
        have p1 := run_part_plain w hp (xs := xs) (off := f.offset) (v := v) (by rw [hf.2]; exact hv)
        have p2 := run_part_plain w hp (xs := ys) (off := f.offset) (v := v') (by rw [hf.2]; exact hv')
        have ih := run_eqFields_ks d w xs ys fs (i + 1) ks' r r' q hk hq (fun j b hb => by
          obtain ⟨u, h1, h2⟩ := hx (j + 1) b (by simpa using hb)
          exact ⟨u, by rw [← h1]; congr 1; omega, h2⟩) (fun j b hb => by
          obtain ⟨u, h1, h2⟩ := hy (j + 1) b (by simpa using hb)
          exact ⟨u, by rw [← h1]; congr 1; omega, h2⟩)
        simp only [Op.eqFields, hf.1, ne_eq, not_false_eq_true, if_true, Sem.run_bind, p1, p2, he v v' hr hr', Result.andThen_ok, ih]
        cases c <;> simp [ih]
      split at h1
      · rename_i k hu
        simp only [Option.map_eq_some_iff] at h1
        obtain ⟨ks', hk, rfl⟩ := h1
        obtain ⟨ka, a, r, a', r', q, rfl, rfl, hq, rfl⟩ := eqI_int h2
        refine step _ _ _ _ _ _ q rfl rfl hk hq (by simp [Program.plainKey, hu]) (fun v v' hr hr' => ?_)
        rw [hr.int_inv, hr'.int_inv]
        simp [Op.equalIn, run_underlying hu]
      · rename_i hu
        simp only [Option.map_eq_some_iff] at h1
        obtain ⟨ks', hk, rfl⟩ := h1
        obtain ⟨a, r, a', r', q, rfl, rfl, hq, rfl⟩ := eqI_bool h2
        refine step _ _ _ _ _ _ q rfl rfl hk hq (by simp [Program.plainKey, hu]) (fun v v' hr hr' => ?_)
        rw [hr.bool_inv, hr'.bool_inv]
        exact run_equalIn_bool w d f.type _ _ hu
      · cases h1
    · cases h1
theorem run_value {P : Program} {s : Sem Value} {w w' : World} {v : Value} (h : s.run P w = .ok v w') : ((do pure (.value (← s)) : Sem Next)).run P w = .ok (.value v) w' := by
  simp only [Sem.run_bind, h, Result.andThen_ok, Sem.run_pure]

theorem compO_bind {α : Type} {x : Operand} {f : Opn → Option α} {r : α} (h : (compO x).bind f = some r) : ∃ x', compO x = some x' ∧ f x' = some r := by
  cases hx : compO x with
  | none => simp [hx] at h
  | some x' => exact ⟨x', rfl, by simpa [hx] using h⟩

theorem splice_get {α : Type} (xs news : List α) (p k : Nat) (hk : news.length = k) (hp : p + k ≤ xs.length) (m : Nat) :
    (xs.take p ++ news ++ xs.drop (p + k))[m]? = if m < p then xs[m]? else if m < p + k then news[m - p]? else xs[m]? := by
  by_cases h1 : m < p
  · rw [if_pos h1, List.append_assoc, List.getElem?_append_left (by rw [List.length_take]; omega), List.getElem?_take, if_pos h1]
  · rw [if_neg h1]
    by_cases h2 : m < p + k
    · rw [if_pos h2, List.getElem?_append_left (by rw [List.length_append, List.length_take]; omega), List.getElem?_append_right (by rw [List.length_take]; omega), List.length_take, Nat.min_eq_left (by omega)]
    · rw [if_neg h2, List.getElem?_append_right (by rw [List.length_append, List.length_take]; omega), List.length_append, List.length_take, Nat.min_eq_left (by omega), List.getElem?_drop]
      congr 1
      omega
section
variable {P : Program} {G : Gl} {E : Env} {X : RX} {a : Act}
theorem ofV_rep {X : RX} {v : Value} {b : AV} (h : ofV v = some b) : Rep X b v := by
  unfold ofV at h
  split at h <;> simp only [Option.some.injEq, reduceCtorEq] at h <;> subst h
  · exact .int _ _
  · exact .bool _
  · exact .str _
  · exact .nils
  · exact .top _
theorem RepL.nil {X : RX} : RepL X [] [] := ⟨rfl, fun i a v ha => by simp at ha⟩
theorem RepL.cons {X : RX} {b : AV} {v : Value} {l : List AV} {vs : List Value} (h : Rep X b v) (ht : RepL X l vs) : RepL X (b :: l) (v :: vs) := by
  refine ⟨by simp [ht.1], fun i c u hc hu => ?_⟩
  cases i with
  | zero => simp at hc hu; subst hc hu; exact h
  | succ i => simp at hc hu; exact ht.2 i c u hc hu
theorem compZ_rep {X : RX} : ∀ {vs : List Value} {l : List AV}, compZ vs = some l → RepL X l vs
  | [], l, h => by simp only [compZ, Option.some.injEq] at h; subst h; exact .nil
  | v :: r, l, h => by
    simp only [compZ] at h
    cases h1 : ofV v with
    | none => simp [h1] at h
    | some b =>
      cases h2 : compZ r with
      | none => simp [h1, h2] at h
      | some t =>
        simp only [h1, h2, Option.some.injEq] at h
        subst h
        exact .cons (ofV_rep h1) (compZ_rep h2)
theorem zeroA_spec {t : TypeId} {z : List AV} (h : zeroA P t = some z) : ∃ i zv, P.info? t = some i ∧ i.zero = some zv ∧ ∀ X, RepL X z zv.cells.toList := by
  unfold zeroA at h
  cases h1 : P.info? t with
  | none => simp [h1] at h
  | some i =>
    cases h2 : i.zero with
    | none => simp [h1, h2] at h
    | some zv => simp only [h1, h2] at h; exact ⟨i, zv, rfl, h2, fun X => compZ_rep h⟩

theorem fillA_sound {X : RX} (place : Nat → Option (Nat × Nat)) : ∀ (ps : List (Nat × Value)) (qs : List (Nat × Nat × AV)) (cells : Array Value) (z r : List AV), RepL X z cells.toList → qs.length = ps.length →
    (∀ (k : Nat) (p : Nat × Value) (q : Nat × Nat × AV), ps[k]? = some p → qs[k]? = some q → place p.1 = some (q.1, q.2.1) ∧ RepL X q.2.2.cells p.2.cells.toList) → fillA z qs = some r →
    ∃ cs, Instr.fill place cells ps = some cs ∧ RepL X r cs.toList := by
  intro ps
  induction ps with
  | nil =>
    intro qs cells z r hz hl _ hf
    match qs, hl with
    | [], _ => simp only [fillA, Option.some.injEq] at hf; subst hf; exact ⟨cells, rfl, hz⟩
  | cons p ps ih =>
    intro qs cells z r hz hl hp hf
    match qs, hl with
    | (off, n, b) :: qs, hl =>
      obtain ⟨i, v⟩ := p
      obtain ⟨h1, h2⟩ := hp 0 (i, v) (off, n, b) rfl rfl
      simp only [fillA] at hf
      split at hf
      · rename_i hc
        have hlen : v.cells.toList.length = n := by rw [h2.1, hc.1]
        have hzl := hz.1
        simp only [Instr.fill, h1]
        have hnn : ¬ (v.cells.size ≠ n ∨ off + v.cells.size > cells.size) := by
          simp only [Array.length_toList] at hlen hzl
          omega
        rw [if_neg (show ¬ ((decide (v.cells.size ≠ n) || decide (off + v.cells.size > cells.size)) = true) by simpa using hnn)]
        have hfold := Great.foldl_set off v.cells.toList 0 cells
        refine ih qs _ (z.take off ++ b.cells ++ z.drop (off + n)) r ?_ (by simpa using hl) (fun k p q hp' hq' => hp (k + 1) p q hp' hq') hf
        rw [← Array.foldl_toList, Array.toList_zipIdx]
        refine ⟨?_, fun k c u hk hu => ?_⟩
        · rw [Array.length_toList, hfold.1]
          simp only [List.length_append, List.length_take, List.length_drop, hc.1]
          simp only [Array.length_toList] at hzl
          omega
        · rw [Array.getElem?_toList, hfold.2 k] at hu
          rw [splice_get z b.cells off n hc.1 hc.2] at hk
          simp only [Nat.add_zero] at hu
          simp only [Array.length_toList] at hzl hlen
          by_cases c1 : k < off
          · rw [if_pos c1] at hk
            rw [if_neg (by omega)] at hu
            exact hz.2 k c u hk (by simpa using hu)
          · rw [if_neg c1] at hk
            by_cases c2 : k < off + n
            · rw [if_pos c2] at hk
              rw [if_pos ⟨by omega, by simp only [Array.length_toList]; omega, by omega⟩] at hu
              exact h2.2 (k - off) c u hk hu
            · rw [if_neg c2] at hk
              rw [if_neg (by simp only [Array.length_toList]; omega)] at hu
              exact hz.2 k c u hk (by simpa using hu)
      · cases hf

theorem compL_rep (hs : Sat G E X a) : ∀ (xs : List Operand) (l : List Opn), compL xs = some l → RepL X (l.map E.opd) (xs.map a.eval)
  | [], l, h => by simp only [compL, Option.some.injEq] at h; subst h; exact .nil
  | x :: r, l, h => by
    simp only [compL] at h
    cases h2 : compO x with
    | none => simp [h2] at h
    | some x' =>
      cases h3 : compL r with
      | none => simp [h2, h3] at h
      | some r' =>
        simp only [h2, h3, Option.some.injEq] at h
        subst h
        exact .cons (opd_rep hs h2) (compL_rep hs r r' h3)

theorem Rep.cells {X : RX} {av : AV} {v : Value} (h : Rep X av v) (hk : av.known = true) : RepL X av.cells v.cells.toList := by
  cases h <;> simp [AV.known] at hk
  case ag l vs hl hh => exact ⟨by simpa [AV.cells, Value.cells] using hl, by simpa [AV.cells, Value.cells] using hh⟩
  case nils => exact ⟨rfl, fun i a v ha hv => by cases i <;> simp [AV.cells, Value.cells] at ha hv; subst ha hv; exact .nils⟩
  case int k n => exact ⟨rfl, fun i a v ha hv => by cases i <;> simp [AV.cells, Value.cells] at ha hv; subst ha hv; exact .int k n⟩
  case bool b => exact ⟨rfl, fun i a v ha hv => by cases i <;> simp [AV.cells, Value.cells] at ha hv; subst ha hv; exact .bool b⟩
  case str s => exact ⟨rfl, fun i a v ha hv => by cases i <;> simp [AV.cells, Value.cells] at ha hv; subst ha hv; exact .str s⟩
  case sl s m f A c val hl hm hp h0 h1 h3 h2 => exact ⟨rfl, fun i a v ha hv => by cases i <;> simp [AV.cells, Value.cells] at ha hv; subst ha hv; exact .sl s m f A c val hl hm hp h0 h1 h3 h2⟩
  case fn f l vs hl hh => exact ⟨rfl, fun i a v ha hv => by cases i <;> simp [AV.cells, Value.cells] at ha hv; subst ha hv; exact .fn f l vs hl hh⟩
  case own i hi ho =>
    have hone : (X.κ i).cells.toList = [X.κ i] := by
      generalize X.κ i = u at ho
      cases u <;> first | rfl | (simp [Value.oneCell'] at ho)
    rw [hone]
    exact ⟨rfl, fun k a v ha hv => by cases k <;> simp [AV.cells] at ha hv; subst ha hv; exact .own i hi ho⟩
  case ptr b o hb => exact ⟨rfl, fun i a v ha hv => by cases i <;> simp [AV.cells, Value.cells] at ha hv; subst ha hv; exact .ptr b o hb⟩

end
end Go.VV
