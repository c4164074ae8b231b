/- copy into an own row; make. -/
import Derived.Test.YtfgipdfdilafnaaV14
import Derived.Laws.CopyRow
import Derived.Laws.MakeOwn
set_option linter.unusedSimpArgs false
set_option linter.unusedVariables false
namespace Go.VV
open Go.RowKit
section
variable {P : Program} {G : Gl} {E : Env} {X : RX} {a : Act} {o : Oper} {mt : Mt} {K : Env → AV → Prop}

theorem RepE.take {X : RX} {l : List AV} {xs : List Value} (h : RepE X 1 l xs) (k : Nat) : RepE X 1 (l.take k) (xs.take k) := by
  refine ⟨(AV.pureL_iff _).2 fun a ha => (AV.pureL_iff _).1 h.1 a (List.mem_of_mem_take ha), fun j a hj => h.2.1 j a ?_, fun j a i q v hj hi hv => h.2.2 j a i q v ?_ hi ?_⟩
  · rw [List.getElem?_take] at hj; split at hj; exact hj; cases hj
  · rw [List.getElem?_take] at hj; split at hj; exact hj; cases hj
  · rw [List.getElem?_take] at hv; split at hv; exact hv; cases hv
theorem RepE.drop {X : RX} {l : List AV} {xs : List Value} (h : RepE X 1 l xs) (k : Nat) : RepE X 1 (l.drop k) (xs.drop k) := by
  refine ⟨(AV.pureL_iff _).2 fun a ha => (AV.pureL_iff _).1 h.1 a (List.mem_of_mem_drop ha), fun j a hj => h.2.1 (k + j) a ?_, fun j a i q v hj hi hv => h.2.2 (k + j) a i q v ?_ hi ?_⟩
  · rw [List.getElem?_drop] at hj; exact hj
  · rw [List.getElem?_drop] at hj; exact hj
  · rw [List.getElem?_drop] at hv; rw [← hv]; congr 1; omega

theorem Inv.setSpan (h : Inv G X E.rows E.boxes) {i : Nat} {R : Row} (hi : E.rows.lookup i = some R) (hs1 : R.s = 1) {ad : Addr} {m cp : Nat} (hk : X.κ i = .slice (some ad) m cp) {p : Nat} {cs : List AV} {news : List Value} (hcs : RepE X 1 cs news) (hnl : news.length = cs.length)
    (hn : p + cs.length ≤ R.l.length) (h1 : ∀ u ∈ news, u.oneCell' = true) :
    ∃ g cur, ad = ⟨g, 0, none⟩ ∧ X.w.heap[g]? = some (.cells cur R.e (0, 0)) ∧ p + news.length ≤ cur.size ∧
      Inv G { X with w := X.w.setRow g (cur.toList.take p ++ news ++ cur.toList.drop (p + news.length)).toArray } (repl i { R with l := R.l.take p ++ cs ++ R.l.drop (p + cs.length) } E.rows) E.boxes := by
  have hro := h.row i R hi
  obtain ⟨xs, ho, hE, hone⟩ := hro.rep
  rcases ho.2 with ⟨e, _⟩ | ⟨g, cap, cur, e, hb0, hg, hc1, hc2, hc3, hc4⟩
  · rw [hk] at e; cases e
  have e' := hk.symm.trans e
  injection e' with e1 e2 e3
  injection e1 with e1
  have hob : (X.κ i).ownBlock = some g := by rw [e]; rfl
  have hgF := (hro.blk g hob).1
  have hxl := ho.1
  rw [hs1, Nat.mul_one] at hxl hc4 hc3
  rw [hs1] at hE
  have hxcur : xs.length ≤ cur.size := by rw [← hc4]; simp only [List.length_take, Array.length_toList]; omega
  refine ⟨g, cur, e1, hg, by omega, ?_⟩
  have hle := le_setRow X g (cur.toList.take p ++ news ++ cur.toList.drop (p + news.length)).toArray hgF
  have hoth : ∀ (cs : Array Value) k, k ≠ g → (X.w.setRow g cs).heap[k]? = X.w.heap[k]? := fun cs k hk => setRow_other X.w _ k _ hk
  have hsome : (E.rows.lookup i).isSome = true := by rw [hi]; rfl
  have hlk : ∀ (R1 : Row) i' R', (repl i R1 E.rows).lookup i' = some R' → ∃ R0, E.rows.lookup i' = some R0 := by
    intro R1 i' R' h'
    rw [lookup_repl _ _ _ _ hsome] at h'
    split at h'
    · rename_i e; subst e; exact ⟨R, hi⟩
    · exact ⟨R', h'⟩
  have hll : (R.l.take p ++ cs ++ R.l.drop (p + cs.length)).length = R.l.length := by simp only [List.length_append, List.length_take, List.length_drop]; omega
  refine ⟨h.fr.trans rfl rfl rfl (by simp) (fun k _ hm => hoth _ k (fun e => hm (e ▸ (hro.blk g hob).2))), fun k hk => by simpa using h.Flt k hk, h.Fold, h.Fnew, ?_, ?_, h.bb, ?_, ?_⟩
  · intro b B hb
    exact (h.box b B hb).up hle (h.box b B hb).nf (hoth _ _ (fun e => h.br b i B R hb hi (e ▸ hob)))
  · intro i' R' hi'
    rw [lookup_repl _ _ _ _ hsome] at hi'
    split at hi'
    · rename_i ee
      subst ee
      cases hi'
      refine ⟨hro.lt, hro.blk, xs.take p ++ news ++ xs.drop (p + news.length), ⟨?_, .inr ⟨g, cap, _, by rw [hll]; exact e, hb0, setRow_heap X.w _ _ _ _ _ hg, by rw [hll]; exact hc1, hc2, ?_, ?_⟩⟩, ?_, ?_⟩
      · rw [hll, hs1, Nat.mul_one]; simp only [List.length_append, List.length_take, List.length_drop]; omega
      · rw [hs1, Nat.mul_one]; simp only [List.size_toArray, List.length_append, List.length_take, List.length_drop, Array.length_toList]; omega
      · rw [hll, hs1, Nat.mul_one]
        have hs := splice_take cur.toList news p R.l.length (by rw [hc4]; omega) (by simp only [Array.length_toList]; omega)
        rw [hc4] at hs
        simpa using hs
      · rw [hs1]
        have r1 := (hE.take p).append (by rw [List.length_take, List.length_take, Nat.mul_one]; omega) hcs
        have r2 := r1.append (by simp only [List.length_append, List.length_take]; omega) (hE.drop (p + cs.length))
        have e4 : xs.drop (p + news.length) = xs.drop (p + cs.length) := by rw [hnl]
        rw [e4]
        exact r2.up hle
      · intro u hu
        simp only [List.mem_append] at hu
        rcases hu with (hu | hu) | hu
        · exact hone u (List.mem_of_mem_take hu)
        · exact h1 u hu
        · exact hone u (List.mem_of_mem_drop hu)
    · rename_i ee
      exact (h.row i' R' hi').up hle (fun h => h) (fun g' hg' => ⟨((h.row i' R' hi').blk g' hg').1, hoth _ _ (fun e => h.rr i i' R R' hi hi' (Ne.symm ee) g hob (e ▸ hg'))⟩)
  · intro i1 i2 R1 R2 h1 h2 hne
    obtain ⟨R1', h1'⟩ := hlk _ i1 R1 h1
    obtain ⟨R2', h2'⟩ := hlk _ i2 R2 h2
    exact h.rr i1 i2 R1' R2' h1' h2' hne
  · intro b i1 B R1 hb h1
    obtain ⟨R1', h1'⟩ := hlk _ i1 R1 h1
    exact h.br b i1 B R1' hb h1'

theorem els1_spec (hi : Inv G X E.rows E.boxes) {y : AV} {v : Value} (hv : Rep X y v) {l : List AV} (h : E.els1 y = some l) (h0 : 0 < l.length) :
    ∃ news ad c, v = .slice (some ad) l.length c ∧ news.length = l.length ∧ (∀ j u, news[j]? = some u → X.w.cell? (ad.add j) = some u) ∧ RepE X 1 l news ∧ ∀ u ∈ news, u.oneCell' = true := by
  have gen : ∀ y, E.els 1 y = some (1, l) → Rep X y v → ∃ news ad c, v = .slice (some ad) l.length c ∧ news.length = l.length ∧ (∀ j u, news[j]? = some u → X.w.cell? (ad.add j) = some u) ∧ RepE X 1 l news ∧ ∀ u ∈ news, u.oneCell' = true := by
    intro y h hv
    obtain ⟨news, A, c, h1, h2, h3, h4, h5, h6⟩ := els_spec hi hv h
    cases A with
    | none => rw [h3 rfl] at h0; simp at h0
    | some ad => exact ⟨news, ad, c, h1, by omega, h4 ad rfl, h5, h6⟩
  cases y with
  | osl i s o n =>
    simp only [Env.els1] at h
    cases hR : E.rows.lookup i with
    | none => simp [hR] at h
    | some R =>
      simp only [hR] at h
      split at h
      · rename_i hc
        obtain ⟨rfl, hRs, hon⟩ := hc
        simp only [Option.some.injEq] at h
        subst h
        obtain ⟨xs, ho, hE, h1⟩ := (hi.row i R hR).rep
        rw [hRs] at hE
        have hxl := ho.1
        rw [hRs, Nat.mul_one] at hxl
        have hlen : ((R.l.drop o).take n).length = n := by simp; omega
        cases hv with
        | osl _ _ _ _ ad N c c' hlt hk hn hc =>
          refine ⟨(xs.drop o).take n, ad.add (o * 1), c', by rw [hlen], by simp only [List.length_take, List.length_drop]; omega, fun j u hu => ?_, (hE.drop o).take n, fun u hu => h1 u (List.mem_of_mem_drop (List.mem_of_mem_take hu))⟩
          rw [List.getElem?_take] at hu
          split at hu
          · rw [List.getElem?_drop] at hu
            have := ho.cells (by rw [hk]; rfl) (o + j) u hu
            rw [add_add, Nat.mul_one]
            rcases ho.2 with ⟨e, _⟩ | ⟨g, cap, cur, e, _⟩
            · rw [hk] at e; cases e
            · have e' := hk.symm.trans e
              injection e' with e1 e2 e3
              injection e1 with e1
              rw [e1] at this ⊢
              exact this
          · cases hu
      · cases h
  | nils | sl | own | top | int | bool | str | ag | ptr | ept | fn | tup | cnd =>
    simp only [Env.els1] at h
    split at h
    · rename_i s' l' he
      split at h
      · rename_i e
        subst e
        simp only [Option.some.injEq] at h
        subst h
        exact gen _ he hv
      · cases h
    · cases h

theorem a_copy {t t' e : TypeId} {x y : Operand} {x' y' : Opn} (hs : Sat G E X a) (ho : o.op = .call { callee := .builtin .copy, args := #[x, y], argTypes := #[t, t'] }) (hu : P.underlying t = some (.slice e)) (hi0 : (P.info? e).map (·.size) = some 1)
    (hx : compO x = some x') (hy : compO y = some y') (h : vcE P mt E K (.copy x' y')) : Acts P G X a o (fun _ => True) K := by
  simp only [vcE] at h
  have hvx := opd_rep hs hx
  have hvy := opd_rep hs hy
  cases hd : E.dstv (E.opd x') with
  | none => simp [hd] at h
  | some q =>
    obtain ⟨i, p, n⟩ := q
    cases hl : E.els1 (E.opd y') with
    | none => simp [hd, hl] at h
    | some l =>
      simp only [hd, hl] at h
      cases hR : E.rows.lookup i with
      | none => simp [hR] at h
      | some R =>
        simp only [hR] at h
        obtain ⟨⟨hRs, hpn, hmin⟩, hk⟩ := h
        obtain ⟨news, ad, c, hv, hnl, hcell, hE, hone⟩ := els1_spec hs.inv hvy hl (by omega)
        -- where it goes
        obtain ⟨gg, m, cp, c', hxv, hkap⟩ : ∃ gg m cp c', a.eval x = .slice (some ⟨gg, p, none⟩) n c' ∧ X.κ i = .slice (some ⟨gg, 0, none⟩) m cp := by
          obtain ⟨xs, hown, _, _⟩ := (hs.inv.row i R hR).rep
          rcases hown.2 with ⟨_, h0⟩ | ⟨g, cap, cur, e1, _, hg, hc1, hc2, hc3, hc4⟩
          · omega
          · revert hvx
            generalize a.eval x = v
            intro hvx
            cases hE1 : E.opd x' <;> rw [hE1] at hd hvx <;> simp only [Env.dstv] at hd
            case osl i' s' p' n' =>
              split at hd
              · rename_i e1'
                subst e1'
                simp only [Option.some.injEq, Prod.mk.injEq] at hd
                obtain ⟨rfl, rfl, rfl⟩ := hd
                cases hvx with
                | osl _ _ _ _ ad' N c2 c3 hlt hk2 hn2 hc2' =>
                  have := hk2.symm.trans e1
                  injection this with a1 a2 a3
                  injection a1 with a1
                  subst a1
                  refine ⟨g, R.l.length, cap, c3, ?_, e1⟩
                  simp [add_blk]
              · cases hd
            case own i' =>
              simp only [Option.map_eq_some_iff, Prod.mk.injEq] at hd
              obtain ⟨R', hR', rfl, rfl, rfl⟩ := hd
              rw [hR] at hR'
              cases hR'
              cases hvx
              exact ⟨g, R.l.length, cap, cap, e1, e1⟩
            all_goals cases hd
        have hml : min n l.length = (news.take n).length := by rw [List.length_take, hnl]
        obtain ⟨g, cur, e1, hg, hsz, hinv⟩ := hs.inv.setSpan hR hRs hkap (p := p) (cs := l.take n) (news := news.take n) (hE.take n) (by simp [hnl]) (by rw [List.length_take]; omega) (fun u hu => hone u (List.mem_of_mem_take hu))
        injection e1 with e1
        subst e1
        have hrun := run_copy_row (P := P) X.w t t' o.type e gg p n c' ad l.length c cur R.e (news.take n) hu hi0 hg (by rw [List.length_take, hnl, Nat.min_comm]) (fun j u hu => by
          rw [List.getElem?_take] at hu
          split at hu
          · exact hcell j u hu
          · cases hu) hsz (fun u hu => hone u (List.mem_of_mem_take hu))
        have hgF : ¬ X.F gg := ((hs.inv.row i R hR).blk gg (by rw [hkap]; rfl)).1
        have hle := le_setRow X gg (cur.toList.take p ++ news.take n ++ cur.toList.drop (p + (news.take n).length)).toArray hgF
        have elt : (l.take n).length = min n l.length := by rw [List.length_take]
        rw [elt] at hinv
        have hS : Sat G { E with rows := repl i { R with l := R.l.take p ++ l.take n ++ R.l.drop (p + min n l.length) } E.rows } { X with w := X.w.setRow gg (cur.toList.take p ++ news.take n ++ cur.toList.drop (p + (news.take n).length)).toArray } a := ⟨hs.n, hinv, hs.tm.up hle, hs.df, hs.kp.up (Nat.le_refl _) (fun _ _ => rfl) (fun _ _ _ _ => rfl) (fun q R' hq _ _ => by
          simp only at hq
          rw [lookup_repl _ _ _ _ (by rw [hR]; rfl)] at hq
          split at hq
          · rename_i e; subst e; cases hq; exact .inr ⟨R, hR, fun h => h⟩
          · exact .inr ⟨R', hq, fun h => h⟩)⟩
        refine acts_value (v := goInt (news.take n).length) ?_ rfl (Ch.any (by simp)) hk hS ?_
        · unfold execOp
          simp [ho, resolve, invoke, builtin, hxv, hv, hrun]
        · rw [hml]; exact .int _ _

theorem a_mksl {t e : TypeId} {inf : TypeInfo} {zv : List AV} {n c : Operand} {n' c' : Opn} (hs : Sat G E X a) (ho : o.op = .makeSlice t n c) (hu : P.underlying t = some (.slice e)) (hi : P.info? e = some inf) (hz : zeroA P e = some zv) (hn : compO n = some n') (hc : compO c = some c') (hsame : sameB n' c' = true) (h0 : 0 < inf.size)
    (h : vcE P mt E K (.mksl e inf.size inf.bytes zv n')) : Acts P G X a o (fun _ => False) K := by
  simp only [vcE] at h
  have hvn := opd_rep hs hn
  have hvc := opd_rep hs hc
  obtain ⟨inf2, z, hi2, hz2, hzr⟩ := zeroA_spec hz
  rw [hi] at hi2
  cases hi2
  cases hE : E.opd n' with
  | int k1 k =>
    simp only [hE] at h hvn
    obtain ⟨⟨b1, b2, b3, b4, b5, b6, b7⟩, hk⟩ := h
    have hce : ∃ k2, a.eval c = .int k2 k := by
      cases n' with
      | t q =>
        cases c' with
        | t q' =>
          simp only [sameB, beq_iff_eq] at hsame
          subst hsame
          have : E.opd (.t q) = .int k1 k := hE
          rw [this] at hvc
          exact ⟨k1, hvc.int_inv⟩
        | k av => simp [sameB] at hsame
      | k av =>
        cases c' with
        | t q' => cases av <;> simp [sameB] at hsame
        | k av' =>
          cases av <;> cases av' <;> simp [sameB] at hsame
          rename_i ka na kb nb
          simp only [Env.opd, AV.int.injEq] at hE
          simp only [Env.opd] at hvc
          exact ⟨kb, by rw [hvc.int_inv, ← hsame.2, hE.2]⟩
    obtain ⟨k2, hce⟩ := hce
    have hrun := run_make (P := P) X.w t e inf z hu hi hz2 k1 k2 k k b1 (Int.le_refl _) (by rw [Int.mul_comm]; omega) b3
    have hzs : z.cells.size = inf.size := by have := (hzr X).1; simp only [Array.length_toList] at this; omega
    let el : AV := if inf.size = 1 then zv.getD 0 .top else .ag zv
    have hel : el.cells = zv := by
      simp only [el]
      split
      · rename_i e1
        obtain ⟨c0, hc0⟩ : ∃ c0, zv = [c0] := List.length_eq_one_iff.1 (by omega)
        rw [hc0] at b6 ⊢
        simp only [List.all_cons, List.all_nil, Bool.and_true] at b6
        exact one_cells b6
      · rfl
    have hpu : el.pure = true := by
      simp only [el]
      split
      · obtain ⟨c0, hc0⟩ : ∃ c0, zv = [c0] := List.length_eq_one_iff.1 (by omega)
        rw [hc0] at b7 ⊢
        simp only [AV.pureL, Bool.and_true] at b7
        exact b7
      · exact b7
    have hmade : ∀ (j : Nat), j < k.toNat * inf.size → (madeCells z.cells (k.toNat * inf.size)).toList[j]? = some (z.cells.toList.getD (j % inf.size) undef) := by
      intro j hj
      have hjm : j % z.cells.size < z.cells.size := Nat.mod_lt _ (by omega)
      have h1 : j % inf.size < z.cells.size := by rw [← hzs]; exact hjm
      rw [Array.getElem?_toList]
      simp only [madeCells, Array.getElem?_map, Array.getElem?_range, hj, if_true, Option.map_some, Option.some.injEq, hzs]
      rw [getElem!_pos z.cells _ h1, List.getD_eq_getElem?_getD, List.getElem?_eq_getElem (by simpa using h1)]
      simp
    have hgr := hs.growRow e inf.size (l := List.replicate k.toNat el) (vs := madeCells z.cells (k.toNat * inf.size)) (by simp [size_madeCells]) (by simp only [List.length_replicate, maxLen]; omega) (by
      intro u hu
      obtain ⟨j, hj⟩ := List.getElem?_of_mem hu
      have hjl : j < k.toNat * inf.size := by have := (List.getElem?_eq_some_iff.1 hj).1; simpa [size_madeCells] using this
      rw [hmade j hjl] at hj
      cases hj
      have h1 : j % inf.size < zv.length := by rw [b4]; exact Nat.mod_lt _ h0
      have h2 : z.cells.toList[j % inf.size]? = some (z.cells.toList.getD (j % inf.size) undef) := by
        rw [List.getD_eq_getElem?_getD, List.getElem?_eq_getElem (by rw [Array.length_toList]; omega)]; rfl
      exact one_cell' (List.all_eq_true.1 b6 _ (List.getElem_mem h1)) ((hzr X).2 _ _ _ (List.getElem?_eq_getElem h1) h2)) (by
      refine ⟨(AV.pureL_iff _).2 fun b hb => by rw [List.eq_of_mem_replicate hb]; exact hpu, fun j b hb => ?_, fun j b i q v hb hq hv => ?_⟩
      · rw [List.eq_of_mem_replicate (List.mem_of_getElem? hb), hel, b4]
      · have hbe := List.eq_of_mem_replicate (List.mem_of_getElem? hb)
        subst hbe
        rw [hel] at hq
        have hjl : j < k.toNat := by have := (List.getElem?_eq_some_iff.1 hb).1; simpa using this
        have hil : i < inf.size := by have := (List.getElem?_eq_some_iff.1 hq).1; omega
        have hji : j * inf.size + i < k.toNat * inf.size := by
          calc j * inf.size + i < j * inf.size + inf.size := by omega
            _ = (j + 1) * inf.size := by rw [Nat.succ_mul]
            _ ≤ k.toNat * inf.size := Nat.mul_le_mul_right _ hjl
        rw [hmade _ hji] at hv
        rw [Nat.mul_comm, Nat.mul_add_mod, Nat.mod_eq_of_lt hil] at hv
        refine (hzr X).2 i q v hq ?_
        rw [← hv, List.getD_eq_getElem?_getD, List.getElem?_eq_getElem (by rw [Array.length_toList]; omega)]
        rfl)
    simp only [List.length_replicate] at hgr
    refine acts_value ?_ rfl (Ch.growR rfl ⟨fun _ h => h, fun _ _ => rfl, fun _ _ _ => rfl, fun _ _ => rfl, Nat.le_refl _⟩ _ _) hk hgr.1 hgr.2
    unfold execOp
    simp only [ho, Sem.run_bind, hvn.int_inv, hce, hrun]
    rfl
  | _ => simp [hE] at h
end
end Go.VV
