/- Part of a proof: the laws of single functions of the given program, shown step by step. -/
import Derived.Test.YtfcaebjpnakhhaaCB
import Derived.Test.YtfcaebjpnakhhaaT7
set_option linter.unusedSimpArgs false
set_option linter.unusedVariables false
set_option linter.unnecessarySimpa false
namespace Go.VV
open Go.Proofs
set_option maxRecDepth 4000
set_option maxHeartbeats 8000000
def shR (s : Int) (r : Rp) : Rp := { r with time := r.time + s }
def shW (s : Int) (q : Q4) : Q4 := ⟨q.a, q.b, W (q.c + s), W (q.d + s)⟩
theorem w_small {x : Int} (h1 : -100000 ≤ x) (h2 : x ≤ 100000) : W x = x := wrap64 (by omega) (by omega)
def tmB (r : Rp) : Prop := 0 ≤ r.time ∧ r.time ≤ 10000
theorem endO_sh {x : Rd} {rd tag s : Int} (hs : 0 ≤ s ∧ s ≤ 5000) (hk : 0 ≤ x.skew ∧ x.skew ≤ 10) {run : List Rp} (hr : ∀ r ∈ run, tmB r) (out : List Q4) :
    endO x rd tag (run.map (shR s)) (out.map (shW s)) = (endO x rd tag run out).map (shW s) := by
  rcases run with _ | ⟨q, run⟩
  · simp [endO]
  · obtain ⟨z, hz⟩ : ∃ z, (q :: run).getLast? = some z := by
      cases h : (q :: run).getLast? with
      | none => simp at h
      | some z => exact ⟨z, rfl⟩
    have h1 : tmB q := hr q (by simp)
    have h2 : tmB z := hr z (List.mem_of_getLast? hz)
    simp only [tmB] at h1 h2
    have e1 : W (q.time + s + x.skew) = q.time + s + x.skew := w_small (by omega) (by omega)
    have e2 : W (z.time + s - x.skew) = z.time + s - x.skew := w_small (by omega) (by omega)
    have e3 : W (q.time + x.skew) = q.time + x.skew := w_small (by omega) (by omega)
    have e4 : W (z.time - x.skew) = z.time - x.skew := w_small (by omega) (by omega)
    have e5 : W (q.time + x.skew + s) = q.time + s + x.skew := by rw [w_small (by omega) (by omega)]; omega
    have e6 : W (z.time - x.skew + s) = z.time + s - x.skew := by rw [w_small (by omega) (by omega)]; omega
    have hc : (q.time + s + x.skew < z.time + s - x.skew) = (q.time + x.skew < z.time - x.skew) := propext (by omega)
    unfold endO
    simp only [List.length_map, List.getLast?_map, hz, Option.map_some, Option.getD_some, List.head?_map, List.head?_cons, shR, e1, e2, e3, e4, hc]
    split
    · simp [shW, e5, e6]
    · rfl
theorem fol_sh (x : Rd) (s : Int) (a b : Rp) : fol x (shR s a) (shR s b) = fol x a b := by
  have e : b.time + s - (a.time + s) = b.time - a.time := by omega
  have e2 : (a.time + s ≤ b.time + s) = (a.time ≤ b.time) := propext (by omega)
  simp only [fol, shR, e, e2]
def shS (s : Int) (p : List Rp × List Q4) : List Rp × List Q4 := (p.1.map (shR s), p.2.map (shW s))
theorem stepO_sh {x : Rd} {rd tag s : Int} (hs : 0 ≤ s ∧ s ≤ 5000) (hk : 0 ≤ x.skew ∧ x.skew ≤ 10) {p : List Rp × List Q4} (hr : ∀ r ∈ p.1, tmB r) (r : Rp) :
    stepO x rd tag (shS s p) (shR s r) = shS s (stepO x rd tag p r) := by
  have ht : (shR s r).tags = r.tags := rfl
  unfold stepO
  simp only [ht, shS, endO_sh hs hk hr]
  split
  · simp
  · rcases hp : p.1 with _ | ⟨q, run⟩
    · simp
    · obtain ⟨z, hz⟩ : ∃ z, (q :: run).getLast? = some z := by
        cases h : (q :: run).getLast? with
        | none => simp at h
        | some z => exact ⟨z, rfl⟩
      simp only [List.getLast?_map, hz, Option.map_some, Option.getD_some, fol_sh]
      by_cases hf : fol x z r = false
      · simp [hf]
      · simp [hf]
theorem stepO_tm {x : Rd} {rd tag : Int} {p : List Rp × List Q4} (hr : ∀ r ∈ p.1, tmB r) {r : Rp} (h : tmB r) : ∀ y ∈ (stepO x rd tag p r).1, tmB y := by
  unfold stepO
  split
  · simp
  · split
    · simpa using h
    · intro y hy
      rcases List.mem_append.1 hy with hy | hy
      · exact hr y hy
      · simp at hy; exact hy ▸ h
theorem foldl_sh {x : Rd} {rd tag s : Int} (hs : 0 ≤ s ∧ s ≤ 5000) (hk : 0 ≤ x.skew ∧ x.skew ≤ 10) (l : List Rp) : ∀ p : List Rp × List Q4, (∀ r ∈ p.1, tmB r) → (∀ r ∈ l, tmB r) →
    (l.map (shR s)).foldl (stepO x rd tag) (shS s p) = shS s (l.foldl (stepO x rd tag) p) ∧ ∀ r ∈ (l.foldl (stepO x rd tag) p).1, tmB r := by
  induction l with
  | nil => exact fun p hp _ => ⟨rfl, hp⟩
  | cons r l ih =>
    intro p hp hl
    simp only [List.map_cons, List.foldl_cons]
    rw [stepO_sh hs hk hp]
    exact ih _ (stepO_tm hp (hl r (by simp))) (fun y hy => hl y (by simp [hy]))
theorem scanO_sh {x : Rd} {rd tag s : Int} (hs : 0 ≤ s ∧ s ≤ 5000) (hk : 0 ≤ x.skew ∧ x.skew ≤ 10) (l : List Rp) (hl : ∀ r ∈ l, tmB r) : scanO x rd tag (l.map (shR s)) = (scanO x rd tag l).map (shW s) := by
  obtain ⟨h1, h2⟩ := foldl_sh (rd := rd) (tag := tag) hs hk l ([], []) (by simp) hl
  unfold scanO finO
  rw [show (([], []) : List Rp × List Q4) = shS s ([], []) from rfl, h1]
  exact endO_sh hs hk h2 _
theorem stepO_len (x : Rd) (rd tag : Int) (p : List Rp × List Q4) (r : Rp) : (stepO x rd tag p r).2.length ≤ p.2.length + 1 := by
  unfold stepO
  split
  · exact endO_len ..
  · split
    · exact endO_len ..
    · simp
theorem scanO_len (x : Rd) (rd tag : Int) (l : List Rp) : (scanO x rd tag l).length ≤ l.length + 1 := by
  have h : ∀ (l : List Rp) (p : List Rp × List Q4), (l.foldl (stepO x rd tag) p).2.length ≤ p.2.length + l.length := by
    intro l
    induction l with
    | nil => simp
    | cons r l ih =>
      intro p
      have h1 := ih (stepO x rd tag p r)
      have h2 := stepO_len x rd tag p r
      simp only [List.foldl_cons, List.length_cons]
      omega
  have h1 := h l ([], [])
  have h2 := endO_len x rd tag (l.foldl (stepO x rd tag) ([], [])).1 (l.foldl (stepO x rd tag) ([], [])).2
  simp only [List.length_nil] at h1
  unfold scanO finO
  omega
theorem mk_valid {r : Rp} (h1 : 0 ≤ r.reader ∧ r.reader ≤ 31) (h2 : 0 ≤ r.number ∧ r.number ≤ 65535) (h3 : 0 ≤ r.time ∧ r.time ≤ 2147483648) (h4 : r.tags = [] ∨ r.tags = [4]) : validT r = true := by
  have h5 : (r.tags.length : Int) ≤ 20 := by rcases h4 with h | h <;> simp [h]
  have h6 : rises r.tags 1 65535 = true := by
    rcases h4 with h | h
    · simp [h, rises]
    · simp only [rises, decide_eq_true_eq, h]
      intro j hj
      have : j = 0 := by simp at hj; omega
      subst this
      simp
  simp [validT, inB, h5, h6, h1, h2, h3]
theorem absF_ok {l : List Rd} {rd tag : Int} {rs : List Rp} (h1 : rs.length ≤ 400) (h2 : ∀ r ∈ rs, validT r = true) (h3 : 0 ≤ rd) (h4 : rd < (l.length : Int)) (h5 : 1 ≤ tag ∧ tag ≤ 65535) :
    absF l rd tag rs = (scanO (l[rd.toNat]?.getD default) rd tag (rs.filter fun r => r.reader == rd), 0) := by
  unfold absF
  rw [if_neg (by omega), if_neg (by rw [List.all_eq_true.2 h2]; simp), if_neg (by omega), if_neg (by simp [inB]; omega)]
theorem s22z {l : List Rd} {rd tag : Int} {rs : List Rp} {q : List Q4} (h : absF l rd tag rs = (q, 0)) : Spec Try.prog 22 ⟨[], []⟩ 0 [Lrd l, I rd, I tag, Lrp rs] (fun v C' => v = .tup [.own 0, I 0] ∧ C' = ⟨[(0, ⟨61, 4, q.map aQ4, false⟩)], []⟩) := by
  refine (s22o l rd tag rs).turn fun r C' h => ?_
  rcases h with ⟨h1, rfl, rfl⟩ | ⟨h1, rfl, rfl⟩
  · refine ⟨_, _, turn_id (by simp) rfl ?_, fun i R _ hi => by omega, rfl, by rw [h]⟩
    simp
  · simp [h] at h1
structure Good (s : Int) (k : Nat) (nu ti : Int) (a b : List Rp) : Prop where
  ka : a.length + k ≤ 20
  kb : b.length + 2 * k ≤ 40
  nu0 : 0 ≤ nu
  nu1 : nu + 2 * k ≤ 40
  ti0 : 0 ≤ ti
  ti1 : ti + 15 * k ≤ 1000
  av : ∀ r ∈ a, validT r = true ∧ tmB r ∧ r.reader = 0
  bv : ∀ r ∈ b, validT r = true
  sh : b.filter (fun r => r.reader == 0) = a.map (shR s)
theorem Good.step {s : Int} {k : Nat} {nu ti u v : Int} {a b : List Rp} (g : Good s k nu ti a b) (hk : 0 < k) (hs : 0 ≤ s ∧ s ≤ 5000) (hu : 1 ≤ u ∧ u ≤ 2) (hv : 5 ≤ v ∧ v ≤ 15) (tg : List Int) (ht : tg = [] ∨ tg = [4]) (more : List Rp)
    (hm : more = [] ∨ ∃ w, (0 ≤ w ∧ w < 100) ∧ more = [⟨1, nu, w, [4]⟩]) : Good s (k - 1) (nu + u) (ti + v) (a ++ [⟨0, nu, ti, tg⟩]) (b ++ [⟨0, nu, ti + s, tg⟩] ++ more) := by
  obtain ⟨h1, h2, h3, h4, h5, h6, h7, h8, h9⟩ := g
  have hml : more.length ≤ 1 := by rcases hm with rfl | ⟨w, _, rfl⟩ <;> simp
  refine ⟨by simp; omega, by simp; omega, by omega, by omega, by omega, by omega, fun r hr => ?_, fun r hr => ?_, ?_⟩
  · rcases List.mem_append.1 hr with hr | hr
    · exact h7 r hr
    · simp at hr
      subst hr
      exact ⟨mk_valid (by simp) (by simp; omega) (by simp; omega) ht, by simp [tmB]; omega, rfl⟩
  · rcases List.mem_append.1 hr with hr | hr
    · rcases List.mem_append.1 hr with hr | hr
      · exact h8 r hr
      · simp at hr
        subst hr
        exact mk_valid (by simp) (by simp; omega) (by simp; omega) ht
    · rcases hm with rfl | ⟨w, hw, rfl⟩
      · simp at hr
      · simp at hr
        subst hr
        exact mk_valid (by simp) (by simp; omega) (by simp; omega) (.inr rfl)
  · rw [List.filter_append, List.filter_append, h9]
    rcases hm with rfl | ⟨w, hw, rfl⟩ <;> simp [shR]
def xsO (sk : Int) : List Rd := [⟨[0], 10, 1, sk⟩, ⟨[0], 10, 0, 0⟩]
theorem Good.abs {s : Int} {k : Nat} {nu ti sk : Int} {a b : List Rp} (g : Good s k nu ti a b) (hs : 0 ≤ s ∧ s < 5000) (hk : 0 ≤ sk ∧ sk ≤ 2) : ∃ q : List Q4, q.length ≤ 21 ∧ absF (xsO sk) 0 4 a = (q, 0) ∧ absF (xsO sk) 0 4 b = (q.map (shW s), 0) := by
  obtain ⟨h1, h2, h3, h4, h5, h6, h7, h8, h9⟩ := g
  refine ⟨scanO ⟨[0], 10, 1, sk⟩ 0 4 a, ?_, ?_, ?_⟩
  · have := scanO_len ⟨[0], 10, 1, sk⟩ 0 4 a
    omega
  · rw [absF_ok (by omega) (fun r hr => (h7 r hr).1) (by omega) (by simp [xsO]) (by omega)]
    rw [List.filter_eq_self.2 (fun r hr => by simp [(h7 r hr).2.2])]
    rfl
  · rw [absF_ok (by omega) h8 (by omega) (by simp [xsO]) (by omega), h9, ← scanO_sh (by omega) (by simpa using by omega) a (fun r hr => (h7 r hr).2.1)]
    rfl
@[simp] theorem at_mid {α β : Type} (f : α → β) (l : List α) (x : β) (m : List β) : (l.map f ++ x :: m)[l.length]? = some x := by
  rw [List.getElem?_append_right (by simp)]; simp
@[simp] theorem set_mid {α β : Type} (f : α → β) (l : List α) (x y : β) (m : List β) : (l.map f ++ x :: m).set l.length y = l.map f ++ y :: m := by
  rw [List.set_append_right _ _ (by simp)]; simp
theorem s6 (L : List Int) (more : Int) : Spec Try.prog 6 ⟨[], []⟩ 0 [Lint L, I more] (fun v C' => v = .bool true ∧ C' = ⟨[], []⟩) := by
  obtain ⟨s, hs⟩ : ∃ s, modI more 5000 = s := ⟨_, rfl⟩
  have hsr := modI_range (n := more) (m := 5000) (by omega) (by omega)
  rw [hs] at hsr
  refine l6.go mixed no (by simp) fun Q hQ Rt hR => ?_
  unfold c6
  simp only [argT]
  repeat' (first
    | (with_reducible refine vc_seq_j (x := .seq (.ops [_, _, _]) (.block 0 _)) {p : Nat × Int × Int × List Rp × List Rp × Nat // Good s p.1 p.2.1 p.2.2.1 p.2.2.2.1 p.2.2.2.2.1} (fun p => ⟨[(6, I s), (7, Lrd (xsO sk)), (8, Lrp p.1.2.2.2.1), (9, Lrp p.1.2.2.2.2.1)], [], [(4, ⟨78, [Lint L, I p.1.2.2.2.2.2]⟩)], 60, 140⟩) (fun K hK => ?_) (fun p => ?_))
    | (with_reducible refine vc_seq_i fun K hK => ?_)
    | (with_reducible refine vc_ops_i ?_)
    | ((with_reducible refine ops_nil ?_); apply_assumption -exfalso -symm)
    | ((with_reducible refine ops_q fun K hK => ?_); simp; (try simp (disch := omega) only [wrap64]); (first | (with_reducible refine hK _ ?_) | (with_reducible refine alt_T (hK _ ?_)) | (with_reducible refine alt_wrap (by omega) (hK _ ?_)) | (with_reducible refine alt_same (hK _ ?_)) | (with_reducible refine alt_T' (hK _ ?_) ?_) | (with_reducible refine alt_wrap' (by omega) (hK _ ?_) ?_) | (with_reducible refine alt_same' (hK _ ?_) ?_) | (with_reducible refine And.intro ?_ (hK _ ?_)) | (refine fun _ => ?_; first | (with_reducible refine hK _ ?_) | (with_reducible refine alt_T (hK _ ?_)) | (with_reducible refine alt_wrap (by omega) (hK _ ?_)) | (with_reducible refine alt_same (hK _ ?_)))) <;> (clear hK; clear K))
    | ((with_reducible refine ops_a0 fun K hK => ?_); simp; (try simp (disch := omega) only [wrap64]); (first | ((with_reducible refine hK _ ?_); (clear hK; clear K)) | ((with_reducible refine And.intro ?_ (hK _ ?_)) <;> (clear hK; clear K)) | (repeat' (with_reducible refine And.intro ?_ ?_)) | skip))
    | ((with_reducible refine ops_ag fun K hK => ?_); first | (refine act_T rfl ?_; simp; (try simp (disch := omega) only [wrap64]); (first | ((with_reducible refine hK _ ?_); (clear hK; clear K)) | ((with_reducible refine And.intro ?_ (hK _ ?_)) <;> (clear hK; clear K)) | (repeat' (with_reducible refine And.intro ?_ ?_)) | skip)) | (refine act_F rfl ?_; simp; (with_reducible refine hK _ ?_); (clear hK; clear K)) | (refine act_N rfl ?_; simp; (with_reducible refine hK _ ?_); (clear hK; clear K)) | (refine act_c rfl fun c hc => ?_; cases c <;> (simp only [hc]; simp; (try simp (disch := omega) only [wrap64]); (try simp at hc); (first | ((with_reducible refine hK _ ?_); (clear hK; clear K)) | ((with_reducible refine And.intro ?_ (hK _ ?_)) <;> (clear hK; clear K)) | (repeat' (with_reducible refine And.intro ?_ ?_)) | skip))))
    | (with_reducible refine vc_drw_i [] ?_)
    | ((with_reducible refine T_done ?_); apply_assumption -exfalso -symm)
    | ((with_reducible refine T_take (by simp) fun K hK => ?_); simp; (try simp (disch := omega) only [wrap64]); (first | (with_reducible refine hK _ ?_) | (with_reducible refine alt_T (hK _ ?_)) | (with_reducible refine alt_wrap (by omega) (hK _ ?_)) | (with_reducible refine alt_same (hK _ ?_)) | (with_reducible refine alt_T' (hK _ ?_) ?_) | (with_reducible refine alt_wrap' (by omega) (hK _ ?_) ?_) | (with_reducible refine alt_same' (hK _ ?_) ?_) | (with_reducible refine And.intro ?_ (hK _ ?_)) | (refine fun _ => ?_; first | (with_reducible refine hK _ ?_) | (with_reducible refine alt_T (hK _ ?_)) | (with_reducible refine alt_wrap (by omega) (hK _ ?_)) | (with_reducible refine alt_same (hK _ ?_)))) <;> (clear hK; clear K))
    | ((with_reducible refine T_act0 fun K hK => ?_); simp; (try simp (disch := omega) only [wrap64]); (first | ((with_reducible refine hK _ ?_); (clear hK; clear K)) | ((with_reducible refine And.intro ?_ (hK _ ?_)) <;> (clear hK; clear K)) | (repeat' (with_reducible refine And.intro ?_ ?_)) | skip))
    | ((with_reducible refine T_actg fun K hK => ?_); first | (refine act_T rfl ?_; simp; (try simp (disch := omega) only [wrap64]); (first | ((with_reducible refine hK _ ?_); (clear hK; clear K)) | ((with_reducible refine And.intro ?_ (hK _ ?_)) <;> (clear hK; clear K)) | (repeat' (with_reducible refine And.intro ?_ ?_)) | skip)) | (refine act_F rfl ?_; simp; (with_reducible refine hK _ ?_); (clear hK; clear K)) | (refine act_N rfl ?_; simp; (with_reducible refine hK _ ?_); (clear hK; clear K)) | (refine act_c rfl fun c hc => ?_; cases c <;> (simp only [hc]; simp; (try simp (disch := omega) only [wrap64]); (try simp at hc); (first | ((with_reducible refine hK _ ?_); (clear hK; clear K)) | ((with_reducible refine And.intro ?_ (hK _ ?_)) <;> (clear hK; clear K)) | (repeat' (with_reducible refine And.intro ?_ ?_)) | skip))))
    | (with_reducible refine vc_block_i fun Y hY hN => ?_)
    | ((with_reducible refine vc_skip_i ?_); apply_assumption -exfalso -symm)
    | ((with_reducible refine vc_cond_i rfl ?_ ?_) <;> (intro hb; try simp at hb))
    | ((with_reducible refine vc_exit_i ?_); apply_assumption -exfalso -symm; try apply_assumption -exfalso -symm)
    | ((with_reducible refine vc_ret_i ?_); (with_reducible refine hR _ ?_); simp [r6]; (try refine ret_val (by simp) (hQ _ _ ?_)))
    | ((with_reducible refine hR _ ?_); simp [r6]; (try refine ret_val (by simp) (hQ _ _ ?_)))
    | ((with_reducible show vcCall _ _ _ _ _ _ _); refine call_0 (s8 _) ⟨wk_same, trivial⟩ ?_; rintro _ _ ⟨rfl, rfl⟩; simp; first | ((with_reducible refine hK _ ?_); (clear hK; clear K)) | (with_reducible apply_assumption -exfalso -symm))
    | ((with_reducible show vcCall _ _ _ _ _ _ _); refine call_0 (s14) trivial ?_; rintro _ _ ⟨rfl, rfl⟩; simp; first | ((with_reducible refine hK _ ?_); (clear hK; clear K)) | (with_reducible apply_assumption -exfalso -symm))
    | ((with_reducible show vcCall _ _ _ _ _ _ _); refine call_0 (s10 _) ⟨wk_same, trivial⟩ ?_; rintro _ _ ⟨rfl, rfl⟩; simp; first | ((with_reducible refine hK _ ?_); (clear hK; clear K)) | (with_reducible apply_assumption -exfalso -symm))
    | ((with_reducible show vcCall _ _ _ _ _ _ _); refine call_0 (s24 _ _) ⟨rfl, rfl, trivial⟩ ?_; rintro _ _ ⟨rfl, rfl⟩; simp; first | ((with_reducible refine hK _ ?_); (clear hK; clear K)) | (with_reducible apply_assumption -exfalso -symm))
    | ((with_reducible show vcCall _ _ _ _ _ _ _); refine call_i (n17r _ _ [2, 0] 0 2 (by simp) (by simp) (by simp)) (fun _ => 4) (fun _ => 0) (by simp) ⟨⟨⟨rfl, by simp⟩, wk_sl rfl (lint_get [2, 0]), trivial⟩, trivial, ⟨⟨by simp, rfl, ⟨wk_same, rfl, trivial⟩⟩, trivial⟩⟩ ?_; rintro _ _ ⟨sk, b1, hsk, rfl, rfl⟩; simp; first | ((with_reducible refine hK _ ?_); (clear hK; clear K)) | (with_reducible apply_assumption -exfalso -symm))
    | ((with_reducible show vcCall _ _ _ _ _ _ _); refine call_i (n12 _ _ 20 (by simp) (by simp)) (fun _ => 4) (fun _ => 0) (by simp) ⟨⟨⟨rfl, by simp⟩, rfl, trivial⟩, trivial, ⟨⟨by simp, rfl, ⟨wk_same, rfl, trivial⟩⟩, trivial⟩⟩ ?_; rintro _ _ ⟨cnt, b4, hcnt, rfl, rfl⟩; simp; first | ((with_reducible refine hK _ ?_); (clear hK; clear K)) | (with_reducible apply_assumption -exfalso -symm))
    | (intros; omega))
  · simp
  · rw [hs]
    refine loop_i {p : Nat × Int × Int × List Rp × List Rp × Nat // Good s p.1 p.2.1 p.2.2.1 p.2.2.2.1 p.2.2.2.2.1} (fun p => ⟨[(5, .ptr 4 0), (6, I s), (7, Lrd (xsO sk)), (8, .own 24), (9, .own 25), (10, I p.1.2.1), (11, I p.1.2.2.1), (12, I p.1.1)], [(24, ⟨50, 4, p.1.2.2.2.1.map aRp, false⟩), (25, ⟨50, 4, p.1.2.2.2.2.1.map aRp, false⟩)], [(4, ⟨78, [Lint L, I p.1.2.2.2.2.2]⟩)], 26, 140⟩) (fun p => p.1.1) ⟨(cnt.toNat, 0, 100, [], [], b4), ?_⟩ ?_ ?_
    · exact ⟨by simp; omega, by simp; omega, by simp, by simp; omega, by simp, by simp; omega, by simp, by simp, by simp⟩
    · refine turn_at [.frz 19, .nilT 8 50 4, .nilT 9 50 4] id id ?_
      simp [keys]
      refine ⟨⟨_, ⟨by simp [xsO], rfl⟩, fun j hj => .inr (show Wk _ _ _ _ from ?_)⟩, by omega⟩
      have : j = 0 ∨ j = 1 := by simp [xsO] at hj; omega
      rcases this with rfl | rfl <;> exact ⟨wk_sl rfl (lint_get [0]), rfl, rfl, rfl, trivial⟩
    rintro ⟨⟨k, nu, ti, a, b, dd⟩, g⟩ K hK
    simp only at g
    have g3 := g.nu0; have g4 := g.nu1; have g5 := g.ti0; have g6 := g.ti1; have g1 := g.ka; have g2 := g.kb
    repeat' (first
      | (with_reducible refine vc_seq_i fun K hK => ?_)
      | (with_reducible refine vc_ops_i ?_)
      | ((with_reducible refine ops_nil ?_); apply_assumption -exfalso -symm)
      | ((with_reducible refine ops_q fun K hK => ?_); simp; (try simp (disch := omega) only [wrap64]); (first | (with_reducible refine hK _ ?_) | (with_reducible refine alt_T (hK _ ?_)) | (with_reducible refine alt_wrap (by omega) (hK _ ?_)) | (with_reducible refine alt_same (hK _ ?_)) | (with_reducible refine alt_T' (hK _ ?_) ?_) | (with_reducible refine alt_wrap' (by omega) (hK _ ?_) ?_) | (with_reducible refine alt_same' (hK _ ?_) ?_) | (with_reducible refine And.intro ?_ (hK _ ?_)) | (refine fun _ => ?_; first | (with_reducible refine hK _ ?_) | (with_reducible refine alt_T (hK _ ?_)) | (with_reducible refine alt_wrap (by omega) (hK _ ?_)) | (with_reducible refine alt_same (hK _ ?_)))) <;> (clear hK; clear K))
      | ((with_reducible refine ops_a0 fun K hK => ?_); simp; (try simp (disch := omega) only [wrap64]); (first | ((with_reducible refine hK _ ?_); (clear hK; clear K)) | ((with_reducible refine And.intro ?_ (hK _ ?_)) <;> (clear hK; clear K)) | (repeat' (with_reducible refine And.intro ?_ ?_)) | skip))
      | ((with_reducible refine ops_ag fun K hK => ?_); first | (refine act_T rfl ?_; simp; (try simp (disch := omega) only [wrap64]); (first | ((with_reducible refine hK _ ?_); (clear hK; clear K)) | ((with_reducible refine And.intro ?_ (hK _ ?_)) <;> (clear hK; clear K)) | (repeat' (with_reducible refine And.intro ?_ ?_)) | skip)) | (refine act_F rfl ?_; simp; (with_reducible refine hK _ ?_); (clear hK; clear K)) | (refine act_N rfl ?_; simp; (with_reducible refine hK _ ?_); (clear hK; clear K)) | (refine act_c rfl fun c hc => ?_; cases c <;> (simp only [hc]; simp; (try simp (disch := omega) only [wrap64]); (try simp at hc); (first | ((with_reducible refine hK _ ?_); (clear hK; clear K)) | ((with_reducible refine And.intro ?_ (hK _ ?_)) <;> (clear hK; clear K)) | (repeat' (with_reducible refine And.intro ?_ ?_)) | skip))))
      | (with_reducible refine vc_drw_i [] ?_)
      | ((with_reducible refine T_done ?_); apply_assumption -exfalso -symm)
      | ((with_reducible refine T_take (by simp) fun K hK => ?_); simp; (try simp (disch := omega) only [wrap64]); (first | (with_reducible refine hK _ ?_) | (with_reducible refine alt_T (hK _ ?_)) | (with_reducible refine alt_wrap (by omega) (hK _ ?_)) | (with_reducible refine alt_same (hK _ ?_)) | (with_reducible refine alt_T' (hK _ ?_) ?_) | (with_reducible refine alt_wrap' (by omega) (hK _ ?_) ?_) | (with_reducible refine alt_same' (hK _ ?_) ?_) | (with_reducible refine And.intro ?_ (hK _ ?_)) | (refine fun _ => ?_; first | (with_reducible refine hK _ ?_) | (with_reducible refine alt_T (hK _ ?_)) | (with_reducible refine alt_wrap (by omega) (hK _ ?_)) | (with_reducible refine alt_same (hK _ ?_)))) <;> (clear hK; clear K))
      | ((with_reducible refine T_act0 fun K hK => ?_); simp; (try simp (disch := omega) only [wrap64]); (first | ((with_reducible refine hK _ ?_); (clear hK; clear K)) | ((with_reducible refine And.intro ?_ (hK _ ?_)) <;> (clear hK; clear K)) | (repeat' (with_reducible refine And.intro ?_ ?_)) | skip))
      | ((with_reducible refine T_actg fun K hK => ?_); first | (refine act_T rfl ?_; simp; (try simp (disch := omega) only [wrap64]); (first | ((with_reducible refine hK _ ?_); (clear hK; clear K)) | ((with_reducible refine And.intro ?_ (hK _ ?_)) <;> (clear hK; clear K)) | (repeat' (with_reducible refine And.intro ?_ ?_)) | skip)) | (refine act_F rfl ?_; simp; (with_reducible refine hK _ ?_); (clear hK; clear K)) | (refine act_N rfl ?_; simp; (with_reducible refine hK _ ?_); (clear hK; clear K)) | (refine act_c rfl fun c hc => ?_; cases c <;> (simp only [hc]; simp; (try simp (disch := omega) only [wrap64]); (try simp at hc); (first | ((with_reducible refine hK _ ?_); (clear hK; clear K)) | ((with_reducible refine And.intro ?_ (hK _ ?_)) <;> (clear hK; clear K)) | (repeat' (with_reducible refine And.intro ?_ ?_)) | skip))))
      | (with_reducible refine vc_block_i fun Y hY hN => ?_)
      | ((with_reducible refine vc_skip_i ?_); apply_assumption -exfalso -symm)
      | ((with_reducible refine vc_cond_i rfl ?_ ?_) <;> (intro hb; try simp at hb))
      | ((with_reducible refine vc_exit_i ?_); apply_assumption -exfalso -symm; try apply_assumption -exfalso -symm)
      | ((with_reducible refine vc_ret_i ?_); (with_reducible refine hR _ ?_); simp [r6]; (try refine ret_val (by simp) (hQ _ _ ?_)))
      | ((with_reducible refine hR _ ?_); simp [r6]; (try refine ret_val (by simp) (hQ _ _ ?_)))
      | ((with_reducible show vcCall _ _ _ _ _ _ _); refine call_i (n18 _ _ _) (fun _ => 4) (fun _ => 0) (by simp) ⟨⟨⟨rfl, by simp⟩, rfl, trivial⟩, trivial, ⟨⟨by simp, rfl, ⟨wk_same, rfl, trivial⟩⟩, trivial⟩⟩ ?_; rintro _ _ ⟨w, b2, rfl, rfl⟩; simp; first | ((with_reducible refine hK _ ?_); (clear hK; clear K)) | (with_reducible apply_assumption -exfalso -symm))
      | ((with_reducible show vcCall _ _ _ _ _ _ _); refine call_i (n12 _ _ 100 (by simp) (by simp)) (fun _ => 4) (fun _ => 0) (by simp) ⟨⟨⟨rfl, by simp⟩, rfl, trivial⟩, trivial, ⟨⟨by simp, rfl, ⟨wk_same, rfl, trivial⟩⟩, trivial⟩⟩ ?_; rintro _ _ ⟨v4, b6, hv4, rfl, rfl⟩; simp; first | ((with_reducible refine hK _ ?_); (clear hK; clear K)) | (with_reducible apply_assumption -exfalso -symm))
      | ((with_reducible show vcCall _ _ _ _ _ _ _); refine call_i (n17r _ _ [1, 1, 2] 1 2 (by simp) (by simp) (by simp)) (fun _ => 4) (fun _ => 0) (by simp) ⟨⟨⟨rfl, by simp⟩, wk_sl rfl (lint_get [1, 1, 2]), trivial⟩, trivial, ⟨⟨by simp, rfl, ⟨wk_same, rfl, trivial⟩⟩, trivial⟩⟩ ?_; rintro _ _ ⟨v1, b1, hv1, rfl, rfl⟩; simp; first | ((with_reducible refine hK _ ?_); (clear hK; clear K)) | (with_reducible apply_assumption -exfalso -symm))
      | ((with_reducible show vcCall _ _ _ _ _ _ _); refine call_i (n17r _ _ [10, 5, 15] 5 15 (by simp) (by simp) (by simp)) (fun _ => 4) (fun _ => 0) (by simp) ⟨⟨⟨rfl, by simp⟩, wk_sl rfl (lint_get [10, 5, 15]), trivial⟩, trivial, ⟨⟨by simp, rfl, ⟨wk_same, rfl, trivial⟩⟩, trivial⟩⟩ ?_; rintro _ _ ⟨v2, b5, hv2, rfl, rfl⟩; simp; first | ((with_reducible refine hK _ ?_); (clear hK; clear K)) | (with_reducible apply_assumption -exfalso -symm))
      | (intros; omega))
    · refine ⟨⟨(k - 1, nu + v1, ti + v2, _, _, b5), g.step (by omega) (by omega) hv1 hv2 [4] (.inr rfl) [⟨1, nu, v4, [4]⟩] (.inr ⟨v4, hv4, rfl⟩)⟩, by simp; omega, turn_at [.wkR 24 (a.map aRp) [aRp ⟨0, nu, ti, [4]⟩], .wkR 25 (b.map aRp) [aRp ⟨0, nu, ti + s, [4]⟩, aRp ⟨1, nu, v4, [4]⟩]] id id ?_⟩
      simp [keys]
      first | exact ⟨trivial, by omega⟩ | exact ⟨trivial, trivial, by omega⟩
    · refine ⟨⟨(k - 1, nu + v1, ti + v2, _, _, b5), g.step (by omega) (by omega) hv1 hv2 [4] (.inr rfl) [] (.inl rfl)⟩, by simp; omega, turn_at [.wkR 24 (a.map aRp) [aRp ⟨0, nu, ti, [4]⟩], .wkR 25 (b.map aRp) [aRp ⟨0, nu, ti + s, [4]⟩]] id id ?_⟩
      simp [keys]
      first | exact ⟨trivial, by omega⟩ | exact ⟨trivial, trivial, by omega⟩
    · refine ⟨⟨(k - 1, nu + v1, ti + v2, _, _, b5), g.step (by omega) (by omega) hv1 hv2 [] (.inl rfl) [⟨1, nu, v4, [4]⟩] (.inr ⟨v4, hv4, rfl⟩)⟩, by simp; omega, turn_at [.wkR 24 (a.map aRp) [aRp ⟨0, nu, ti, []⟩], .wkR 25 (b.map aRp) [aRp ⟨0, nu, ti + s, []⟩, aRp ⟨1, nu, v4, [4]⟩]] id id ?_⟩
      simp [keys]
      first | exact ⟨trivial, by omega⟩ | exact ⟨trivial, trivial, by omega⟩
    · refine ⟨⟨(k - 1, nu + v1, ti + v2, _, _, b5), g.step (by omega) (by omega) hv1 hv2 [] (.inl rfl) [] (.inl rfl)⟩, by simp; omega, turn_at [.wkR 24 (a.map aRp) [aRp ⟨0, nu, ti, []⟩], .wkR 25 (b.map aRp) [aRp ⟨0, nu, ti + s, []⟩]] id id ?_⟩
      simp [keys]
      first | exact ⟨trivial, by omega⟩ | exact ⟨trivial, trivial, by omega⟩
    · refine ⟨⟨(k, nu, ti, a, b, dd), g⟩, turn_at [.frz 24, .frz 25] id id ?_⟩
      simp [keys]
      exact ⟨fun j hj => .inl ((lrp_get a j hj).trans (by simp [List.getD_eq_getElem?_getD])), fun j hj => .inl ((lrp_get b j hj).trans (by simp [List.getD_eq_getElem?_getD]))⟩
  obtain ⟨⟨k, nu, ti, a, b, dd⟩, g⟩ := p
  simp only at g
  obtain ⟨q, hq, hA, hB⟩ := g.abs hsr hsk
  repeat' (first
    | (with_reducible refine vc_seq_j (x := .seq (.ops [_]) (.block 2 _)) Unit (fun _ => ⟨[(14, LQ4 (q.map (shW s))), (16, LQ4 (q.map (shW s)))], [], [], 80, 140⟩) (fun K hK => ?_) (fun _ => ?_))
    | (with_reducible refine vc_seq_i fun K hK => ?_)
    | (with_reducible refine vc_ops_i ?_)
    | ((with_reducible refine ops_nil ?_); apply_assumption -exfalso -symm)
    | ((with_reducible refine ops_q fun K hK => ?_); simp; (try simp (disch := omega) only [wrap64]); (first | (with_reducible refine hK _ ?_) | (with_reducible refine alt_T (hK _ ?_)) | (with_reducible refine alt_wrap (by omega) (hK _ ?_)) | (with_reducible refine alt_same (hK _ ?_)) | (with_reducible refine alt_T' (hK _ ?_) ?_) | (with_reducible refine alt_wrap' (by omega) (hK _ ?_) ?_) | (with_reducible refine alt_same' (hK _ ?_) ?_) | (with_reducible refine And.intro ?_ (hK _ ?_)) | (refine fun _ => ?_; first | (with_reducible refine hK _ ?_) | (with_reducible refine alt_T (hK _ ?_)) | (with_reducible refine alt_wrap (by omega) (hK _ ?_)) | (with_reducible refine alt_same (hK _ ?_)))) <;> (clear hK; clear K))
    | ((with_reducible refine ops_a0 fun K hK => ?_); simp; (try simp (disch := omega) only [wrap64]); (first | ((with_reducible refine hK _ ?_); (clear hK; clear K)) | ((with_reducible refine And.intro ?_ (hK _ ?_)) <;> (clear hK; clear K)) | (repeat' (with_reducible refine And.intro ?_ ?_)) | skip))
    | ((with_reducible refine ops_ag fun K hK => ?_); first | (refine act_T rfl ?_; simp; (try simp (disch := omega) only [wrap64]); (first | ((with_reducible refine hK _ ?_); (clear hK; clear K)) | ((with_reducible refine And.intro ?_ (hK _ ?_)) <;> (clear hK; clear K)) | (repeat' (with_reducible refine And.intro ?_ ?_)) | skip)) | (refine act_F rfl ?_; simp; (with_reducible refine hK _ ?_); (clear hK; clear K)) | (refine act_N rfl ?_; simp; (with_reducible refine hK _ ?_); (clear hK; clear K)) | (refine act_c rfl fun c hc => ?_; cases c <;> (simp only [hc]; simp; (try simp (disch := omega) only [wrap64]); (try simp at hc); (first | ((with_reducible refine hK _ ?_); (clear hK; clear K)) | ((with_reducible refine And.intro ?_ (hK _ ?_)) <;> (clear hK; clear K)) | (repeat' (with_reducible refine And.intro ?_ ?_)) | skip))))
    | (with_reducible refine vc_drw_i [] ?_)
    | ((with_reducible refine T_done ?_); apply_assumption -exfalso -symm)
    | ((with_reducible refine T_take (by simp) fun K hK => ?_); simp; (try simp (disch := omega) only [wrap64]); (first | (with_reducible refine hK _ ?_) | (with_reducible refine alt_T (hK _ ?_)) | (with_reducible refine alt_wrap (by omega) (hK _ ?_)) | (with_reducible refine alt_same (hK _ ?_)) | (with_reducible refine alt_T' (hK _ ?_) ?_) | (with_reducible refine alt_wrap' (by omega) (hK _ ?_) ?_) | (with_reducible refine alt_same' (hK _ ?_) ?_) | (with_reducible refine And.intro ?_ (hK _ ?_)) | (refine fun _ => ?_; first | (with_reducible refine hK _ ?_) | (with_reducible refine alt_T (hK _ ?_)) | (with_reducible refine alt_wrap (by omega) (hK _ ?_)) | (with_reducible refine alt_same (hK _ ?_)))) <;> (clear hK; clear K))
    | ((with_reducible refine T_act0 fun K hK => ?_); simp; (try simp (disch := omega) only [wrap64]); (first | ((with_reducible refine hK _ ?_); (clear hK; clear K)) | ((with_reducible refine And.intro ?_ (hK _ ?_)) <;> (clear hK; clear K)) | (repeat' (with_reducible refine And.intro ?_ ?_)) | skip))
    | ((with_reducible refine T_actg fun K hK => ?_); first | (refine act_T rfl ?_; simp; (try simp (disch := omega) only [wrap64]); (first | ((with_reducible refine hK _ ?_); (clear hK; clear K)) | ((with_reducible refine And.intro ?_ (hK _ ?_)) <;> (clear hK; clear K)) | (repeat' (with_reducible refine And.intro ?_ ?_)) | skip)) | (refine act_F rfl ?_; simp; (with_reducible refine hK _ ?_); (clear hK; clear K)) | (refine act_N rfl ?_; simp; (with_reducible refine hK _ ?_); (clear hK; clear K)) | (refine act_c rfl fun c hc => ?_; cases c <;> (simp only [hc]; simp; (try simp (disch := omega) only [wrap64]); (try simp at hc); (first | ((with_reducible refine hK _ ?_); (clear hK; clear K)) | ((with_reducible refine And.intro ?_ (hK _ ?_)) <;> (clear hK; clear K)) | (repeat' (with_reducible refine And.intro ?_ ?_)) | skip))))
    | (with_reducible refine vc_block_i fun Y hY hN => ?_)
    | ((with_reducible refine vc_skip_i ?_); apply_assumption -exfalso -symm)
    | ((with_reducible refine vc_cond_i rfl ?_ ?_) <;> (intro hb; try simp at hb))
    | ((with_reducible refine vc_exit_i ?_); apply_assumption -exfalso -symm; try apply_assumption -exfalso -symm)
    | ((with_reducible refine vc_ret_i ?_); (with_reducible refine hR _ ?_); simp [r6]; (try refine ret_val (by simp) (hQ _ _ ?_)))
    | ((with_reducible refine hR _ ?_); simp [r6]; (try refine ret_val (by simp) (hQ _ _ ?_)))
    | ((with_reducible show vcCall _ _ _ _ _ _ _); refine call_0 (s22z hA) ⟨wk_same, rfl, rfl, wk_same, trivial⟩ ?_; rintro _ _ ⟨rfl, rfl⟩; simp; first | ((with_reducible refine hK _ ?_); (clear hK; clear K)) | (with_reducible apply_assumption -exfalso -symm))
    | ((with_reducible show vcCall _ _ _ _ _ _ _); refine call_0 (s22z hB) ⟨wk_same, rfl, rfl, wk_same, trivial⟩ ?_; rintro _ _ ⟨rfl, rfl⟩; simp; first | ((with_reducible refine hK _ ?_); (clear hK; clear K)) | (with_reducible apply_assumption -exfalso -symm))
    | ((with_reducible show vcCall _ _ _ _ _ _ _); refine call_0 (s14) trivial ?_; rintro _ _ ⟨rfl, rfl⟩; simp; first | ((with_reducible refine hK _ ?_); (clear hK; clear K)) | (with_reducible apply_assumption -exfalso -symm))
    | ((with_reducible show vcCall _ _ _ _ _ _ _); refine call_0 (s25 _ _) ⟨wk_same, wk_same, trivial⟩ ?_; rintro _ _ ⟨rfl, rfl⟩; simp; first | ((with_reducible refine hK _ ?_); (clear hK; clear K)) | (with_reducible apply_assumption -exfalso -symm))
    | (intros; omega))
  · refine loop_i {p : List Q4 × List Q4 // q = p.1 ++ p.2} (fun p => ⟨[(6, I s), (14, .own 60), (16, .own 64), (18, I p.1.1.length)], [(60, ⟨61, 4, p.1.1.map (fun x => aQ4 (shW s x)) ++ p.1.2.map aQ4, false⟩), (64, ⟨61, 4, (q.map (shW s)).map aQ4, false⟩)], [], 68, 140⟩) (fun p => p.1.2.length) ⟨([], q), rfl⟩ ?_ ?_
    · exact turn_id (by simp) rfl (by simp)
    rintro ⟨⟨pre, post⟩, hpq⟩ K hK
    simp only at hpq
    have hl : q.length = pre.length + post.length := by rw [hpq]; simp
    rcases post with _ | ⟨x, post⟩
    · skip
      simp only [List.map_nil, List.append_nil]
      simp only [List.append_nil] at hpq
      subst hpq
      repeat' (first
        | (with_reducible refine vc_seq_i fun K hK => ?_)
        | (with_reducible refine vc_ops_i ?_)
        | ((with_reducible refine ops_nil ?_); apply_assumption -exfalso -symm)
        | ((with_reducible refine ops_q fun K hK => ?_); simp; (try simp (disch := omega) only [wrap64]); (first | (with_reducible refine hK _ ?_) | (with_reducible refine alt_T (hK _ ?_)) | (with_reducible refine alt_wrap (by omega) (hK _ ?_)) | (with_reducible refine alt_same (hK _ ?_)) | (with_reducible refine alt_T' (hK _ ?_) ?_) | (with_reducible refine alt_wrap' (by omega) (hK _ ?_) ?_) | (with_reducible refine alt_same' (hK _ ?_) ?_) | (with_reducible refine And.intro ?_ (hK _ ?_)) | (refine fun _ => ?_; first | (with_reducible refine hK _ ?_) | (with_reducible refine alt_T (hK _ ?_)) | (with_reducible refine alt_wrap (by omega) (hK _ ?_)) | (with_reducible refine alt_same (hK _ ?_)))) <;> (clear hK; clear K))
        | ((with_reducible refine ops_a0 fun K hK => ?_); simp; (try simp (disch := omega) only [wrap64]); (first | ((with_reducible refine hK _ ?_); (clear hK; clear K)) | ((with_reducible refine And.intro ?_ (hK _ ?_)) <;> (clear hK; clear K)) | (repeat' (with_reducible refine And.intro ?_ ?_)) | skip))
        | ((with_reducible refine ops_ag fun K hK => ?_); first | (refine act_T rfl ?_; simp; (try simp (disch := omega) only [wrap64]); (first | ((with_reducible refine hK _ ?_); (clear hK; clear K)) | ((with_reducible refine And.intro ?_ (hK _ ?_)) <;> (clear hK; clear K)) | (repeat' (with_reducible refine And.intro ?_ ?_)) | skip)) | (refine act_F rfl ?_; simp; (with_reducible refine hK _ ?_); (clear hK; clear K)) | (refine act_N rfl ?_; simp; (with_reducible refine hK _ ?_); (clear hK; clear K)) | (refine act_c rfl fun c hc => ?_; cases c <;> (simp only [hc]; simp; (try simp (disch := omega) only [wrap64]); (try simp at hc); (first | ((with_reducible refine hK _ ?_); (clear hK; clear K)) | ((with_reducible refine And.intro ?_ (hK _ ?_)) <;> (clear hK; clear K)) | (repeat' (with_reducible refine And.intro ?_ ?_)) | skip))))
        | (with_reducible refine vc_drw_i [] ?_)
        | ((with_reducible refine T_done ?_); apply_assumption -exfalso -symm)
        | ((with_reducible refine T_take (by simp) fun K hK => ?_); simp; (try simp (disch := omega) only [wrap64]); (first | (with_reducible refine hK _ ?_) | (with_reducible refine alt_T (hK _ ?_)) | (with_reducible refine alt_wrap (by omega) (hK _ ?_)) | (with_reducible refine alt_same (hK _ ?_)) | (with_reducible refine alt_T' (hK _ ?_) ?_) | (with_reducible refine alt_wrap' (by omega) (hK _ ?_) ?_) | (with_reducible refine alt_same' (hK _ ?_) ?_) | (with_reducible refine And.intro ?_ (hK _ ?_)) | (refine fun _ => ?_; first | (with_reducible refine hK _ ?_) | (with_reducible refine alt_T (hK _ ?_)) | (with_reducible refine alt_wrap (by omega) (hK _ ?_)) | (with_reducible refine alt_same (hK _ ?_)))) <;> (clear hK; clear K))
        | ((with_reducible refine T_act0 fun K hK => ?_); simp; (try simp (disch := omega) only [wrap64]); (first | ((with_reducible refine hK _ ?_); (clear hK; clear K)) | ((with_reducible refine And.intro ?_ (hK _ ?_)) <;> (clear hK; clear K)) | (repeat' (with_reducible refine And.intro ?_ ?_)) | skip))
        | ((with_reducible refine T_actg fun K hK => ?_); first | (refine act_T rfl ?_; simp; (try simp (disch := omega) only [wrap64]); (first | ((with_reducible refine hK _ ?_); (clear hK; clear K)) | ((with_reducible refine And.intro ?_ (hK _ ?_)) <;> (clear hK; clear K)) | (repeat' (with_reducible refine And.intro ?_ ?_)) | skip)) | (refine act_F rfl ?_; simp; (with_reducible refine hK _ ?_); (clear hK; clear K)) | (refine act_N rfl ?_; simp; (with_reducible refine hK _ ?_); (clear hK; clear K)) | (refine act_c rfl fun c hc => ?_; cases c <;> (simp only [hc]; simp; (try simp (disch := omega) only [wrap64]); (try simp at hc); (first | ((with_reducible refine hK _ ?_); (clear hK; clear K)) | ((with_reducible refine And.intro ?_ (hK _ ?_)) <;> (clear hK; clear K)) | (repeat' (with_reducible refine And.intro ?_ ?_)) | skip))))
        | (with_reducible refine vc_block_i fun Y hY hN => ?_)
        | ((with_reducible refine vc_skip_i ?_); apply_assumption -exfalso -symm)
        | ((with_reducible refine vc_cond_i rfl ?_ ?_) <;> (intro hb; try simp at hb))
        | ((with_reducible refine vc_exit_i ?_); apply_assumption -exfalso -symm; try apply_assumption -exfalso -symm)
        | ((with_reducible refine vc_ret_i ?_); (with_reducible refine hR _ ?_); simp [r6]; (try refine ret_val (by simp) (hQ _ _ ?_)))
        | ((with_reducible refine hR _ ?_); simp [r6]; (try refine ret_val (by simp) (hQ _ _ ?_)))
        | (intros; omega))
      refine ⟨(), turn_at [.frz 60, .frz 64] id id ?_⟩
      simp [keys]
      have hf : ∀ (j : Nat), j < q.length → aQ4 ((Option.map (shW s) q[j]?).getD default) = (Option.map (fun x => aQ4 (shW s x)) q[j]?).getD AV.top := by
        intro j hj
        simp [List.getElem?_eq_getElem hj]
      exact ⟨fun j hj => .inl (hf j hj), fun j hj => .inl (hf j hj)⟩
    · skip
      simp only [List.map_cons, List.length_cons] at hl ⊢
      repeat' (first
        | (with_reducible refine vc_seq_i fun K hK => ?_)
        | (with_reducible refine vc_ops_i ?_)
        | ((with_reducible refine ops_nil ?_); apply_assumption -exfalso -symm)
        | ((with_reducible refine ops_q fun K hK => ?_); simp; (try simp (disch := omega) only [wrap64]); (first | (with_reducible refine hK _ ?_) | (with_reducible refine alt_T (hK _ ?_)) | (with_reducible refine alt_wrap (by omega) (hK _ ?_)) | (with_reducible refine alt_same (hK _ ?_)) | (with_reducible refine alt_T' (hK _ ?_) ?_) | (with_reducible refine alt_wrap' (by omega) (hK _ ?_) ?_) | (with_reducible refine alt_same' (hK _ ?_) ?_) | (with_reducible refine And.intro ?_ (hK _ ?_)) | (refine fun _ => ?_; first | (with_reducible refine hK _ ?_) | (with_reducible refine alt_T (hK _ ?_)) | (with_reducible refine alt_wrap (by omega) (hK _ ?_)) | (with_reducible refine alt_same (hK _ ?_)))) <;> (clear hK; clear K))
        | ((with_reducible refine ops_a0 fun K hK => ?_); simp; (try simp (disch := omega) only [wrap64]); (first | ((with_reducible refine hK _ ?_); (clear hK; clear K)) | ((with_reducible refine And.intro ?_ (hK _ ?_)) <;> (clear hK; clear K)) | (repeat' (with_reducible refine And.intro ?_ ?_)) | skip))
        | ((with_reducible refine ops_ag fun K hK => ?_); first | (refine act_T rfl ?_; simp; (try simp (disch := omega) only [wrap64]); (first | ((with_reducible refine hK _ ?_); (clear hK; clear K)) | ((with_reducible refine And.intro ?_ (hK _ ?_)) <;> (clear hK; clear K)) | (repeat' (with_reducible refine And.intro ?_ ?_)) | skip)) | (refine act_F rfl ?_; simp; (with_reducible refine hK _ ?_); (clear hK; clear K)) | (refine act_N rfl ?_; simp; (with_reducible refine hK _ ?_); (clear hK; clear K)) | (refine act_c rfl fun c hc => ?_; cases c <;> (simp only [hc]; simp; (try simp (disch := omega) only [wrap64]); (try simp at hc); (first | ((with_reducible refine hK _ ?_); (clear hK; clear K)) | ((with_reducible refine And.intro ?_ (hK _ ?_)) <;> (clear hK; clear K)) | (repeat' (with_reducible refine And.intro ?_ ?_)) | skip))))
        | (with_reducible refine vc_drw_i [] ?_)
        | ((with_reducible refine T_done ?_); apply_assumption -exfalso -symm)
        | ((with_reducible refine T_take (by simp) fun K hK => ?_); simp; (try simp (disch := omega) only [wrap64]); (first | (with_reducible refine hK _ ?_) | (with_reducible refine alt_T (hK _ ?_)) | (with_reducible refine alt_wrap (by omega) (hK _ ?_)) | (with_reducible refine alt_same (hK _ ?_)) | (with_reducible refine alt_T' (hK _ ?_) ?_) | (with_reducible refine alt_wrap' (by omega) (hK _ ?_) ?_) | (with_reducible refine alt_same' (hK _ ?_) ?_) | (with_reducible refine And.intro ?_ (hK _ ?_)) | (refine fun _ => ?_; first | (with_reducible refine hK _ ?_) | (with_reducible refine alt_T (hK _ ?_)) | (with_reducible refine alt_wrap (by omega) (hK _ ?_)) | (with_reducible refine alt_same (hK _ ?_)))) <;> (clear hK; clear K))
        | ((with_reducible refine T_act0 fun K hK => ?_); simp; (try simp (disch := omega) only [wrap64]); (first | ((with_reducible refine hK _ ?_); (clear hK; clear K)) | ((with_reducible refine And.intro ?_ (hK _ ?_)) <;> (clear hK; clear K)) | (repeat' (with_reducible refine And.intro ?_ ?_)) | skip))
        | ((with_reducible refine T_actg fun K hK => ?_); first | (refine act_T rfl ?_; simp; (try simp (disch := omega) only [wrap64]); (first | ((with_reducible refine hK _ ?_); (clear hK; clear K)) | ((with_reducible refine And.intro ?_ (hK _ ?_)) <;> (clear hK; clear K)) | (repeat' (with_reducible refine And.intro ?_ ?_)) | skip)) | (refine act_F rfl ?_; simp; (with_reducible refine hK _ ?_); (clear hK; clear K)) | (refine act_N rfl ?_; simp; (with_reducible refine hK _ ?_); (clear hK; clear K)) | (refine act_c rfl fun c hc => ?_; cases c <;> (simp only [hc]; simp; (try simp (disch := omega) only [wrap64]); (try simp at hc); (first | ((with_reducible refine hK _ ?_); (clear hK; clear K)) | ((with_reducible refine And.intro ?_ (hK _ ?_)) <;> (clear hK; clear K)) | (repeat' (with_reducible refine And.intro ?_ ?_)) | skip))))
        | (with_reducible refine vc_block_i fun Y hY hN => ?_)
        | ((with_reducible refine vc_skip_i ?_); apply_assumption -exfalso -symm)
        | ((with_reducible refine vc_cond_i rfl ?_ ?_) <;> (intro hb; try simp at hb))
        | ((with_reducible refine vc_exit_i ?_); apply_assumption -exfalso -symm; try apply_assumption -exfalso -symm)
        | ((with_reducible refine vc_ret_i ?_); (with_reducible refine hR _ ?_); simp [r6]; (try refine ret_val (by simp) (hQ _ _ ?_)))
        | ((with_reducible refine hR _ ?_); simp [r6]; (try refine ret_val (by simp) (hQ _ _ ?_)))
        | (intros; omega))
      exact ⟨⟨(pre ++ [x], post), by simp [hpq]⟩, by simp, turn_id (by simp) rfl (by simp [shW])⟩
  · simp
end Go.VV
