/- Part of a proof: the laws of single functions of the given program, shown step by step. -/
import Derived.Test.YtfcaebjpnakhhaaCX
import Derived.Test.YtfcaebjpnakhhaaV25
import Derived.Test.YtfcaebjpnakhhaaP2
set_option linter.unusedSimpArgs false
set_option linter.unusedVariables false
set_option linter.unnecessarySimpa false
namespace Go.VV
open Go.Proofs
set_option maxRecDepth 4000
set_option maxHeartbeats 8000000
theorem chk_ok {m : Mn} (h : okM m) : chkM m = 0 := by
  unfold chkM
  have h1 := h.n7
  have h2 := h.r10
  rw [if_neg (by omega), if_neg]
  · exact fstR_ok fun r hr => by
      obtain ⟨⟨a1, a2⟩, ⟨a3, a4⟩, a5, ⟨a6, a7⟩, ⟨a8, a9⟩, a10, a11, a12, a13⟩ := h.rs r hr
      unfold badR
      rw [if_neg (by omega), if_neg]
      simp only [spanB, a10, a11, a12, a13]
      simp
      omega
  · rintro ⟨p, hp, hb⟩
    have := h.ps p hp
    unfold okP at this
    unfold badP at hb
    omega
theorem rises_up {l : List Int} {n : Int} (h : up l n) : rises l 0 (n - 1) = true := by
  simp only [rises, decide_eq_true_eq]
  intro j hj
  have := h j hj
  exact ⟨by omega, this.2⟩
theorem okRd_ok {n : Int} {x : Rd} (h : okX n x) : okRd n x = true := by
  have h1 := h.p1
  have h2 := h.p
  have h3 := h.m
  have h4 := h.s
  simp only [okRd, rises_up h.pu, inB, Bool.and_eq_true, bne_iff_ne, decide_eq_true_eq, and_true]
  omega
theorem okRds_ok {m : Mn} {l : List Rd} (hm : okM m) (hl : l.length ≤ 3 ∧ ∀ x ∈ l, okX m.ps.length x) : okRds m l = true := by
  simp only [okRds, chk_ok hm, Bool.and_eq_true, decide_eq_true_eq, List.all_eq_true, true_and]
  exact ⟨by omega, fun x hx => okRd_ok (hl.2 x hx)⟩
abbrev mt7 : Mt := fun f => f == 26 || f == 21
abbrev rdR (l : List Rd) : List (Nat × Row) := [(0, ⟨46, 4, l.map aRd, true⟩)]
theorem wk_lrd (l : List Rd) : Wk id 0 (Lrd l) (.sl 4 (l.map aRd).length fun j => (l.map aRd).getD j .top) := wk_sl (by simp) fun j hj => by simp [List.getD_eq_getElem?_getD, List.getElem?_eq_getElem hj]
theorem s26o (m : Mn) (l : List Rd) : Spec Try.prog 26 ⟨rdR l, []⟩ 1 [aMn m, .own 0] (fun v C' => v = .bool (okRds m l) ∧ C' = ⟨rdR l, []⟩) :=
  (s26 m l).lend (fun r h => by subst h; rfl) (by simp) ⟨wk_id rfl, wk_lrd l, trivial⟩
theorem s21o (l : List Rd) (rd tag : Int) (rs : List Rp) : Spec Try.prog 21 ⟨rdR l, []⟩ 1 [.own 0, I rd, I tag, Lrp rs] (fun v C' => v = .bool true ∧ C' = ⟨rdR l, []⟩) :=
  (s21 l rd tag rs).lend (fun r h => by subst h; rfl) (by simp) ⟨wk_lrd l, rfl, rfl, wk_same, trivial⟩
theorem lrd_get (l : List Rd) (j : Nat) (hj : j < l.length) : aRd (l[j]?.getD default) = (l.map aRd).getD j .top := by
  simp [List.getD_eq_getElem?_getD, List.getElem?_eq_getElem hj]
@[simp] theorem mid_map {α β : Type} (f : α → β) (pre : List α) (y : β) (post : List β) : (List.map f pre ++ y :: post)[pre.length]? = some y := by
  rw [List.getElem?_append_right (by simp)]
  simp
@[simp] theorem mid_set {α β : Type} (f : α → β) (pre : List α) (y z : β) (post : List β) : (List.map f pre ++ y :: post).set pre.length z = List.map f pre ++ z :: post := by
  rw [List.set_append_right _ _ (by simp)]
  simp
theorem split_at {α : Type} {l : List α} {j : Nat} (h : j < l.length) : ∃ pre x post, l = pre ++ x :: post ∧ pre.length = j :=
  ⟨l.take j, l[j], l.drop (j + 1), by simp, by simp; omega⟩
theorem mid_turn {ρ : Nat → Nat} {n : Nat} {pre : List Rd} {x : Rd} {post : List Rd} {e : AV} (h : Wk ρ n (aRd x) e) : ∀ j, j < pre.length + (post.length + 1) → aRd ((pre ++ x :: post)[j]?.getD default) = (List.map aRd pre ++ e :: List.map aRd post)[j]?.getD AV.top ∨ Opq (Wk ρ n (aRd ((pre ++ x :: post)[j]?.getD default)) ((List.map aRd pre ++ e :: List.map aRd post)[j]?.getD AV.top)) := by
  intro j hj
  rcases Nat.lt_trichotomy j pre.length with h1 | h1 | h1
  · left
    rw [List.getElem?_append_left h1, List.getElem?_append_left (by simpa using h1)]
    simp [h1]
  · right
    subst h1
    rw [List.getElem?_append_right (Nat.le_refl _), mid_map]
    simpa [Opq] using h
  · left
    obtain ⟨k, rfl⟩ : ∃ k, j = pre.length + 1 + k := ⟨j - pre.length - 1, by omega⟩
    have hk : k < post.length := by omega
    rw [List.getElem?_append_right (by omega), List.getElem?_append_right (by simp; omega)]
    rw [show pre.length + 1 + k - pre.length = k + 1 by omega, show pre.length + 1 + k - (List.map aRd pre).length = k + 1 by simp; omega]
    simp [hk]
theorem app_turn {l : List Int} {a : Int} : ∀ j, j < l.length + 1 → I ((l ++ [a])[j]?.getD 0) = (List.map (fun j => I (l[j]?.getD 0)) (List.range l.length) ++ [I a])[j]?.getD AV.top := by
  intro j hj
  rcases Nat.lt_or_ge j l.length with h1 | h1
  · rw [List.getElem?_append_left h1, List.getElem?_append_left (by simpa using h1)]
    simp [h1]
  · obtain rfl : j = l.length := by omega
    simp
theorem s7 (L : List Int) (raw : List Rp) (a b : Int) : Spec Try.prog 7 ⟨[], []⟩ 0 [Lint L, Lrp raw, .ag [I a, I b]] (fun v C' => v = .bool true ∧ C' = ⟨[], []⟩) := by
  refine l7.go mixed mt7 (by simp) fun Q hQ Rt hR => ?_
  unfold c7
  simp only [argT]
  repeat' (first
    | (with_reducible refine vc_seq_i fun K hK => ?_)
    | (with_reducible refine vc_ops_i ?_)
    | ((with_reducible refine ops_nil ?_); apply_assumption -exfalso -symm)
    | ((with_reducible refine ops_q fun K hK => ?_); simp; (try simp (disch := omega) only [wrap64]); (first | (with_reducible refine hK _ ?_) | (with_reducible refine alt_T (hK _ ?_)) | (with_reducible refine alt_wrap (by omega) (hK _ ?_)) | (with_reducible refine alt_same (hK _ ?_)) | (with_reducible refine alt_T' (hK _ ?_) ?_) | (with_reducible refine alt_wrap' (by omega) (hK _ ?_) ?_) | (with_reducible refine alt_same' (hK _ ?_) ?_) | (with_reducible refine And.intro ?_ (hK _ ?_)) | (refine fun _ => ?_; first | (with_reducible refine hK _ ?_) | (with_reducible refine alt_T (hK _ ?_)) | (with_reducible refine alt_wrap (by omega) (hK _ ?_)) | (with_reducible refine alt_same (hK _ ?_)))) <;> (clear hK; clear K))
    | ((with_reducible refine ops_a0 fun K hK => ?_); simp; (try simp (disch := omega) only [wrap64]); (first | ((with_reducible refine hK _ ?_); (clear hK; clear K)) | ((with_reducible refine And.intro ?_ (hK _ ?_)) <;> (clear hK; clear K)) | (repeat' (with_reducible refine And.intro ?_ ?_)) | skip))
    | ((with_reducible refine ops_ag fun K hK => ?_); first | (refine act_T rfl ?_; simp; (try simp (disch := omega) only [wrap64]); (first | ((with_reducible refine hK _ ?_); (clear hK; clear K)) | ((with_reducible refine And.intro ?_ (hK _ ?_)) <;> (clear hK; clear K)) | (repeat' (with_reducible refine And.intro ?_ ?_)) | skip)) | (refine act_F rfl ?_; simp; (with_reducible refine hK _ ?_); (clear hK; clear K)) | (refine act_N rfl ?_; simp; (with_reducible refine hK _ ?_); (clear hK; clear K)) | (refine act_c rfl fun c hc => ?_; cases c <;> (simp only [hc]; simp; (try simp (disch := omega) only [wrap64]); (try simp at hc); (first | ((with_reducible refine hK _ ?_); (clear hK; clear K)) | ((with_reducible refine And.intro ?_ (hK _ ?_)) <;> (clear hK; clear K)) | (repeat' (with_reducible refine And.intro ?_ ?_)) | skip))))
    | (with_reducible refine vc_drw_i [] ?_)
    | ((with_reducible refine T_done ?_); apply_assumption -exfalso -symm)
    | ((with_reducible refine T_take (by simp) fun K hK => ?_); simp; (try simp (disch := omega) only [wrap64]); (first | (with_reducible refine hK _ ?_) | (with_reducible refine alt_T (hK _ ?_)) | (with_reducible refine alt_wrap (by omega) (hK _ ?_)) | (with_reducible refine alt_same (hK _ ?_)) | (with_reducible refine alt_T' (hK _ ?_) ?_) | (with_reducible refine alt_wrap' (by omega) (hK _ ?_) ?_) | (with_reducible refine alt_same' (hK _ ?_) ?_) | (with_reducible refine And.intro ?_ (hK _ ?_)) | (refine fun _ => ?_; first | (with_reducible refine hK _ ?_) | (with_reducible refine alt_T (hK _ ?_)) | (with_reducible refine alt_wrap (by omega) (hK _ ?_)) | (with_reducible refine alt_same (hK _ ?_)))) <;> (clear hK; clear K))
    | ((with_reducible refine T_actq fun K hK => ?_); simp; (try simp (disch := omega) only [wrap64]); (first | (with_reducible refine hK _ ?_) | (with_reducible refine alt_T (hK _ ?_)) | (with_reducible refine alt_wrap (by omega) (hK _ ?_)) | (with_reducible refine alt_same (hK _ ?_)) | (with_reducible refine alt_T' (hK _ ?_) ?_) | (with_reducible refine alt_wrap' (by omega) (hK _ ?_) ?_) | (with_reducible refine alt_same' (hK _ ?_) ?_) | (with_reducible refine And.intro ?_ (hK _ ?_)) | (refine fun _ => ?_; first | (with_reducible refine hK _ ?_) | (with_reducible refine alt_T (hK _ ?_)) | (with_reducible refine alt_wrap (by omega) (hK _ ?_)) | (with_reducible refine alt_same (hK _ ?_)))) <;> (clear hK; clear K))
    | (with_reducible refine T_two ?_ ?_)
    | ((with_reducible refine T_act0 fun K hK => ?_); simp; (try simp (disch := omega) only [wrap64]); (first | ((with_reducible refine hK _ ?_); (clear hK; clear K)) | ((with_reducible refine And.intro ?_ (hK _ ?_)) <;> (clear hK; clear K)) | (repeat' (with_reducible refine And.intro ?_ ?_)) | skip))
    | ((with_reducible refine T_actg fun K hK => ?_); first | (refine act_T rfl ?_; simp; (try simp (disch := omega) only [wrap64]); (first | ((with_reducible refine hK _ ?_); (clear hK; clear K)) | ((with_reducible refine And.intro ?_ (hK _ ?_)) <;> (clear hK; clear K)) | (repeat' (with_reducible refine And.intro ?_ ?_)) | skip)) | (refine act_F rfl ?_; simp; (with_reducible refine hK _ ?_); (clear hK; clear K)) | (refine act_N rfl ?_; simp; (with_reducible refine hK _ ?_); (clear hK; clear K)) | (refine act_c rfl fun c hc => ?_; cases c <;> (simp only [hc]; simp; (try simp (disch := omega) only [wrap64]); (try simp at hc); (first | ((with_reducible refine hK _ ?_); (clear hK; clear K)) | ((with_reducible refine And.intro ?_ (hK _ ?_)) <;> (clear hK; clear K)) | (repeat' (with_reducible refine And.intro ?_ ?_)) | skip))))
    | (with_reducible refine vc_block_i fun Y hY hN => ?_)
    | ((with_reducible refine vc_skip_i ?_); apply_assumption -exfalso -symm)
    | ((with_reducible refine vc_cond_i rfl ?_ ?_) <;> (intro hb; try simp at hb))
    | ((with_reducible refine vc_exit_i ?_); apply_assumption -exfalso -symm; try apply_assumption -exfalso -symm)
    | ((with_reducible refine vc_ret_i ?_); (with_reducible refine hR _ ?_); simp [r7]; (try refine ret_val (by simp) (hQ _ _ ?_)))
    | ((with_reducible refine hR _ ?_); simp [r7]; (try refine ret_val (by simp) (hQ _ _ ?_)))
    | ((with_reducible show vcCall _ _ _ _ _ _ _); refine call_0 (s8 _) ⟨wk_same, trivial⟩ ?_; rintro _ _ ⟨rfl, rfl⟩; simp; first | ((with_reducible refine hK _ ?_); (clear hK; clear K)) | (with_reducible apply_assumption -exfalso -symm))
    | ((with_reducible show vcCall _ _ _ _ _ _ _); refine call_0 (s14) trivial ?_; rintro _ _ ⟨rfl, rfl⟩; simp; first | ((with_reducible refine hK _ ?_); (clear hK; clear K)) | (with_reducible apply_assumption -exfalso -symm))
    | (intros; omega))
  · simp
  refine loop_i {i : Nat // i ≤ raw.length} (fun i => ⟨[(0, Lint L), (1, Lrp raw), (5, .ptr 0 0), (7, I i.1)], [], [(0, ⟨55, [I a, I b]⟩)], 5, 152⟩) (fun i => raw.length - i.1) ⟨0, Nat.zero_le _⟩ ?_ ?_
  · exact turn_id (by simp) rfl (by simp)
  rintro ⟨i, hi⟩ K hK
  simp only
  repeat' (first
    | (with_reducible refine vc_seq_j (x := .seq _ (.cond (.t 70) _ _)) {s : Mn × List Rd // True} (fun s => ⟨[(9, .ptr 13 0), (10, Lrd s.1.2)], [], [(13, ⟨41, [Lpl s.1.1.ps, Lro s.1.1.rs]⟩)], 60, 152⟩) (fun K hK => ?_) (fun s => ?_))
    | (with_reducible refine vc_seq_j (x := .ops [⟨some 77, none, true, .mov (.t 8)⟩, _]) {s : (List Rd × Rd × List Rd) × Int // l0 = s.1.1 ++ s.1.2.1 :: s.1.2.2 ∧ 0 ≤ s.2 ∧ s.2 < 7} (fun s => ⟨[(5, .ptr 0 0), (9, .ptr 13 0), (10, .own 14), (11, .ept (.own 14) 4 s.1.1.1.length 0), (78, I s.1.2)], [(14, ⟨46, 4, (s.1.1.1 ++ s.1.1.2.1 :: s.1.1.2.2).map aRd, false⟩)], [(13, ⟨41, [Lpl m.ps, Lro m.rs]⟩), (0, ⟨55, [I a, I b]⟩)], 46, 152⟩) (fun K hK => ?_) (fun s => Opq.out ?_))
    | (with_reducible refine vc_seq_i fun K hK => ?_)
    | (with_reducible refine vc_ops_i ?_)
    | ((with_reducible refine ops_nil ?_); apply_assumption -exfalso -symm)
    | ((with_reducible refine ops_q fun K hK => ?_); simp; (try simp (disch := omega) only [wrap64]); (first | (with_reducible refine hK _ ?_) | (with_reducible refine alt_T (hK _ ?_)) | (with_reducible refine alt_wrap (by omega) (hK _ ?_)) | (with_reducible refine alt_same (hK _ ?_)) | (with_reducible refine alt_T' (hK _ ?_) ?_) | (with_reducible refine alt_wrap' (by omega) (hK _ ?_) ?_) | (with_reducible refine alt_same' (hK _ ?_) ?_) | (with_reducible refine And.intro ?_ (hK _ ?_)) | (refine fun _ => ?_; first | (with_reducible refine hK _ ?_) | (with_reducible refine alt_T (hK _ ?_)) | (with_reducible refine alt_wrap (by omega) (hK _ ?_)) | (with_reducible refine alt_same (hK _ ?_)))) <;> (clear hK; clear K))
    | ((with_reducible refine ops_a0 fun K hK => ?_); simp; (try simp (disch := omega) only [wrap64]); (first | ((with_reducible refine hK _ ?_); (clear hK; clear K)) | ((with_reducible refine And.intro ?_ (hK _ ?_)) <;> (clear hK; clear K)) | (repeat' (with_reducible refine And.intro ?_ ?_)) | skip))
    | ((with_reducible refine ops_ag fun K hK => ?_); first | (refine act_T rfl ?_; simp; (try simp (disch := omega) only [wrap64]); (first | ((with_reducible refine hK _ ?_); (clear hK; clear K)) | ((with_reducible refine And.intro ?_ (hK _ ?_)) <;> (clear hK; clear K)) | (repeat' (with_reducible refine And.intro ?_ ?_)) | skip)) | (refine act_F rfl ?_; simp; (with_reducible refine hK _ ?_); (clear hK; clear K)) | (refine act_N rfl ?_; simp; (with_reducible refine hK _ ?_); (clear hK; clear K)) | (refine act_c rfl fun c hc => ?_; cases c <;> (simp only [hc]; simp; (try simp (disch := omega) only [wrap64]); (try simp at hc); (first | ((with_reducible refine hK _ ?_); (clear hK; clear K)) | ((with_reducible refine And.intro ?_ (hK _ ?_)) <;> (clear hK; clear K)) | (repeat' (with_reducible refine And.intro ?_ ?_)) | skip))))
    | (with_reducible refine vc_drw_i [] ?_)
    | ((with_reducible refine T_done ?_); apply_assumption -exfalso -symm)
    | ((with_reducible refine T_take (by simp) fun K hK => ?_); simp; (try simp (disch := omega) only [wrap64]); (first | (with_reducible refine hK _ ?_) | (with_reducible refine alt_T (hK _ ?_)) | (with_reducible refine alt_wrap (by omega) (hK _ ?_)) | (with_reducible refine alt_same (hK _ ?_)) | (with_reducible refine alt_T' (hK _ ?_) ?_) | (with_reducible refine alt_wrap' (by omega) (hK _ ?_) ?_) | (with_reducible refine alt_same' (hK _ ?_) ?_) | (with_reducible refine And.intro ?_ (hK _ ?_)) | (refine fun _ => ?_; first | (with_reducible refine hK _ ?_) | (with_reducible refine alt_T (hK _ ?_)) | (with_reducible refine alt_wrap (by omega) (hK _ ?_)) | (with_reducible refine alt_same (hK _ ?_)))) <;> (clear hK; clear K))
    | ((with_reducible refine T_actq fun K hK => ?_); simp; (try simp (disch := omega) only [wrap64]); (first | (with_reducible refine hK _ ?_) | (with_reducible refine alt_T (hK _ ?_)) | (with_reducible refine alt_wrap (by omega) (hK _ ?_)) | (with_reducible refine alt_same (hK _ ?_)) | (with_reducible refine alt_T' (hK _ ?_) ?_) | (with_reducible refine alt_wrap' (by omega) (hK _ ?_) ?_) | (with_reducible refine alt_same' (hK _ ?_) ?_) | (with_reducible refine And.intro ?_ (hK _ ?_)) | (refine fun _ => ?_; first | (with_reducible refine hK _ ?_) | (with_reducible refine alt_T (hK _ ?_)) | (with_reducible refine alt_wrap (by omega) (hK _ ?_)) | (with_reducible refine alt_same (hK _ ?_)))) <;> (clear hK; clear K))
    | (with_reducible refine T_two ?_ ?_)
    | ((with_reducible refine T_act0 fun K hK => ?_); simp; (try simp (disch := omega) only [wrap64]); (first | ((with_reducible refine hK _ ?_); (clear hK; clear K)) | ((with_reducible refine And.intro ?_ (hK _ ?_)) <;> (clear hK; clear K)) | (repeat' (with_reducible refine And.intro ?_ ?_)) | skip))
    | ((with_reducible refine T_actg fun K hK => ?_); first | (refine act_T rfl ?_; simp; (try simp (disch := omega) only [wrap64]); (first | ((with_reducible refine hK _ ?_); (clear hK; clear K)) | ((with_reducible refine And.intro ?_ (hK _ ?_)) <;> (clear hK; clear K)) | (repeat' (with_reducible refine And.intro ?_ ?_)) | skip)) | (refine act_F rfl ?_; simp; (with_reducible refine hK _ ?_); (clear hK; clear K)) | (refine act_N rfl ?_; simp; (with_reducible refine hK _ ?_); (clear hK; clear K)) | (refine act_c rfl fun c hc => ?_; cases c <;> (simp only [hc]; simp; (try simp (disch := omega) only [wrap64]); (try simp at hc); (first | ((with_reducible refine hK _ ?_); (clear hK; clear K)) | ((with_reducible refine And.intro ?_ (hK _ ?_)) <;> (clear hK; clear K)) | (repeat' (with_reducible refine And.intro ?_ ?_)) | skip))))
    | (with_reducible refine vc_block_i fun Y hY hN => ?_)
    | ((with_reducible refine vc_skip_i ?_); apply_assumption -exfalso -symm)
    | ((with_reducible refine vc_cond_i rfl ?_ ?_) <;> (intro hb; try simp at hb))
    | ((with_reducible refine vc_exit_i ?_); apply_assumption -exfalso -symm; try apply_assumption -exfalso -symm)
    | ((with_reducible refine vc_ret_i ?_); (with_reducible refine hR _ ?_); simp [r7]; (try refine ret_val (by simp) (hQ _ _ ?_)))
    | ((with_reducible refine hR _ ?_); simp [r7]; (try refine ret_val (by simp) (hQ _ _ ?_)))
    | ((with_reducible show vcCall _ _ _ _ _ _ _); refine call_0 (s14) trivial ?_; rintro _ _ ⟨rfl, rfl⟩; simp; first | ((with_reducible refine hK _ ?_); (clear hK; clear K)) | (with_reducible apply_assumption -exfalso -symm))
    | ((with_reducible show vcCall _ _ _ _ _ _ _); refine call_0 (s10 _) ⟨wk_same, trivial⟩ ?_; rintro _ _ ⟨rfl, rfl⟩; simp; first | ((with_reducible refine hK _ ?_); (clear hK; clear K)) | (with_reducible apply_assumption -exfalso -symm))
    | ((with_reducible show vcCall _ _ _ _ _ _ _); refine call_i (s15 _ _) (fun _ => 5) (fun _ => 0) (by simp) ⟨⟨⟨rfl, by simp⟩, trivial⟩, trivial, ⟨⟨by simp, rfl, ⟨wk_same, rfl, trivial⟩⟩, trivial⟩⟩ ?_; rintro _ _ ⟨m, b1, hm, rfl, rfl⟩; simp; first | ((with_reducible refine hK _ ?_); (clear hK; clear K)) | (with_reducible apply_assumption -exfalso -symm))
    | ((with_reducible show vcCall _ _ _ _ _ _ _); refine call_i (s16 _ _ _ hm) (fun _ => 5) (fun _ => 0) (by simp) ⟨⟨⟨rfl, by simp⟩, ⟨wk_same, wk_same, trivial⟩, trivial⟩, trivial, ⟨⟨by simp, rfl, ⟨wk_same, rfl, trivial⟩⟩, trivial⟩⟩ ?_; rintro _ _ ⟨l0, b2, hl0, rfl, rfl⟩; simp; first | ((with_reducible refine hK _ ?_); (clear hK; clear K)) | (with_reducible apply_assumption -exfalso -symm))
    | ((with_reducible show vcCall _ _ _ _ _ _ _); refine call_p [14] (s21o l0 _ _ raw) rfl rfl ⟨⟨by simp, rfl, rfl, wk_same, trivial⟩, by simp⟩ ?_; rintro _ _ ⟨rfl, rfl⟩; simp; first | ((with_reducible refine hK _ ?_); (clear hK; clear K)) | (with_reducible apply_assumption -exfalso -symm))
    | ((with_reducible show vcCall _ _ _ _ _ _ _); refine call_p [14] (s26o m l0) rfl rfl ⟨⟨⟨wk_same, wk_same, trivial⟩, by simp⟩, by simp⟩ ?_; rintro _ _ ⟨rfl, rfl⟩; simp; first | ((with_reducible refine hK _ ?_); (clear hK; clear K)) | (with_reducible apply_assumption -exfalso -symm))
    | ((with_reducible show vcCall _ _ _ _ _ _ _); refine call_0 (s24 _ _) ⟨rfl, rfl, trivial⟩ ?_; rintro _ _ ⟨rfl, rfl⟩; simp; first | ((with_reducible refine hK _ ?_); (clear hK; clear K)) | (with_reducible apply_assumption -exfalso -symm))
    | ((with_reducible show vcCall _ _ _ _ _ _ _); refine call_0 (s26 _ _) ⟨⟨wk_same, wk_same, trivial⟩, wk_same, trivial⟩ ?_; rintro _ _ ⟨rfl, rfl⟩; simp; first | ((with_reducible refine hK _ ?_); (clear hK; clear K)) | (with_reducible apply_assumption -exfalso -symm))
    | ((with_reducible show vcCall _ _ _ _ _ _ _); refine call_0 (s27 _ _) ⟨⟨wk_same, wk_same, trivial⟩, wk_same, trivial⟩ ?_; rintro _ _ ⟨rfl, rfl⟩; simp; first | ((with_reducible refine hK _ ?_); (clear hK; clear K)) | (with_reducible apply_assumption -exfalso -symm))
    | ((with_reducible show vcCall _ _ _ _ (Opn.t 72 :: _) _ _); refine call_i (n12 _ _ l0.length (by omega) (by omega)) (fun _ => 5) (fun _ => 0) (by simp) ⟨⟨⟨rfl, by simp⟩, rfl, trivial⟩, trivial, ⟨⟨by simp, rfl, ⟨wk_same, rfl, trivial⟩⟩, trivial⟩⟩ ?_; rintro _ _ ⟨v, b5, hv, rfl, rfl⟩; simp; first | ((with_reducible refine hK _ ?_); (clear hK; clear K)) | (with_reducible apply_assumption -exfalso -symm))
    | ((with_reducible show vcCall _ _ _ _ (Opn.t 77 :: _) _ _); refine call_i (n12 _ _ 7 (by simp) (by simp)) (fun _ => 5) (fun _ => 0) (by simp) ⟨⟨⟨rfl, by simp⟩, rfl, trivial⟩, trivial, ⟨⟨by simp, rfl, ⟨wk_same, rfl, trivial⟩⟩, trivial⟩⟩ ?_; rintro _ _ ⟨c, b6, hcc, rfl, rfl⟩; simp; first | ((with_reducible refine hK _ ?_); (clear hK; clear K)) | (with_reducible apply_assumption -exfalso -symm))
    | (intros; omega))
  · simp
  · exact ⟨⟨i + 1, by omega⟩, by simp; omega, turn_id (by simp) rfl (by simp)⟩
  · obtain ⟨pre, x, post, e, hp⟩ := split_at (show v.toNat < l0.length by omega)
    exact ⟨⟨((pre, x, post), c), e, hcc.1, hcc.2⟩, turn_id (by simp) rfl (by simp [e, hp] <;> omega)⟩
  · obtain ⟨⟨⟨pre, x, post⟩, c⟩, he, hc0, hc7⟩ := s
    have hn2 := hm.n2
    have hmod := modI_range (n := b) (m := 2) (by simp) (by simp)
    simp only at he hc0 hc7
    simp only [Opq]
    have hpx : (x.places.length : Int) ≤ 7 := by
      have h1 := (hl0.2 x (by rw [he]; simp)).pl
      have h2 := hm.n7
      omega
    have hpl : (pre.length + (post.length + 1) : Int) ≤ 3 := by
      have h1 := hl0.1
      rw [he] at h1
      simp at h1
      omega
    repeat' (first
      | (with_reducible refine vc_seq_i fun K hK => ?_)
      | (with_reducible refine vc_ops_i ?_)
      | ((with_reducible refine ops_nil ?_); apply_assumption -exfalso -symm)
      | ((with_reducible refine ops_q fun K hK => ?_); simp; (try simp (disch := omega) only [wrap64]); (first | (with_reducible refine hK _ ?_) | (with_reducible refine alt_T (hK _ ?_)) | (with_reducible refine alt_wrap (by omega) (hK _ ?_)) | (with_reducible refine alt_same (hK _ ?_)) | (with_reducible refine alt_T' (hK _ ?_) ?_) | (with_reducible refine alt_wrap' (by omega) (hK _ ?_) ?_) | (with_reducible refine alt_same' (hK _ ?_) ?_) | (with_reducible refine And.intro ?_ (hK _ ?_)) | (refine fun _ => ?_; first | (with_reducible refine hK _ ?_) | (with_reducible refine alt_T (hK _ ?_)) | (with_reducible refine alt_wrap (by omega) (hK _ ?_)) | (with_reducible refine alt_same (hK _ ?_)))) <;> (clear hK; clear K))
      | ((with_reducible refine ops_a0 fun K hK => ?_); simp; (try simp (disch := omega) only [wrap64]); (first | ((with_reducible refine hK _ ?_); (clear hK; clear K)) | ((with_reducible refine And.intro ?_ (hK _ ?_)) <;> (clear hK; clear K)) | (repeat' (with_reducible refine And.intro ?_ ?_)) | skip))
      | ((with_reducible refine ops_ag fun K hK => ?_); first | (refine act_T rfl ?_; simp; (try simp (disch := omega) only [wrap64]); (first | ((with_reducible refine hK _ ?_); (clear hK; clear K)) | ((with_reducible refine And.intro ?_ (hK _ ?_)) <;> (clear hK; clear K)) | (repeat' (with_reducible refine And.intro ?_ ?_)) | skip)) | (refine act_F rfl ?_; simp; (with_reducible refine hK _ ?_); (clear hK; clear K)) | (refine act_N rfl ?_; simp; (with_reducible refine hK _ ?_); (clear hK; clear K)) | (refine act_c rfl fun c hc => ?_; cases c <;> (simp only [hc]; simp; (try simp (disch := omega) only [wrap64]); (try simp at hc); (first | ((with_reducible refine hK _ ?_); (clear hK; clear K)) | ((with_reducible refine And.intro ?_ (hK _ ?_)) <;> (clear hK; clear K)) | (repeat' (with_reducible refine And.intro ?_ ?_)) | skip))))
      | (with_reducible refine vc_drw_i [] ?_)
      | ((with_reducible refine T_done ?_); apply_assumption -exfalso -symm)
      | ((with_reducible refine T_take (by simp) fun K hK => ?_); simp; (try simp (disch := omega) only [wrap64]); (first | (with_reducible refine hK _ ?_) | (with_reducible refine alt_T (hK _ ?_)) | (with_reducible refine alt_wrap (by omega) (hK _ ?_)) | (with_reducible refine alt_same (hK _ ?_)) | (with_reducible refine alt_T' (hK _ ?_) ?_) | (with_reducible refine alt_wrap' (by omega) (hK _ ?_) ?_) | (with_reducible refine alt_same' (hK _ ?_) ?_) | (with_reducible refine And.intro ?_ (hK _ ?_)) | (refine fun _ => ?_; first | (with_reducible refine hK _ ?_) | (with_reducible refine alt_T (hK _ ?_)) | (with_reducible refine alt_wrap (by omega) (hK _ ?_)) | (with_reducible refine alt_same (hK _ ?_)))) <;> (clear hK; clear K))
      | ((with_reducible refine T_actq fun K hK => ?_); simp; (try simp (disch := omega) only [wrap64]); (first | (with_reducible refine hK _ ?_) | (with_reducible refine alt_T (hK _ ?_)) | (with_reducible refine alt_wrap (by omega) (hK _ ?_)) | (with_reducible refine alt_same (hK _ ?_)) | (with_reducible refine alt_T' (hK _ ?_) ?_) | (with_reducible refine alt_wrap' (by omega) (hK _ ?_) ?_) | (with_reducible refine alt_same' (hK _ ?_) ?_) | (with_reducible refine And.intro ?_ (hK _ ?_)) | (refine fun _ => ?_; first | (with_reducible refine hK _ ?_) | (with_reducible refine alt_T (hK _ ?_)) | (with_reducible refine alt_wrap (by omega) (hK _ ?_)) | (with_reducible refine alt_same (hK _ ?_)))) <;> (clear hK; clear K))
      | (with_reducible refine T_two ?_ ?_)
      | ((with_reducible refine T_act0 fun K hK => ?_); simp; (try simp (disch := omega) only [wrap64]); (first | ((with_reducible refine hK _ ?_); (clear hK; clear K)) | ((with_reducible refine And.intro ?_ (hK _ ?_)) <;> (clear hK; clear K)) | (repeat' (with_reducible refine And.intro ?_ ?_)) | skip))
      | ((with_reducible refine T_actg fun K hK => ?_); first | (refine act_T rfl ?_; simp; (try simp (disch := omega) only [wrap64]); (first | ((with_reducible refine hK _ ?_); (clear hK; clear K)) | ((with_reducible refine And.intro ?_ (hK _ ?_)) <;> (clear hK; clear K)) | (repeat' (with_reducible refine And.intro ?_ ?_)) | skip)) | (refine act_F rfl ?_; simp; (with_reducible refine hK _ ?_); (clear hK; clear K)) | (refine act_N rfl ?_; simp; (with_reducible refine hK _ ?_); (clear hK; clear K)) | (refine act_c rfl fun c hc => ?_; cases c <;> (simp only [hc]; simp; (try simp (disch := omega) only [wrap64]); (try simp at hc); (first | ((with_reducible refine hK _ ?_); (clear hK; clear K)) | ((with_reducible refine And.intro ?_ (hK _ ?_)) <;> (clear hK; clear K)) | (repeat' (with_reducible refine And.intro ?_ ?_)) | skip))))
      | (with_reducible refine vc_block_i fun Y hY hN => ?_)
      | ((with_reducible refine vc_skip_i ?_); apply_assumption -exfalso -symm)
      | ((with_reducible refine vc_cond_i rfl ?_ ?_) <;> (intro hb; try simp at hb))
      | ((with_reducible refine vc_exit_i ?_); apply_assumption -exfalso -symm; try apply_assumption -exfalso -symm)
      | ((with_reducible refine vc_ret_i ?_); (with_reducible refine hR _ ?_); simp [r7]; (try refine ret_val (by simp) (hQ _ _ ?_)))
      | ((with_reducible refine hR _ ?_); simp [r7]; (try refine ret_val (by simp) (hQ _ _ ?_)))
      | ((with_reducible show vcCall _ _ _ _ _ _ _); refine call_0 (s24 _ _) ⟨rfl, rfl, trivial⟩ ?_; rintro _ _ ⟨rfl, rfl⟩; simp; first | ((with_reducible refine hK _ ?_); (clear hK; clear K)) | (with_reducible apply_assumption -exfalso -symm))
      | (intros; omega))
    · refine ⟨⟨(m, pre ++ ⟨[], x.period, x.miss, x.skew⟩ :: post), trivial⟩, turn_at [.frz 14] id id ?_⟩
      simp [keys]
      exact mid_turn ⟨wk_nil, rfl, rfl, rfl, trivial⟩
    · refine ⟨⟨(m, pre ++ ⟨x.places ++ [a], x.period, x.miss, x.skew⟩ :: post), trivial⟩, turn_at [.frz 14] id id ?_⟩
      simp [keys]
      exact mid_turn ⟨wk_sl (by simp) (fun j hj => app_turn j (by simpa using hj)), rfl, rfl, rfl, trivial⟩
    · refine ⟨⟨(m, pre ++ ⟨x.places ++ [a], x.period, x.miss, x.skew⟩ :: post), trivial⟩, turn_at [.frz 14] id id ?_⟩
      simp [keys]
      exact mid_turn ⟨wk_sl (by simp) (fun j hj => app_turn j (by simpa using hj)), rfl, rfl, rfl, trivial⟩
    · refine ⟨⟨(m, pre ++ ⟨x.places ++ [a], x.period, x.miss, x.skew⟩ :: post), trivial⟩, turn_at [.frz 14] id id ?_⟩
      simp [keys]
      exact mid_turn ⟨wk_sl (by simp) (fun j hj => app_turn j (by simpa using hj)), rfl, rfl, rfl, trivial⟩
    · refine ⟨⟨(m, pre ++ ⟨x.places ++ [a], x.period, x.miss, x.skew⟩ :: post), trivial⟩, turn_at [.frz 14] id id ?_⟩
      simp [keys]
      exact mid_turn ⟨wk_sl (by simp) (fun j hj => app_turn j (by simpa using hj)), rfl, rfl, rfl, trivial⟩
    · refine ⟨⟨(m, pre ++ ⟨x.places, a, x.miss, x.skew⟩ :: post), trivial⟩, turn_at [.frz 14] id id ?_⟩
      simp [keys]
      exact mid_turn ⟨wk_same, rfl, rfl, rfl, trivial⟩
    · refine ⟨⟨(m, pre ++ ⟨x.places, x.period, a, x.skew⟩ :: post), trivial⟩, turn_at [.frz 14] id id ?_⟩
      simp [keys]
      exact mid_turn ⟨wk_same, rfl, rfl, rfl, trivial⟩
    · refine ⟨⟨(m, pre ++ ⟨x.places, x.period, x.miss, a⟩ :: post), trivial⟩, turn_at [.frz 14] id id ?_⟩
      simp [keys]
      exact mid_turn ⟨wk_same, rfl, rfl, rfl, trivial⟩
    · skip
      refine loop_i {s : List Rd // 1 ≤ s.length ∧ s.length ≤ 34} (fun s => ⟨[(5, .ptr 0 0), (9, .ptr 13 0), (10, .own 14)], [(14, ⟨46, 4, s.1.map aRd, false⟩)], [(13, ⟨41, [Lpl m.ps, Lro m.rs]⟩), (0, ⟨55, [I a, I b]⟩)], 46, 152⟩) (fun s => 34 - s.1.length) ⟨pre ++ x :: post, by simp; omega⟩ ?_ ?_
      · exact turn_id (by simp) rfl (by simp)
      rintro ⟨ls, h1, h2⟩ K hK
      rcases ls with _ | ⟨x0, ls⟩
      · simp at h1
      simp only [List.length_cons] at h1 h2
      simp only [List.map_cons]
      repeat' (first
        | (with_reducible refine vc_seq_i fun K hK => ?_)
        | (with_reducible refine vc_ops_i ?_)
        | ((with_reducible refine ops_nil ?_); apply_assumption -exfalso -symm)
        | ((with_reducible refine ops_q fun K hK => ?_); simp; (try simp (disch := omega) only [wrap64]); (first | (with_reducible refine hK _ ?_) | (with_reducible refine alt_T (hK _ ?_)) | (with_reducible refine alt_wrap (by omega) (hK _ ?_)) | (with_reducible refine alt_same (hK _ ?_)) | (with_reducible refine alt_T' (hK _ ?_) ?_) | (with_reducible refine alt_wrap' (by omega) (hK _ ?_) ?_) | (with_reducible refine alt_same' (hK _ ?_) ?_) | (with_reducible refine And.intro ?_ (hK _ ?_)) | (refine fun _ => ?_; first | (with_reducible refine hK _ ?_) | (with_reducible refine alt_T (hK _ ?_)) | (with_reducible refine alt_wrap (by omega) (hK _ ?_)) | (with_reducible refine alt_same (hK _ ?_)))) <;> (clear hK; clear K))
        | ((with_reducible refine ops_a0 fun K hK => ?_); simp; (try simp (disch := omega) only [wrap64]); (first | ((with_reducible refine hK _ ?_); (clear hK; clear K)) | ((with_reducible refine And.intro ?_ (hK _ ?_)) <;> (clear hK; clear K)) | (repeat' (with_reducible refine And.intro ?_ ?_)) | skip))
        | ((with_reducible refine ops_ag fun K hK => ?_); first | (refine act_T rfl ?_; simp; (try simp (disch := omega) only [wrap64]); (first | ((with_reducible refine hK _ ?_); (clear hK; clear K)) | ((with_reducible refine And.intro ?_ (hK _ ?_)) <;> (clear hK; clear K)) | (repeat' (with_reducible refine And.intro ?_ ?_)) | skip)) | (refine act_F rfl ?_; simp; (with_reducible refine hK _ ?_); (clear hK; clear K)) | (refine act_N rfl ?_; simp; (with_reducible refine hK _ ?_); (clear hK; clear K)) | (refine act_c rfl fun c hc => ?_; cases c <;> (simp only [hc]; simp; (try simp (disch := omega) only [wrap64]); (try simp at hc); (first | ((with_reducible refine hK _ ?_); (clear hK; clear K)) | ((with_reducible refine And.intro ?_ (hK _ ?_)) <;> (clear hK; clear K)) | (repeat' (with_reducible refine And.intro ?_ ?_)) | skip))))
        | (with_reducible refine vc_drw_i [] ?_)
        | ((with_reducible refine T_done ?_); apply_assumption -exfalso -symm)
        | ((with_reducible refine T_take (by simp) fun K hK => ?_); simp; (try simp (disch := omega) only [wrap64]); (first | (with_reducible refine hK _ ?_) | (with_reducible refine alt_T (hK _ ?_)) | (with_reducible refine alt_wrap (by omega) (hK _ ?_)) | (with_reducible refine alt_same (hK _ ?_)) | (with_reducible refine alt_T' (hK _ ?_) ?_) | (with_reducible refine alt_wrap' (by omega) (hK _ ?_) ?_) | (with_reducible refine alt_same' (hK _ ?_) ?_) | (with_reducible refine And.intro ?_ (hK _ ?_)) | (refine fun _ => ?_; first | (with_reducible refine hK _ ?_) | (with_reducible refine alt_T (hK _ ?_)) | (with_reducible refine alt_wrap (by omega) (hK _ ?_)) | (with_reducible refine alt_same (hK _ ?_)))) <;> (clear hK; clear K))
        | ((with_reducible refine T_actq fun K hK => ?_); simp; (try simp (disch := omega) only [wrap64]); (first | (with_reducible refine hK _ ?_) | (with_reducible refine alt_T (hK _ ?_)) | (with_reducible refine alt_wrap (by omega) (hK _ ?_)) | (with_reducible refine alt_same (hK _ ?_)) | (with_reducible refine alt_T' (hK _ ?_) ?_) | (with_reducible refine alt_wrap' (by omega) (hK _ ?_) ?_) | (with_reducible refine alt_same' (hK _ ?_) ?_) | (with_reducible refine And.intro ?_ (hK _ ?_)) | (refine fun _ => ?_; first | (with_reducible refine hK _ ?_) | (with_reducible refine alt_T (hK _ ?_)) | (with_reducible refine alt_wrap (by omega) (hK _ ?_)) | (with_reducible refine alt_same (hK _ ?_)))) <;> (clear hK; clear K))
        | (with_reducible refine T_two ?_ ?_)
        | ((with_reducible refine T_act0 fun K hK => ?_); simp; (try simp (disch := omega) only [wrap64]); (first | ((with_reducible refine hK _ ?_); (clear hK; clear K)) | ((with_reducible refine And.intro ?_ (hK _ ?_)) <;> (clear hK; clear K)) | (repeat' (with_reducible refine And.intro ?_ ?_)) | skip))
        | ((with_reducible refine T_actg fun K hK => ?_); first | (refine act_T rfl ?_; simp; (try simp (disch := omega) only [wrap64]); (first | ((with_reducible refine hK _ ?_); (clear hK; clear K)) | ((with_reducible refine And.intro ?_ (hK _ ?_)) <;> (clear hK; clear K)) | (repeat' (with_reducible refine And.intro ?_ ?_)) | skip)) | (refine act_F rfl ?_; simp; (with_reducible refine hK _ ?_); (clear hK; clear K)) | (refine act_N rfl ?_; simp; (with_reducible refine hK _ ?_); (clear hK; clear K)) | (refine act_c rfl fun c hc => ?_; cases c <;> (simp only [hc]; simp; (try simp (disch := omega) only [wrap64]); (try simp at hc); (first | ((with_reducible refine hK _ ?_); (clear hK; clear K)) | ((with_reducible refine And.intro ?_ (hK _ ?_)) <;> (clear hK; clear K)) | (repeat' (with_reducible refine And.intro ?_ ?_)) | skip))))
        | (with_reducible refine vc_block_i fun Y hY hN => ?_)
        | ((with_reducible refine vc_skip_i ?_); apply_assumption -exfalso -symm)
        | ((with_reducible refine vc_cond_i rfl ?_ ?_) <;> (intro hb; try simp at hb))
        | ((with_reducible refine vc_exit_i ?_); apply_assumption -exfalso -symm; try apply_assumption -exfalso -symm)
        | ((with_reducible refine vc_ret_i ?_); (with_reducible refine hR _ ?_); simp [r7]; (try refine ret_val (by simp) (hQ _ _ ?_)))
        | ((with_reducible refine hR _ ?_); simp [r7]; (try refine ret_val (by simp) (hQ _ _ ?_)))
        | ((with_reducible show vcCall _ _ _ _ _ _ _); refine call_0 (s24 _ _) ⟨rfl, rfl, trivial⟩ ?_; rintro _ _ ⟨rfl, rfl⟩; simp; first | ((with_reducible refine hK _ ?_); (clear hK; clear K)) | (with_reducible apply_assumption -exfalso -symm))
        | (intros; omega))
      · refine ⟨⟨x0 :: (ls ++ [x0]), by simp, by simp; omega⟩, by simp; omega, turn_at [.wkR 14 (aRd x0 :: List.map aRd ls) [aRd x0]] id id ?_⟩
        simp [keys]
        try exact trivial
      · refine ⟨⟨(m, x0 :: ls), trivial⟩, turn_at [.frz 14] id id ?_⟩
        simp [keys]
        exact fun j hj => .inl (lrd_get (x0 :: ls) j (by simpa using hj) |>.trans (by simp [List.getD_eq_getElem?_getD]))
    · refine ⟨⟨(⟨m.ps.take (m.ps.length - 1), m.rs⟩, pre ++ x :: post), trivial⟩, turn_at [.frz 14] id id ?_⟩
      simp [keys]
      refine ⟨mid_turn ⟨wk_same, rfl, rfl, rfl, trivial⟩, fun j hj => .inl ?_⟩
      rw [List.getElem?_take_of_lt hj]
      exact ⟨rfl, rfl⟩
  · refine ⟨⟨(m, l0), trivial⟩, turn_at [.frz 14] id id ?_⟩
    simp [keys]
    exact fun j hj => .inl (lrd_get l0 j (by simpa using hj) |>.trans (by simp [List.getD_eq_getElem?_getD]))
  · simp
  · simp
  · rw [okRds_ok hm hl0] at hc
    cases hc
theorem fit_rp {l : List CS} {n : List AV} (hl : l = [.int .i64, .int .i64, .int .i64, .sl 1 false [.int .i64]]) (h : FitL l n) : ∃ r : Rp, (aRp r).pure = true ∧ Wk id 0 (aRp r) (.ag n) := by
  subst hl
  obtain ⟨a, l, rfl, ha, h⟩ := h.out
  obtain ⟨b, l, rfl, hb, h⟩ := h.out
  obtain ⟨c, l, rfl, hc, h⟩ := h.out
  obtain ⟨d, l, rfl, hd, h⟩ := h.out
  obtain rfl := h.nil
  obtain ⟨x, rfl, _⟩ := fit_int ha
  obtain ⟨y, rfl, _⟩ := fit_int hb
  obtain ⟨z, rfl, _⟩ := fit_int hc
  obtain ⟨t, _, _, ht⟩ := fit_ints hd
  exact ⟨⟨x, y, z, t⟩, rfl, rfl, rfl, rfl, ht, trivial⟩
theorem w7 (L : List Int) {a : AV} (h1 : FitL [.sl 4 true [.int .i64, .int .i64, .int .i64, .sl 1 false [.int .i64]]] [a]) {n : List AV} (h2 : FitL [.int .i64, .int .i64] n) : Spec Try.prog 7 ⟨[], []⟩ 0 [Lint L, a, .ag n] (fun v C' => v = .bool true ∧ C' = ⟨[], []⟩) := by
  obtain ⟨raw, _, _, hw⟩ := fit_sl (agg := true) (fun x => aRp x) (fun _ => True) (fun l hl => (fit_rp rfl hl).imp fun r hr => ⟨trivial, hr⟩) h1.1
  obtain ⟨b, l, rfl, hb, h⟩ := h2.out
  obtain ⟨c, l, rfl, hc, h⟩ := h.out
  obtain rfl := h.nil
  obtain ⟨x, rfl, _⟩ := fit_int hb
  obtain ⟨y, rfl, _⟩ := fit_int hc
  exact (s7 L raw x y).wk ⟨wk_same, hw, ⟨rfl, rfl, trivial⟩, trivial⟩
end Go.VV
