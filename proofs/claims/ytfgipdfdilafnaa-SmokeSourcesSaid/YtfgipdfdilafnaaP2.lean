/- Part of a proof: the laws of single functions of the given program, shown step by step. -/
import Derived.Test.YtfgipdfdilafnaaC1
import Derived.Test.YtfgipdfdilafnaaP1
import Derived.Test.YtfgipdfdilafnaaV25
set_option linter.unusedSimpArgs false
set_option linter.unusedVariables false
set_option linter.unnecessarySimpa false
namespace Go.VV
open Go.Proofs
set_option maxRecDepth 4000
set_option maxHeartbeats 8000000
theorem s52 (l : List Int) (n : Int) : Spec Try.prog 52 ⟨[], []⟩ 0 [Lint l, I n] (fun v C' => v = .bool (rises l 0 (n - 1)) ∧ C' = ⟨[], []⟩) := by
  refine l52.go mixed no (by simp) fun Q hQ Rt hR => ?_
  unfold c52
  simp only [argT]
  repeat' (first
    | (with_reducible refine vc_seq_i fun K hK => ?_)
    | (with_reducible refine vc_ops_i ?_)
    | ((with_reducible refine ops_nil ?_); apply_assumption -exfalso -symm)
    | ((with_reducible refine ops_q fun K hK => ?_); simp; (try simp (disch := omega) only [wrap64]); (first | (with_reducible refine hK _ ?_) | (with_reducible refine alt_T (hK _ ?_)) | (with_reducible refine alt_wrap (by omega) (hK _ ?_)) | (with_reducible refine alt_same (hK _ ?_)) | (with_reducible refine alt_T' (hK _ ?_) ?_) | (with_reducible refine alt_wrap' (by omega) (hK _ ?_) ?_) | (with_reducible refine alt_same' (hK _ ?_) ?_) | (with_reducible refine And.intro ?_ (hK _ ?_)) | (refine fun _ => ?_; first | (with_reducible refine hK _ ?_) | (with_reducible refine alt_T (hK _ ?_)) | (with_reducible refine alt_wrap (by omega) (hK _ ?_)) | (with_reducible refine alt_same (hK _ ?_)))) <;> (clear hK; clear K))
    | ((with_reducible refine ops_a0 fun K hK => ?_); simp; (try simp (disch := omega) only [wrap64]); (first | ((with_reducible refine hK _ ?_); (clear hK; clear K)) | ((with_reducible refine And.intro ?_ (hK _ ?_)) <;> (clear hK; clear K)) | (repeat' (with_reducible refine And.intro ?_ ?_)) | skip))
    | ((with_reducible refine ops_ag fun K hK => ?_); first | (refine act_T rfl ?_; simp; (try simp (disch := omega) only [wrap64]); (first | ((with_reducible refine hK _ ?_); (clear hK; clear K)) | ((with_reducible refine And.intro ?_ (hK _ ?_)) <;> (clear hK; clear K)) | (repeat' (with_reducible refine And.intro ?_ ?_)) | skip)) | (refine act_F rfl ?_; simp; (with_reducible refine hK _ ?_); (clear hK; clear K)) | (refine act_N rfl ?_; simp; (with_reducible refine hK _ ?_); (clear hK; clear K)) | (refine act_c rfl fun c hc => ?_; cases c <;> (simp only [hc]; simp; (try simp (disch := omega) only [wrap64]); (try simp at hc); (first | ((with_reducible refine hK _ ?_); (clear hK; clear K)) | ((with_reducible refine And.intro ?_ (hK _ ?_)) <;> (clear hK; clear K)) | (repeat' (with_reducible refine And.intro ?_ ?_)) | skip))))
    | (with_reducible refine vc_drw_i [] ?_)
    | ((with_reducible refine T_done ?_); apply_assumption -exfalso -symm)
    | ((with_reducible refine T_take (by simp) fun K hK => ?_); simp; (try simp (disch := omega) only [wrap64]); (first | (with_reducible refine hK _ ?_) | (with_reducible refine alt_T (hK _ ?_)) | (with_reducible refine alt_wrap (by omega) (hK _ ?_)) | (with_reducible refine alt_same (hK _ ?_)) | (with_reducible refine alt_T' (hK _ ?_) ?_) | (with_reducible refine alt_wrap' (by omega) (hK _ ?_) ?_) | (with_reducible refine alt_same' (hK _ ?_) ?_) | (with_reducible refine And.intro ?_ (hK _ ?_)) | (refine fun _ => ?_; first | (with_reducible refine hK _ ?_) | (with_reducible refine alt_T (hK _ ?_)) | (with_reducible refine alt_wrap (by omega) (hK _ ?_)) | (with_reducible refine alt_same (hK _ ?_)))) <;> (clear hK; clear K))
    | ((with_reducible refine T_actq fun K hK => ?_); simp; (try simp (disch := omega) only [wrap64]); (first | (with_reducible refine hK _ ?_) | (with_reducible refine alt_T (hK _ ?_)) | (with_reducible refine alt_wrap (by omega) (hK _ ?_)) | (with_reducible refine alt_same (hK _ ?_)) | (with_reducible refine alt_T' (hK _ ?_) ?_) | (with_reducible refine alt_wrap' (by omega) (hK _ ?_) ?_) | (with_reducible refine alt_same' (hK _ ?_) ?_) | (with_reducible refine And.intro ?_ (hK _ ?_)) | (refine fun _ => ?_; first | (with_reducible refine hK _ ?_) | (with_reducible refine alt_T (hK _ ?_)) | (with_reducible refine alt_wrap (by omega) (hK _ ?_)) | (with_reducible refine alt_same (hK _ ?_)))) <;> (clear hK; clear K))
    | ((with_reducible refine T_fg ?_); simp)
    | ((with_reducible refine T_lz (by simp) fun K hK => ?_); simp; (try simp (disch := omega) only [wrap64]); (first | ((with_reducible refine hK _ ?_); (clear hK; clear K)) | ((with_reducible refine And.intro ?_ (hK _ ?_)) <;> (clear hK; clear K)) | (repeat' (with_reducible refine And.intro ?_ ?_)) | skip))
    | (with_reducible refine T_two ?_ ?_)
    | (with_reducible refine T_three ?_ ?_ ?_)
    | ((with_reducible refine T_act0 fun K hK => ?_); simp; (try simp (disch := omega) only [wrap64]); (first | ((with_reducible refine hK _ ?_); (clear hK; clear K)) | ((with_reducible refine And.intro ?_ (hK _ ?_)) <;> (clear hK; clear K)) | (repeat' (with_reducible refine And.intro ?_ ?_)) | skip))
    | ((with_reducible refine T_actg fun K hK => ?_); first | (refine act_T rfl ?_; simp; (try simp (disch := omega) only [wrap64]); (first | ((with_reducible refine hK _ ?_); (clear hK; clear K)) | ((with_reducible refine And.intro ?_ (hK _ ?_)) <;> (clear hK; clear K)) | (repeat' (with_reducible refine And.intro ?_ ?_)) | skip)) | (refine act_F rfl ?_; simp; (with_reducible refine hK _ ?_); (clear hK; clear K)) | (refine act_N rfl ?_; simp; (with_reducible refine hK _ ?_); (clear hK; clear K)) | (refine act_c rfl fun c hc => ?_; cases c <;> (simp only [hc]; simp; (try simp (disch := omega) only [wrap64]); (try simp at hc); (first | ((with_reducible refine hK _ ?_); (clear hK; clear K)) | ((with_reducible refine And.intro ?_ (hK _ ?_)) <;> (clear hK; clear K)) | (repeat' (with_reducible refine And.intro ?_ ?_)) | skip))))
    | (with_reducible refine vc_block_i fun Y hY hN => ?_)
    | ((with_reducible refine vc_skip_i ?_); apply_assumption -exfalso -symm)
    | ((with_reducible refine vc_cond_i rfl ?_ ?_) <;> (intro hb; try simp at hb))
    | ((with_reducible refine vc_dead_i ?_); first | omega | (exfalso; simp_all; done) | skip)
    | ((with_reducible refine vc_exit_i ?_); apply_assumption -exfalso -symm; try apply_assumption -exfalso -symm)
    | ((with_reducible refine vc_ret_i ?_); (with_reducible refine hR _ ?_); simp [r52]; (try refine ret_val (by simp) (hQ _ _ ?_)))
    | ((with_reducible refine hR _ ?_); simp [r52]; (try refine ret_val (by simp) (hQ _ _ ?_)))
    | (intros; omega))
  refine loop_i {i : Nat // i ≤ l.length ∧ ∀ j, j < i → (0 ≤ l[j]?.getD 0 ∧ l[j]?.getD 0 ≤ n - 1) ∧ (0 < j → l[j - 1]?.getD 0 < l[j]?.getD 0)} (fun s => ⟨[(0, Lint l), (1, I n), (5, I s.1)], [], [], 0, 41⟩) (fun s => l.length - s.1) ⟨0, Nat.zero_le _, fun j hj => by omega⟩ ?_ ?_
  · exact turn_id (by simp) rfl (by simp)
  rintro ⟨i, hi', hr⟩ K hK
  repeat' (first
    | (with_reducible refine vc_seq_i fun K hK => ?_)
    | (with_reducible refine vc_ops_i ?_)
    | ((with_reducible refine ops_nil ?_); apply_assumption -exfalso -symm)
    | ((with_reducible refine ops_q fun K hK => ?_); simp; (try simp (disch := omega) only [wrap64]); (first | (with_reducible refine hK _ ?_) | (with_reducible refine alt_T (hK _ ?_)) | (with_reducible refine alt_wrap (by omega) (hK _ ?_)) | (with_reducible refine alt_same (hK _ ?_)) | (with_reducible refine alt_T' (hK _ ?_) ?_) | (with_reducible refine alt_wrap' (by omega) (hK _ ?_) ?_) | (with_reducible refine alt_same' (hK _ ?_) ?_) | (with_reducible refine And.intro ?_ (hK _ ?_)) | (refine fun _ => ?_; first | (with_reducible refine hK _ ?_) | (with_reducible refine alt_T (hK _ ?_)) | (with_reducible refine alt_wrap (by omega) (hK _ ?_)) | (with_reducible refine alt_same (hK _ ?_)))) <;> (clear hK; clear K))
    | ((with_reducible refine ops_a0 fun K hK => ?_); simp; (try simp (disch := omega) only [wrap64]); (first | ((with_reducible refine hK _ ?_); (clear hK; clear K)) | ((with_reducible refine And.intro ?_ (hK _ ?_)) <;> (clear hK; clear K)) | (repeat' (with_reducible refine And.intro ?_ ?_)) | skip))
    | ((with_reducible refine ops_ag fun K hK => ?_); first | (refine act_T rfl ?_; simp; (try simp (disch := omega) only [wrap64]); (first | ((with_reducible refine hK _ ?_); (clear hK; clear K)) | ((with_reducible refine And.intro ?_ (hK _ ?_)) <;> (clear hK; clear K)) | (repeat' (with_reducible refine And.intro ?_ ?_)) | skip)) | (refine act_F rfl ?_; simp; (with_reducible refine hK _ ?_); (clear hK; clear K)) | (refine act_N rfl ?_; simp; (with_reducible refine hK _ ?_); (clear hK; clear K)) | (refine act_c rfl fun c hc => ?_; cases c <;> (simp only [hc]; simp; (try simp (disch := omega) only [wrap64]); (try simp at hc); (first | ((with_reducible refine hK _ ?_); (clear hK; clear K)) | ((with_reducible refine And.intro ?_ (hK _ ?_)) <;> (clear hK; clear K)) | (repeat' (with_reducible refine And.intro ?_ ?_)) | skip))))
    | (with_reducible refine vc_drw_i [] ?_)
    | ((with_reducible refine T_done ?_); apply_assumption -exfalso -symm)
    | ((with_reducible refine T_take (by simp) fun K hK => ?_); simp; (try simp (disch := omega) only [wrap64]); (first | (with_reducible refine hK _ ?_) | (with_reducible refine alt_T (hK _ ?_)) | (with_reducible refine alt_wrap (by omega) (hK _ ?_)) | (with_reducible refine alt_same (hK _ ?_)) | (with_reducible refine alt_T' (hK _ ?_) ?_) | (with_reducible refine alt_wrap' (by omega) (hK _ ?_) ?_) | (with_reducible refine alt_same' (hK _ ?_) ?_) | (with_reducible refine And.intro ?_ (hK _ ?_)) | (refine fun _ => ?_; first | (with_reducible refine hK _ ?_) | (with_reducible refine alt_T (hK _ ?_)) | (with_reducible refine alt_wrap (by omega) (hK _ ?_)) | (with_reducible refine alt_same (hK _ ?_)))) <;> (clear hK; clear K))
    | ((with_reducible refine T_actq fun K hK => ?_); simp; (try simp (disch := omega) only [wrap64]); (first | (with_reducible refine hK _ ?_) | (with_reducible refine alt_T (hK _ ?_)) | (with_reducible refine alt_wrap (by omega) (hK _ ?_)) | (with_reducible refine alt_same (hK _ ?_)) | (with_reducible refine alt_T' (hK _ ?_) ?_) | (with_reducible refine alt_wrap' (by omega) (hK _ ?_) ?_) | (with_reducible refine alt_same' (hK _ ?_) ?_) | (with_reducible refine And.intro ?_ (hK _ ?_)) | (refine fun _ => ?_; first | (with_reducible refine hK _ ?_) | (with_reducible refine alt_T (hK _ ?_)) | (with_reducible refine alt_wrap (by omega) (hK _ ?_)) | (with_reducible refine alt_same (hK _ ?_)))) <;> (clear hK; clear K))
    | ((with_reducible refine T_fg ?_); simp)
    | ((with_reducible refine T_lz (by simp) fun K hK => ?_); simp; (try simp (disch := omega) only [wrap64]); (first | ((with_reducible refine hK _ ?_); (clear hK; clear K)) | ((with_reducible refine And.intro ?_ (hK _ ?_)) <;> (clear hK; clear K)) | (repeat' (with_reducible refine And.intro ?_ ?_)) | skip))
    | (with_reducible refine T_two ?_ ?_)
    | (with_reducible refine T_three ?_ ?_ ?_)
    | ((with_reducible refine T_act0 fun K hK => ?_); simp; (try simp (disch := omega) only [wrap64]); (first | ((with_reducible refine hK _ ?_); (clear hK; clear K)) | ((with_reducible refine And.intro ?_ (hK _ ?_)) <;> (clear hK; clear K)) | (repeat' (with_reducible refine And.intro ?_ ?_)) | skip))
    | ((with_reducible refine T_actg fun K hK => ?_); first | (refine act_T rfl ?_; simp; (try simp (disch := omega) only [wrap64]); (first | ((with_reducible refine hK _ ?_); (clear hK; clear K)) | ((with_reducible refine And.intro ?_ (hK _ ?_)) <;> (clear hK; clear K)) | (repeat' (with_reducible refine And.intro ?_ ?_)) | skip)) | (refine act_F rfl ?_; simp; (with_reducible refine hK _ ?_); (clear hK; clear K)) | (refine act_N rfl ?_; simp; (with_reducible refine hK _ ?_); (clear hK; clear K)) | (refine act_c rfl fun c hc => ?_; cases c <;> (simp only [hc]; simp; (try simp (disch := omega) only [wrap64]); (try simp at hc); (first | ((with_reducible refine hK _ ?_); (clear hK; clear K)) | ((with_reducible refine And.intro ?_ (hK _ ?_)) <;> (clear hK; clear K)) | (repeat' (with_reducible refine And.intro ?_ ?_)) | skip))))
    | (with_reducible refine vc_block_i fun Y hY hN => ?_)
    | ((with_reducible refine vc_skip_i ?_); apply_assumption -exfalso -symm)
    | ((with_reducible refine vc_cond_i rfl ?_ ?_) <;> (intro hb; try simp at hb))
    | ((with_reducible refine vc_dead_i ?_); first | omega | (exfalso; simp_all; done) | skip)
    | ((with_reducible refine vc_exit_i ?_); apply_assumption -exfalso -symm; try apply_assumption -exfalso -symm)
    | ((with_reducible refine vc_ret_i ?_); (with_reducible refine hR _ ?_); simp [r52]; (try refine ret_val (by simp) (hQ _ _ ?_)))
    | ((with_reducible refine hR _ ?_); simp [r52]; (try refine ret_val (by simp) (hQ _ _ ?_)))
    | (intros; omega))
  · refine ⟨by simp only [rises, AV.bool.injEq]; symm; simp only [decide_eq_false_iff_not]; intro h; have := h i ‹_›; omega, rfl⟩
  · refine ⟨⟨i + 1, by omega, fun j hj => ?_⟩, by simp; omega, turn_id (by simp) rfl (by simp)⟩
    rcases Nat.lt_succ_iff_lt_or_eq.1 hj with h | rfl
    · exact hr j h
    · omega
  · refine ⟨by simp only [rises, AV.bool.injEq]; symm; simp only [decide_eq_true_eq]; intro j hj; exact hr j (by omega), rfl⟩
theorem chk_ok {m : Mn} (h : okM m) : chkM m = 0 := by
  unfold chkM
  have h1 := h.n7
  have h2 := h.r9
  rw [if_neg (by omega), if_neg]
  · exact fstR_ok fun r hr => by
      obtain ⟨⟨a1, a2⟩, ⟨a3, a4⟩, a5, ⟨a6, a7⟩, ⟨a8, a9⟩, a10, a11, a12, a13⟩ := h.rs r hr
      unfold badR
      rw [if_neg (by omega), if_neg]
      simp only [spanB, a10, a11, a12, a13]
      simp
      omega
  · rintro ⟨p, hp, hb⟩
    have := h.ps p hp
    unfold okP at this
    unfold badP at hb
    omega
end Go.VV
