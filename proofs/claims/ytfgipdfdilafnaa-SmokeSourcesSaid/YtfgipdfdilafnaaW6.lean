/- Part of a proof: the laws of single functions of the given program, shown step by step. -/
import Derived.Test.YtfgipdfdilafnaaC3
import Derived.Test.YtfgipdfdilafnaaW5
set_option linter.unusedSimpArgs false
set_option linter.unusedVariables false
set_option linter.unnecessarySimpa false
namespace Go.VV
open Go.Proofs
set_option maxRecDepth 4000
set_option maxHeartbeats 8000000
abbrev ex28 : Mn := ⟨[(0, true), (0, false)], [⟨0, 1, 100, 10, true, false, 1, 1, 0, 0⟩]⟩
theorem chk28 : chkM ex28 = 0 := by
  unfold chkM
  rw [if_neg (by simp), if_neg (by simp [badP])]
  simp [fstR, badR, spanB]
theorem trv28 : trv ex28 0 (5000, 5000) false = 100 ∧ trv ex28 0 (5000, 5000) true = -1 ∧ trv ex28 0 (4999, 5000) true = 100 := by
  refine ⟨?_, ?_, ?_⟩ <;> simp [trv, trvR, wrap64]
theorem start28 : startE ex28 [(5000, 5000)] [0] 50 = 0 := by
  have h1 : givn ex28 [(5000, 5000)] = true := by simp [givn, chk28, okSn]
  have h2 : rises [0] 0 (((ex28.ps.length : Nat) : Int) - 1) = true := by simp [rises]
  rw [startE, if_neg (by simp [h1]), if_neg (by rw [h2]; simp), if_neg (by simp [inB])]
theorem f28 {f : List Int} (hI : Iv (eds ex28 [(5000, 5000)]) (ini 2 [0] 50) f) (hC : closedE (eds ex28 [(5000, 5000)]) f) : f = [50, 150] := by
  obtain ⟨t1, t2, _⟩ := trv28
  have hlen : f.length = 2 := by rw [hI.len, ini_len]
  have hed : eds ex28 [(5000, 5000)] = [⟨100, 0, 1⟩, ⟨-1, 1, 0⟩] := by
    have e1 : eds ex28 [(5000, 5000)] = [⟨trv ex28 0 (5000, 5000) false, 0, 1⟩, ⟨trv ex28 0 (5000, 5000) true, 1, 0⟩] := rfl
    rw [e1, t1, t2]
  rw [hed] at hI hC
  have hini : ini 2 [0] 50 = [50, 1099511627776] := by decide
  rw [hini] at hI
  match f, hlen with
  | [a, b], _ =>
    have h0 := hI.le 0 (by simp)
    have h1 := hI.gr [50, 150] rfl (fun j hj => by
      match j, hj with
      | 0, _ => simp
      | 1, _ => simp) (fun e he => by
      simp only [List.mem_cons, List.not_mem_nil, or_false] at he
      rcases he with rfl | rfl <;> simp [stepOk])
    have h2 := h1 0 (by simp)
    have h3 := h1 1 (by simp)
    have h4 := hC ⟨100, 0, 1⟩ (by simp)
    simp [stepOk] at h0 h2 h3 h4
    have : a = 50 := by omega
    subst this
    simp at h4
    have : b = 150 := by omega
    rw [this]
theorem s8 : Spec Try.prog 8 ⟨[], []⟩ 0 [] (fun v C' => v = .bool true ∧ C' = ⟨[], []⟩) := by
  obtain ⟨t1, t2, t3⟩ := trv28
  have c1 := s17 ex28 0 (5000, 5000) false
  have c2 := s17 ex28 0 (5000, 5000) true
  have c3 := s17 ex28 0 (4999, 5000) true
  rw [t1] at c1
  rw [t2] at c2
  rw [t3] at c3
  have c4 := (s13 ex28 [(5000, 5000)] [0] 50 (by simp)).mono (Q' := fun v C' => v = .tup [.ag [I 50, .own 0], I 0] ∧ C' = ⟨[(0, ⟨3, 1, [I 50, I 150], false⟩)], []⟩) (fun v C' h => by
    rcases h with ⟨_, f, h1, h2, h3, h4⟩ | ⟨h, _⟩
    · have := f28 h1 h2
      subst this
      exact ⟨h3, h4⟩
    · exact absurd start28 h)
  have c5 := s15 50 [50, 150] 149 (by simp)
  have hw : whr [(50 : Int), 150].length (fun p => decide ([(50 : Int), 150][p]?.getD 0 ≤ 149)) = [0] := by decide
  rw [hw] at c5
  have wm : WkL id 0 [Lpl ex28.ps, Lro ex28.rs] [.sl 2 2 fun j => [AV.ag [I 0, Bo true], AV.ag [I 0, Bo false]].getD j .top, .sl 10 1 fun j => [AV.ag [I 0, I 1, I 100, I 10, Bo true, Bo false, I 1, I 1, I 0, I 0]].getD j .top] := ⟨wk_sl rfl (lpl_get _), wk_sl rfl (lro_get _), trivial⟩
  refine l8.go mixed no (by simp) fun Q hQ Rt hR => ?_
  unfold c8
  simp only [argT]
  repeat' (first
    | (with_reducible refine vc_seq_i fun K hK => ?_)
    | (with_reducible refine vc_ops_i ?_)
    | ((with_reducible refine ops_nil ?_); apply_assumption -exfalso -symm)
    | ((with_reducible refine ops_q fun K hK => ?_); simp; (try simp (disch := omega) only [wrap64]); (first | (with_reducible refine hK _ ?_) | (with_reducible refine alt_T (hK _ ?_)) | (with_reducible refine alt_wrap (by omega) (hK _ ?_)) | (with_reducible refine alt_same (hK _ ?_)) | (with_reducible refine alt_T' (hK _ ?_) ?_) | (with_reducible refine alt_wrap' (by omega) (hK _ ?_) ?_) | (with_reducible refine alt_same' (hK _ ?_) ?_) | (with_reducible refine And.intro ?_ (hK _ ?_)) | (refine fun _ => ?_; first | (with_reducible refine hK _ ?_) | (with_reducible refine alt_T (hK _ ?_)) | (with_reducible refine alt_wrap (by omega) (hK _ ?_)) | (with_reducible refine alt_same (hK _ ?_)))) <;> (clear hK; clear K))
    | ((with_reducible refine ops_a0 fun K hK => ?_); simp; (try simp (disch := omega) only [wrap64]); (first | ((with_reducible refine hK _ ?_); (clear hK; clear K)) | ((with_reducible refine And.intro ?_ (hK _ ?_)) <;> (clear hK; clear K)) | (repeat' (with_reducible refine And.intro ?_ ?_)) | skip))
    | ((with_reducible refine ops_ag fun K hK => ?_); first | (refine act_T rfl ?_; simp; (try simp (disch := omega) only [wrap64]); (first | ((with_reducible refine hK _ ?_); (clear hK; clear K)) | ((with_reducible refine And.intro ?_ (hK _ ?_)) <;> (clear hK; clear K)) | (repeat' (with_reducible refine And.intro ?_ ?_)) | skip)) | (refine act_F rfl ?_; simp; (with_reducible refine hK _ ?_); (clear hK; clear K)) | (refine act_N rfl ?_; simp; (with_reducible refine hK _ ?_); (clear hK; clear K)) | (refine act_c rfl fun c hc => ?_; cases c <;> (simp only [hc]; simp; (try simp (disch := omega) only [wrap64]); (try simp at hc); (first | ((with_reducible refine hK _ ?_); (clear hK; clear K)) | ((with_reducible refine And.intro ?_ (hK _ ?_)) <;> (clear hK; clear K)) | (repeat' (with_reducible refine And.intro ?_ ?_)) | skip))))
    | (with_reducible refine vc_drw_i [] ?_)
    | ((with_reducible refine T_done ?_); apply_assumption -exfalso -symm)
    | ((with_reducible refine T_take (by simp) fun K hK => ?_); simp; (try simp (disch := omega) only [wrap64]); (first | (with_reducible refine hK _ ?_) | (with_reducible refine alt_T (hK _ ?_)) | (with_reducible refine alt_wrap (by omega) (hK _ ?_)) | (with_reducible refine alt_same (hK _ ?_)) | (with_reducible refine alt_T' (hK _ ?_) ?_) | (with_reducible refine alt_wrap' (by omega) (hK _ ?_) ?_) | (with_reducible refine alt_same' (hK _ ?_) ?_) | (with_reducible refine And.intro ?_ (hK _ ?_)) | (refine fun _ => ?_; first | (with_reducible refine hK _ ?_) | (with_reducible refine alt_T (hK _ ?_)) | (with_reducible refine alt_wrap (by omega) (hK _ ?_)) | (with_reducible refine alt_same (hK _ ?_)))) <;> (clear hK; clear K))
    | ((with_reducible refine T_actq fun K hK => ?_); simp; (try simp (disch := omega) only [wrap64]); (first | (with_reducible refine hK _ ?_) | (with_reducible refine alt_T (hK _ ?_)) | (with_reducible refine alt_wrap (by omega) (hK _ ?_)) | (with_reducible refine alt_same (hK _ ?_)) | (with_reducible refine alt_T' (hK _ ?_) ?_) | (with_reducible refine alt_wrap' (by omega) (hK _ ?_) ?_) | (with_reducible refine alt_same' (hK _ ?_) ?_) | (with_reducible refine And.intro ?_ (hK _ ?_)) | (refine fun _ => ?_; first | (with_reducible refine hK _ ?_) | (with_reducible refine alt_T (hK _ ?_)) | (with_reducible refine alt_wrap (by omega) (hK _ ?_)) | (with_reducible refine alt_same (hK _ ?_)))) <;> (clear hK; clear K))
    | ((with_reducible refine T_fg ?_); simp)
    | ((with_reducible refine T_lz (by simp) fun K hK => ?_); simp; (try simp (disch := omega) only [wrap64]); (first | ((with_reducible refine hK _ ?_); (clear hK; clear K)) | ((with_reducible refine And.intro ?_ (hK _ ?_)) <;> (clear hK; clear K)) | (repeat' (with_reducible refine And.intro ?_ ?_)) | skip))
    | (with_reducible refine T_two ?_ ?_)
    | (with_reducible refine T_three ?_ ?_ ?_)
    | ((with_reducible refine T_act0 fun K hK => ?_); simp; (try simp (disch := omega) only [wrap64]); (first | ((with_reducible refine hK _ ?_); (clear hK; clear K)) | ((with_reducible refine And.intro ?_ (hK _ ?_)) <;> (clear hK; clear K)) | (repeat' (with_reducible refine And.intro ?_ ?_)) | skip))
    | ((with_reducible refine T_actg fun K hK => ?_); first | (refine act_T rfl ?_; simp; (try simp (disch := omega) only [wrap64]); (first | ((with_reducible refine hK _ ?_); (clear hK; clear K)) | ((with_reducible refine And.intro ?_ (hK _ ?_)) <;> (clear hK; clear K)) | (repeat' (with_reducible refine And.intro ?_ ?_)) | skip)) | (refine act_F rfl ?_; simp; (with_reducible refine hK _ ?_); (clear hK; clear K)) | (refine act_N rfl ?_; simp; (with_reducible refine hK _ ?_); (clear hK; clear K)) | (refine act_c rfl fun c hc => ?_; cases c <;> (simp only [hc]; simp; (try simp (disch := omega) only [wrap64]); (try simp at hc); (first | ((with_reducible refine hK _ ?_); (clear hK; clear K)) | ((with_reducible refine And.intro ?_ (hK _ ?_)) <;> (clear hK; clear K)) | (repeat' (with_reducible refine And.intro ?_ ?_)) | skip))))
    | (with_reducible refine vc_block_i fun Y hY hN => ?_)
    | ((with_reducible refine vc_skip_i ?_); apply_assumption -exfalso -symm)
    | ((with_reducible refine vc_cond_i rfl ?_ ?_) <;> (intro hb; try simp at hb))
    | ((with_reducible refine vc_dead_i ?_); first | omega | (exfalso; simp_all; done) | skip)
    | ((with_reducible refine vc_exit_i ?_); apply_assumption -exfalso -symm; try apply_assumption -exfalso -symm)
    | ((with_reducible refine vc_ret_i ?_); (with_reducible refine hR _ ?_); simp [r8]; (try refine ret_val (by simp) (hQ _ _ ?_)))
    | ((with_reducible refine hR _ ?_); simp [r8]; (try refine ret_val (by simp) (hQ _ _ ?_)))
    | ((with_reducible show vcCall _ _ _ _ _ _ _); refine call_0 (c4) ⟨wm, wk_sl rfl (lsn_get [(5000, 5000)]), wk_sl rfl (lint_get [0]), rfl, trivial⟩ ?_; rintro _ _ ⟨rfl, rfl⟩; simp; first | ((with_reducible refine hK _ ?_); (clear hK; clear K)) | (with_reducible apply_assumption -exfalso -symm))
    | ((with_reducible show vcCall _ _ _ _ _ _ _); refine call_0 (c1) ⟨wm, rfl, ⟨rfl, rfl, trivial⟩, rfl, trivial⟩ ?_; rintro _ _ ⟨rfl, rfl⟩; simp; first | ((with_reducible refine hK _ ?_); (clear hK; clear K)) | (with_reducible apply_assumption -exfalso -symm))
    | ((with_reducible show vcCall _ _ _ _ _ _ _); refine call_0 (c2) ⟨wm, rfl, ⟨rfl, rfl, trivial⟩, rfl, trivial⟩ ?_; rintro _ _ ⟨rfl, rfl⟩; simp; first | ((with_reducible refine hK _ ?_); (clear hK; clear K)) | (with_reducible apply_assumption -exfalso -symm))
    | ((with_reducible show vcCall _ _ _ _ _ _ _); refine call_0 (c3) ⟨wm, rfl, ⟨rfl, rfl, trivial⟩, rfl, trivial⟩ ?_; rintro _ _ ⟨rfl, rfl⟩; simp; first | ((with_reducible refine hK _ ?_); (clear hK; clear K)) | (with_reducible apply_assumption -exfalso -symm))
    | ((with_reducible show vcCall _ _ _ _ _ _ _); refine call_0 (c5) ⟨⟨rfl, wk_sl rfl (lint_get [50, 150]), trivial⟩, rfl, trivial⟩ ?_; rintro _ _ ⟨rfl, rfl⟩; simp; first | ((with_reducible refine hK _ ?_); (clear hK; clear K)) | (with_reducible apply_assumption -exfalso -symm))
    | (intros; omega))
  exact ⟨rfl, rfl⟩
end Go.VV
