/- Part of a proof: the laws of single functions of the given program, shown step by step. -/
import Derived.Test.YtfcaebjpnakhhaaCA
import Derived.Test.YtfcaebjpnakhhaaR2
set_option linter.unusedSimpArgs false
set_option linter.unusedVariables false
set_option linter.unnecessarySimpa false
namespace Go.VV
open Go.Proofs
set_option maxRecDepth 4000
set_option maxHeartbeats 4000000
def small (x : Int) : Prop := -2251799813685248 ≤ x ∧ x ≤ 2251799813685248
theorem quo5 (v : Int) (h : 0 ≤ v ∧ v < 6) : ∃ k : Nat, IntKind.i64.wrap (3 - IntKind.i64.wrap (v.tdiv 5)) = k ∧ k ≤ 3 := by
  have : v = 0 ∨ v = 1 ∨ v = 2 ∨ v = 3 ∨ v = 4 ∨ v = 5 := by omega
  rcases this with rfl | rfl | rfl | rfl | rfl | rfl <;> first | exact ⟨3, by decide, by decide⟩ | exact ⟨2, by decide, by decide⟩
theorem wk_lint {ρ : Nat → Nat} {n : Nat} {l : List Int} {k : Nat} {f : Nat → AV} (hk : l.length = k) (hf : ∀ j, j < l.length → I (l[j]?.getD 0) = f j) : Wk ρ n (Lint l) (.sl 1 k f) := Or.inl ⟨f, by rw [hk], hf⟩
theorem n11 (L : List Int) (a : Nat) : Spec Try.prog 11 (diceC L a) 1 [.ptr 0 0] (fun r C' => ∃ w ro ti hi ms b, (∀ x ∈ hi, small x) ∧ (∀ p ∈ ms, small p.1 ∧ small p.2) ∧ hi.length ≤ 3 ∧ ms.length ≤ 2 ∧ r = .tup [aRule w 30 ro, aFum ti hi, Lspan ms] ∧ C' = diceC L b) := by
  refine l11.go mixed no (by simp) fun Q hQ Rt hR => ?_
  unfold c11
  simp only [argT]
  repeat' (first
    | (with_reducible refine vc_seq_i fun K hK => ?_)
    | (with_reducible refine vc_ops_i ?_)
    | ((with_reducible refine ops_nil ?_); apply_assumption -exfalso -symm)
    | ((with_reducible refine ops_q fun K hK => ?_); simp; (try simp (disch := omega) only [wrap64]); (first | (with_reducible refine hK _ ?_) | (with_reducible refine alt_T (hK _ ?_)) | (with_reducible refine alt_wrap (by omega) (hK _ ?_)) | (with_reducible refine alt_same (hK _ ?_)) | (with_reducible refine alt_T' (hK _ ?_) ?_) | (with_reducible refine alt_wrap' (by omega) (hK _ ?_) ?_) | (with_reducible refine alt_same' (hK _ ?_) ?_) | (with_reducible refine And.intro ?_ (hK _ ?_)) | (refine fun _ => ?_; first | (with_reducible refine hK _ ?_) | (with_reducible refine alt_T (hK _ ?_)) | (with_reducible refine alt_wrap (by omega) (hK _ ?_)) | (with_reducible refine alt_same (hK _ ?_)))) <;> (clear hK; clear K))
    | ((with_reducible refine ops_a0 fun K hK => ?_); simp; (try simp (disch := omega) only [wrap64]); (first | ((with_reducible refine hK _ ?_); (clear hK; clear K)) | ((with_reducible refine And.intro ?_ (hK _ ?_)) <;> (clear hK; clear K)) | (repeat' (with_reducible refine And.intro ?_ ?_)) | skip))
    | ((with_reducible refine ops_ag fun K hK => ?_); first | (refine act_T rfl ?_; simp; (try simp (disch := omega) only [wrap64]); (first | ((with_reducible refine hK _ ?_); (clear hK; clear K)) | ((with_reducible refine And.intro ?_ (hK _ ?_)) <;> (clear hK; clear K)) | (repeat' (with_reducible refine And.intro ?_ ?_)) | skip)) | (refine act_F rfl ?_; simp; (with_reducible refine hK _ ?_); (clear hK; clear K)) | (refine act_N rfl ?_; simp; (with_reducible refine hK _ ?_); (clear hK; clear K)) | (refine act_c rfl fun c hc => ?_; cases c <;> (simp only [hc]; simp; (try simp (disch := omega) only [wrap64]); (try simp at hc); (first | ((with_reducible refine hK _ ?_); (clear hK; clear K)) | ((with_reducible refine And.intro ?_ (hK _ ?_)) <;> (clear hK; clear K)) | (repeat' (with_reducible refine And.intro ?_ ?_)) | skip))))
    | (with_reducible refine vc_drw_i [] ?_)
    | ((with_reducible refine T_done ?_); apply_assumption -exfalso -symm)
    | ((with_reducible refine T_take (by simp) fun K hK => ?_); simp; (try simp (disch := omega) only [wrap64]); (first | (with_reducible refine hK _ ?_) | (with_reducible refine alt_T (hK _ ?_)) | (with_reducible refine alt_wrap (by omega) (hK _ ?_)) | (with_reducible refine alt_same (hK _ ?_)) | (with_reducible refine alt_T' (hK _ ?_) ?_) | (with_reducible refine alt_wrap' (by omega) (hK _ ?_) ?_) | (with_reducible refine alt_same' (hK _ ?_) ?_) | (with_reducible refine And.intro ?_ (hK _ ?_)) | (refine fun _ => ?_; first | (with_reducible refine hK _ ?_) | (with_reducible refine alt_T (hK _ ?_)) | (with_reducible refine alt_wrap (by omega) (hK _ ?_)) | (with_reducible refine alt_same (hK _ ?_)))) <;> (clear hK; clear K))
    | ((with_reducible refine T_act0 fun K hK => ?_); simp; (try simp (disch := omega) only [wrap64]); (first | ((with_reducible refine hK _ ?_); (clear hK; clear K)) | ((with_reducible refine And.intro ?_ (hK _ ?_)) <;> (clear hK; clear K)) | (repeat' (with_reducible refine And.intro ?_ ?_)) | skip))
    | ((with_reducible refine T_actg fun K hK => ?_); first | (refine act_T rfl ?_; simp; (try simp (disch := omega) only [wrap64]); (first | ((with_reducible refine hK _ ?_); (clear hK; clear K)) | ((with_reducible refine And.intro ?_ (hK _ ?_)) <;> (clear hK; clear K)) | (repeat' (with_reducible refine And.intro ?_ ?_)) | skip)) | (refine act_F rfl ?_; simp; (with_reducible refine hK _ ?_); (clear hK; clear K)) | (refine act_N rfl ?_; simp; (with_reducible refine hK _ ?_); (clear hK; clear K)) | (refine act_c rfl fun c hc => ?_; cases c <;> (simp only [hc]; simp; (try simp (disch := omega) only [wrap64]); (try simp at hc); (first | ((with_reducible refine hK _ ?_); (clear hK; clear K)) | ((with_reducible refine And.intro ?_ (hK _ ?_)) <;> (clear hK; clear K)) | (repeat' (with_reducible refine And.intro ?_ ?_)) | skip))))
    | (with_reducible refine vc_block_i fun Y hY hN => ?_)
    | ((with_reducible refine vc_skip_i ?_); apply_assumption -exfalso -symm)
    | ((with_reducible refine vc_cond_i rfl ?_ ?_) <;> (intro hb; try simp at hb))
    | ((with_reducible refine vc_exit_i ?_); apply_assumption -exfalso -symm; try apply_assumption -exfalso -symm)
    | ((with_reducible refine vc_ret_i ?_); (with_reducible refine hR _ ?_); simp [r11]; skip)
    | ((with_reducible refine hR _ ?_); simp [r11]; skip)
    | ((with_reducible show vcCall _ _ _ _ _ _ _); refine call_i (n17 _ _ [100, 0, 1800] (by simp) (by simp)) (fun _ => 0) (fun _ => 0) (by simp) ⟨⟨⟨rfl, by simp⟩, Or.inl ⟨_, rfl, lint_get [100, 0, 1800]⟩, trivial⟩, trivial, ⟨⟨by simp, rfl, ⟨Or.inl ⟨_, rfl, fun _ _ => rfl⟩, rfl, trivial⟩⟩, trivial⟩⟩ ?_; rintro _ _ ⟨wv, b1, hw, rfl, rfl⟩; simp; first | ((with_reducible refine hK _ ?_); (clear hK; clear K)) | (with_reducible apply_assumption -exfalso -symm))
    | ((with_reducible show vcCall _ _ _ _ _ _ _); refine call_i (n12 _ _ 2 (by simp) (by simp)) (fun _ => 0) (fun _ => 0) (by simp) ⟨⟨⟨rfl, by simp⟩, rfl, trivial⟩, trivial, ⟨⟨by simp, rfl, ⟨Or.inl ⟨_, rfl, fun _ _ => rfl⟩, rfl, trivial⟩⟩, trivial⟩⟩ ?_; rintro _ _ ⟨nr, br, hnr, rfl, rfl⟩; simp; first | ((with_reducible refine hK _ ?_); (clear hK; clear K)) | (with_reducible apply_assumption -exfalso -symm))
    | ((with_reducible show vcCall _ _ _ _ _ _ _); refine call_i (n12 _ _ 6 (by simp) (by simp)) (fun _ => 0) (fun _ => 0) (by simp) ⟨⟨⟨rfl, by simp⟩, rfl, trivial⟩, trivial, ⟨⟨by simp, rfl, ⟨Or.inl ⟨_, rfl, fun _ _ => rfl⟩, rfl, trivial⟩⟩, trivial⟩⟩ ?_; rintro _ _ ⟨nv, b2, hn, rfl, rfl⟩; simp; first | ((with_reducible refine hK _ ?_); (clear hK; clear K)) | (with_reducible apply_assumption -exfalso -symm))
    | ((with_reducible show vcCall _ _ _ _ _ _ _); refine call_i (n17 _ _ [0, 50, 2000] (by simp) (by simp)) (fun _ => 0) (fun _ => 0) (by simp) ⟨⟨⟨rfl, by simp⟩, Or.inl ⟨_, rfl, lint_get [0, 50, 2000]⟩, trivial⟩, trivial, ⟨⟨by simp, rfl, ⟨Or.inl ⟨_, rfl, fun _ _ => rfl⟩, rfl, trivial⟩⟩, trivial⟩⟩ ?_; rintro _ _ ⟨tv, b3, ht, rfl, rfl⟩; simp; first | ((with_reducible refine hK _ ?_); (clear hK; clear K)) | (with_reducible apply_assumption -exfalso -symm))
    | ((with_reducible show vcCall _ _ _ _ _ _ _); refine call_i (n17 _ _ [10, 30, 31] (by simp) (by simp)) (fun _ => 0) (fun _ => 0) (by simp) ⟨⟨⟨rfl, by simp⟩, Or.inl ⟨_, rfl, lint_get [10, 30, 31]⟩, trivial⟩, trivial, ⟨⟨by simp, rfl, ⟨Or.inl ⟨_, rfl, fun _ _ => rfl⟩, rfl, trivial⟩⟩, trivial⟩⟩ ?_; rintro _ _ ⟨v1, b4, hv1, rfl, rfl⟩; simp; first | ((with_reducible refine hK _ ?_); (clear hK; clear K)) | (with_reducible apply_assumption -exfalso -symm))
    | ((with_reducible show vcCall _ _ _ _ _ _ _); refine call_i (n17 _ _ [30, 0, 90] (by simp) (by simp)) (fun _ => 0) (fun _ => 0) (by simp) ⟨⟨⟨rfl, by simp⟩, Or.inl ⟨_, rfl, lint_get [30, 0, 90]⟩, trivial⟩, trivial, ⟨⟨by simp, rfl, ⟨Or.inl ⟨_, rfl, fun _ _ => rfl⟩, rfl, trivial⟩⟩, trivial⟩⟩ ?_; rintro _ _ ⟨v2, b5, hv2, rfl, rfl⟩; simp; first | ((with_reducible refine hK _ ?_); (clear hK; clear K)) | (with_reducible apply_assumption -exfalso -symm))
    | (intros; omega))
  · obtain ⟨k, hk, hk3⟩ := quo5 nv hn
    rw [hk]; omega
  obtain ⟨k, hk, hk3⟩ := quo5 nv hn
  rw [hk]
  obtain ⟨m, hm, hm2⟩ : ∃ m : Nat, 1 + nr = m ∧ m ≤ 2 := ⟨(1 + nr).toNat, by omega, by omega⟩
  rw [hm]
  obtain ⟨ro, hro⟩ : ∃ ro : List Int, ro = [0, 2].take m := ⟨_, rfl⟩
  obtain ⟨hs, hhs⟩ : ∃ hs : List Int, hs = [v1, 500, v2].take k := ⟨_, rfl⟩
  have hsm : ∀ x ∈ hs, small x := by
    intro x hx
    rw [hhs] at hx
    have := List.mem_of_mem_take hx
    simp only [List.mem_cons, List.not_mem_nil, or_false] at this hv1 hv2
    unfold small
    omega
  refine loop_i {s : Nat × List (Int × Int) × Nat // s.1 ≤ m ∧ s.2.1.length = s.1 ∧ ∀ p ∈ s.2.1, small p.1 ∧ small p.2}
    (fun s => ⟨[(0, .ptr 0 0), (2, .ptr 1 0), (3, .ptr 2 0), (5, .ptr 13 0), (6, .ptr 34 0), (7, .own 35), (35, I m), (36, I s.1.1)], [(35, ⟨37, 2, s.1.2.1.map fun x => AV.ag [I x.1, I x.2], false⟩)],
      [(0, ⟨78, [Lint L, I s.1.2.2]⟩), (1, ⟨28, [I 0, I 0, .nils]⟩), (2, ⟨30, [I 0, .nils]⟩), (13, ⟨28, [I wv, I 30, Lint ro]⟩), (34, ⟨30, [I tv, Lint hs]⟩)], 36, 57⟩)
    (fun s => m - s.1.1) ⟨(0, [], b2), by simp, rfl, by simp⟩ ?_ ?_
  · refine turn_at [.nilT 7 37 2] id id ?_
    have e1 : ro.length = m := by rw [hro]; simp; omega
    have e2 : hs.length = k := by rw [hhs]; simp; omega
    simp
    refine ⟨⟨_, ⟨e1.symm, rfl⟩, fun j hj => ?_⟩, ⟨_, ⟨e2.symm, rfl⟩, fun j hj => ?_⟩⟩
    · rw [hro, List.getElem?_take, if_pos (by omega)]
      exact (lint_get [0, 2] j (by simp; omega)).trans (by simp [List.getD_eq_getElem?_getD])
    · rw [hhs, List.getElem?_take, if_pos (by omega)]
      exact (lint_get [v1, 500, v2] j (by simp; omega)).trans (by simp [List.getD_eq_getElem?_getD])
  · rintro ⟨⟨i, ms, b⟩, hi, hl, hms⟩ K hK
    simp only at hi hl hms
    repeat' (first
      | (with_reducible refine vc_seq_i fun K hK => ?_)
      | (with_reducible refine vc_ops_i ?_)
      | ((with_reducible refine ops_nil ?_); apply_assumption -exfalso -symm)
      | ((with_reducible refine ops_q fun K hK => ?_); simp; (try simp (disch := omega) only [wrap64]); (first | (with_reducible refine hK _ ?_) | (with_reducible refine alt_T (hK _ ?_)) | (with_reducible refine alt_wrap (by omega) (hK _ ?_)) | (with_reducible refine alt_same (hK _ ?_)) | (with_reducible refine alt_T' (hK _ ?_) ?_) | (with_reducible refine alt_wrap' (by omega) (hK _ ?_) ?_) | (with_reducible refine alt_same' (hK _ ?_) ?_) | (with_reducible refine And.intro ?_ (hK _ ?_)) | (refine fun _ => ?_; first | (with_reducible refine hK _ ?_) | (with_reducible refine alt_T (hK _ ?_)) | (with_reducible refine alt_wrap (by omega) (hK _ ?_)) | (with_reducible refine alt_same (hK _ ?_)))) <;> (clear hK; clear K))
      | ((with_reducible refine ops_a0 fun K hK => ?_); simp; (try simp (disch := omega) only [wrap64]); (first | ((with_reducible refine hK _ ?_); (clear hK; clear K)) | ((with_reducible refine And.intro ?_ (hK _ ?_)) <;> (clear hK; clear K)) | (repeat' (with_reducible refine And.intro ?_ ?_)) | skip))
      | ((with_reducible refine ops_ag fun K hK => ?_); first | (refine act_T rfl ?_; simp; (try simp (disch := omega) only [wrap64]); (first | ((with_reducible refine hK _ ?_); (clear hK; clear K)) | ((with_reducible refine And.intro ?_ (hK _ ?_)) <;> (clear hK; clear K)) | (repeat' (with_reducible refine And.intro ?_ ?_)) | skip)) | (refine act_F rfl ?_; simp; (with_reducible refine hK _ ?_); (clear hK; clear K)) | (refine act_N rfl ?_; simp; (with_reducible refine hK _ ?_); (clear hK; clear K)) | (refine act_c rfl fun c hc => ?_; cases c <;> (simp only [hc]; simp; (try simp (disch := omega) only [wrap64]); (try simp at hc); (first | ((with_reducible refine hK _ ?_); (clear hK; clear K)) | ((with_reducible refine And.intro ?_ (hK _ ?_)) <;> (clear hK; clear K)) | (repeat' (with_reducible refine And.intro ?_ ?_)) | skip))))
      | (with_reducible refine vc_drw_i [] ?_)
      | ((with_reducible refine T_done ?_); apply_assumption -exfalso -symm)
      | ((with_reducible refine T_take (by simp) fun K hK => ?_); simp; (try simp (disch := omega) only [wrap64]); (first | (with_reducible refine hK _ ?_) | (with_reducible refine alt_T (hK _ ?_)) | (with_reducible refine alt_wrap (by omega) (hK _ ?_)) | (with_reducible refine alt_same (hK _ ?_)) | (with_reducible refine alt_T' (hK _ ?_) ?_) | (with_reducible refine alt_wrap' (by omega) (hK _ ?_) ?_) | (with_reducible refine alt_same' (hK _ ?_) ?_) | (with_reducible refine And.intro ?_ (hK _ ?_)) | (refine fun _ => ?_; first | (with_reducible refine hK _ ?_) | (with_reducible refine alt_T (hK _ ?_)) | (with_reducible refine alt_wrap (by omega) (hK _ ?_)) | (with_reducible refine alt_same (hK _ ?_)))) <;> (clear hK; clear K))
      | ((with_reducible refine T_act0 fun K hK => ?_); simp; (try simp (disch := omega) only [wrap64]); (first | ((with_reducible refine hK _ ?_); (clear hK; clear K)) | ((with_reducible refine And.intro ?_ (hK _ ?_)) <;> (clear hK; clear K)) | (repeat' (with_reducible refine And.intro ?_ ?_)) | skip))
      | ((with_reducible refine T_actg fun K hK => ?_); first | (refine act_T rfl ?_; simp; (try simp (disch := omega) only [wrap64]); (first | ((with_reducible refine hK _ ?_); (clear hK; clear K)) | ((with_reducible refine And.intro ?_ (hK _ ?_)) <;> (clear hK; clear K)) | (repeat' (with_reducible refine And.intro ?_ ?_)) | skip)) | (refine act_F rfl ?_; simp; (with_reducible refine hK _ ?_); (clear hK; clear K)) | (refine act_N rfl ?_; simp; (with_reducible refine hK _ ?_); (clear hK; clear K)) | (refine act_c rfl fun c hc => ?_; cases c <;> (simp only [hc]; simp; (try simp (disch := omega) only [wrap64]); (try simp at hc); (first | ((with_reducible refine hK _ ?_); (clear hK; clear K)) | ((with_reducible refine And.intro ?_ (hK _ ?_)) <;> (clear hK; clear K)) | (repeat' (with_reducible refine And.intro ?_ ?_)) | skip))))
      | (with_reducible refine vc_block_i fun Y hY hN => ?_)
      | ((with_reducible refine vc_skip_i ?_); apply_assumption -exfalso -symm)
      | ((with_reducible refine vc_cond_i rfl ?_ ?_) <;> (intro hb; try simp at hb))
      | ((with_reducible refine vc_exit_i ?_); apply_assumption -exfalso -symm; try apply_assumption -exfalso -symm)
      | ((with_reducible refine vc_ret_i ?_); (with_reducible refine hR _ ?_); simp [r11]; skip)
      | ((with_reducible refine hR _ ?_); simp [r11]; skip)
      | ((with_reducible show vcCall _ _ _ _ _ _ _); refine call_i (n17 _ _ [0, 10, -5, 40] (by simp) (by simp)) (fun _ => 0) (fun _ => 0) (by simp) ⟨⟨⟨rfl, by simp⟩, Or.inl ⟨_, rfl, lint_get [0, 10, -5, 40]⟩, trivial⟩, trivial, ⟨⟨by simp, rfl, ⟨Or.inl ⟨_, rfl, fun _ _ => rfl⟩, rfl, trivial⟩⟩, trivial⟩⟩ ?_; rintro _ _ ⟨w1, b3, hw1, rfl, rfl⟩; simp; first | ((with_reducible refine hK _ ?_); (clear hK; clear K)) | (with_reducible apply_assumption -exfalso -symm))
      | ((with_reducible show vcCall _ _ _ _ _ _ _); refine call_i (n17 _ _ [30, 20, 31, 20] (by simp) (by simp)) (fun _ => 0) (fun _ => 0) (by simp) ⟨⟨⟨rfl, by simp⟩, Or.inl ⟨_, rfl, lint_get [30, 20, 31, 20]⟩, trivial⟩, trivial, ⟨⟨by simp, rfl, ⟨Or.inl ⟨_, rfl, fun _ _ => rfl⟩, rfl, trivial⟩⟩, trivial⟩⟩ ?_; rintro _ _ ⟨w2, b4, hw2, rfl, rfl⟩; simp; first | ((with_reducible refine hK _ ?_); (clear hK; clear K)) | (with_reducible apply_assumption -exfalso -symm))
      | (intros; omega))
    · simp only [List.mem_cons, List.not_mem_nil, or_false] at hw1 hw2
      refine ⟨⟨(i + 1, ms ++ [(w1, w2)], b4), by simp; omega, by simp; omega, ?_⟩, by simp; omega, turn_id (by simp) rfl (by simp)⟩
      intro p hp
      rcases List.mem_append.1 hp with hp | hp
      · exact hms p hp
      · simp only [List.mem_singleton] at hp
        subst hp
        unfold small
        simp only
        omega
    · rcases ms with _ | ⟨p, ms⟩
      · simp at hl; omega

      have hs3 : hs.length ≤ 3 := by rw [hhs]; simp; omega
      have hm3 : ms.length + 1 ≤ 2 := by simp at hl; omega
      repeat' (first
        | (with_reducible refine vc_seq_i fun K hK => ?_)
        | (with_reducible refine vc_ops_i ?_)
        | ((with_reducible refine ops_nil ?_); apply_assumption -exfalso -symm)
        | ((with_reducible refine ops_q fun K hK => ?_); simp; (try simp (disch := omega) only [wrap64]); (first | (with_reducible refine hK _ ?_) | (with_reducible refine alt_T (hK _ ?_)) | (with_reducible refine alt_wrap (by omega) (hK _ ?_)) | (with_reducible refine alt_same (hK _ ?_)) | (with_reducible refine alt_T' (hK _ ?_) ?_) | (with_reducible refine alt_wrap' (by omega) (hK _ ?_) ?_) | (with_reducible refine alt_same' (hK _ ?_) ?_) | (with_reducible refine And.intro ?_ (hK _ ?_)) | (refine fun _ => ?_; first | (with_reducible refine hK _ ?_) | (with_reducible refine alt_T (hK _ ?_)) | (with_reducible refine alt_wrap (by omega) (hK _ ?_)) | (with_reducible refine alt_same (hK _ ?_)))) <;> (clear hK; clear K))
        | ((with_reducible refine ops_a0 fun K hK => ?_); simp; (try simp (disch := omega) only [wrap64]); (first | ((with_reducible refine hK _ ?_); (clear hK; clear K)) | ((with_reducible refine And.intro ?_ (hK _ ?_)) <;> (clear hK; clear K)) | (repeat' (with_reducible refine And.intro ?_ ?_)) | skip))
        | ((with_reducible refine ops_ag fun K hK => ?_); first | (refine act_T rfl ?_; simp; (try simp (disch := omega) only [wrap64]); (first | ((with_reducible refine hK _ ?_); (clear hK; clear K)) | ((with_reducible refine And.intro ?_ (hK _ ?_)) <;> (clear hK; clear K)) | (repeat' (with_reducible refine And.intro ?_ ?_)) | skip)) | (refine act_F rfl ?_; simp; (with_reducible refine hK _ ?_); (clear hK; clear K)) | (refine act_N rfl ?_; simp; (with_reducible refine hK _ ?_); (clear hK; clear K)) | (refine act_c rfl fun c hc => ?_; cases c <;> (simp only [hc]; simp; (try simp (disch := omega) only [wrap64]); (try simp at hc); (first | ((with_reducible refine hK _ ?_); (clear hK; clear K)) | ((with_reducible refine And.intro ?_ (hK _ ?_)) <;> (clear hK; clear K)) | (repeat' (with_reducible refine And.intro ?_ ?_)) | skip))))
        | (with_reducible refine vc_drw_i [1, 2] ?_)
        | ((with_reducible refine T_done ?_); apply_assumption -exfalso -symm)
        | ((with_reducible refine T_take (by simp) fun K hK => ?_); simp; (try simp (disch := omega) only [wrap64]); (first | (with_reducible refine hK _ ?_) | (with_reducible refine alt_T (hK _ ?_)) | (with_reducible refine alt_wrap (by omega) (hK _ ?_)) | (with_reducible refine alt_same (hK _ ?_)) | (with_reducible refine alt_T' (hK _ ?_) ?_) | (with_reducible refine alt_wrap' (by omega) (hK _ ?_) ?_) | (with_reducible refine alt_same' (hK _ ?_) ?_) | (with_reducible refine And.intro ?_ (hK _ ?_)) | (refine fun _ => ?_; first | (with_reducible refine hK _ ?_) | (with_reducible refine alt_T (hK _ ?_)) | (with_reducible refine alt_wrap (by omega) (hK _ ?_)) | (with_reducible refine alt_same (hK _ ?_)))) <;> (clear hK; clear K))
        | ((with_reducible refine T_act0 fun K hK => ?_); simp; (try simp (disch := omega) only [wrap64]); (first | ((with_reducible refine hK _ ?_); (clear hK; clear K)) | ((with_reducible refine And.intro ?_ (hK _ ?_)) <;> (clear hK; clear K)) | (repeat' (with_reducible refine And.intro ?_ ?_)) | skip))
        | ((with_reducible refine T_actg fun K hK => ?_); first | (refine act_T rfl ?_; simp; (try simp (disch := omega) only [wrap64]); (first | ((with_reducible refine hK _ ?_); (clear hK; clear K)) | ((with_reducible refine And.intro ?_ (hK _ ?_)) <;> (clear hK; clear K)) | (repeat' (with_reducible refine And.intro ?_ ?_)) | skip)) | (refine act_F rfl ?_; simp; (with_reducible refine hK _ ?_); (clear hK; clear K)) | (refine act_N rfl ?_; simp; (with_reducible refine hK _ ?_); (clear hK; clear K)) | (refine act_c rfl fun c hc => ?_; cases c <;> (simp only [hc]; simp; (try simp (disch := omega) only [wrap64]); (try simp at hc); (first | ((with_reducible refine hK _ ?_); (clear hK; clear K)) | ((with_reducible refine And.intro ?_ (hK _ ?_)) <;> (clear hK; clear K)) | (repeat' (with_reducible refine And.intro ?_ ?_)) | skip))))
        | (with_reducible refine vc_block_i fun Y hY hN => ?_)
        | ((with_reducible refine vc_skip_i ?_); apply_assumption -exfalso -symm)
        | ((with_reducible refine vc_cond_i rfl ?_ ?_) <;> (intro hb; try simp at hb))
        | ((with_reducible refine vc_exit_i ?_); apply_assumption -exfalso -symm; try apply_assumption -exfalso -symm)
        | ((with_reducible refine vc_ret_i ?_); (with_reducible refine hR _ ?_); simp [r11]; skip)
        | ((with_reducible refine hR _ ?_); simp [r11]; skip)
        | ((with_reducible show vcCall _ _ _ _ _ _ _); refine call_i (n18 _ _ _) (fun _ => 0) (fun _ => 0) (by simp) ⟨⟨⟨rfl, by simp⟩, rfl, trivial⟩, trivial, ⟨⟨by simp, rfl, ⟨Or.inl ⟨_, rfl, fun _ _ => rfl⟩, rfl, trivial⟩⟩, trivial⟩⟩ ?_; rintro _ _ ⟨v, b5, rfl, rfl⟩; simp; first | ((with_reducible refine hK _ ?_); (clear hK; clear K)) | (with_reducible apply_assumption -exfalso -symm))
        | (intros; omega))
      · refine ret_at (r := .tup [aRule wv 30 ro, aFum tv hs, Lspan ((-1125899906842624, 1125899906842624) :: ms)]) [.frz 35] id [] [(0, ⟨78, [Lint L, I b5]⟩)] ?_ (hQ _ _ ⟨wv, ro, tv, hs, (-1125899906842624, 1125899906842624) :: ms, b5, hsm, ?_, hs3, hm3, rfl, rfl⟩)
        · simp [Le, keys]
          exact fun j hj => (lspan_get ((-1125899906842624, 1125899906842624) :: ms) j (by simpa using hj)).trans (by simp [List.getD_eq_getElem?_getD])
        · intro q hq
          rcases List.mem_cons.1 hq with rfl | hq
          · unfold small; simp only; omega
          · exact hms q (by simp [hq])
      · refine ret_at (r := .tup [aRule wv 30 ro, aFum tv hs, Lspan (p :: ms)]) [.frz 35] id [] [(0, ⟨78, [Lint L, I b5]⟩)] ?_ (hQ _ _ ⟨wv, ro, tv, hs, p :: ms, b5, hsm, hms, hs3, hm3, rfl, rfl⟩)
        simp [Le, keys]
        exact fun j hj => (lspan_get (p :: ms) j (by simpa using hj)).trans (by simp [List.getD_eq_getElem?_getD])
end Go.VV
