/- Part of a proof: the laws of single functions of the given program, shown step by step. -/
import Derived.Test.YtfgipdfdilafnaaC2
import Derived.Test.YtfgipdfdilafnaaW3
set_option linter.unusedSimpArgs false
set_option linter.unusedVariables false
set_option linter.unnecessarySimpa false
namespace Go.VV
open Go.Proofs
set_option maxRecDepth 4000
set_option maxHeartbeats 8000000
noncomputable def startE (m : Mn) (fl : List (Int × Int)) (pl : List Int) (t : Int) : Int := if givn m fl = false then 6 else if rises pl 0 (m.ps.length - 1) = false then 3 else if inB t 0 2147483648 = false then 8 else 0
def ini (n : Nat) (pl : List Int) (t : Int) : List Int := (List.range n).map fun (p : Nat) => if (p : Int) ∈ pl then t else 1099511627776
theorem ini_bd {n : Nat} {pl : List Int} {t : Int} (h : 0 ≤ t ∧ t ≤ 2147483648) : ∀ x ∈ ini n pl t, 0 ≤ x ∧ x ≤ 1099511627776 := by
  intro x hx
  obtain ⟨p, _, rfl⟩ := List.mem_map.1 hx
  split <;> omega
theorem ini_set {n : Nat} {pl : List Int} {t p : Int} (hp : 0 ≤ p ∧ p < n) : (ini n pl t).set p.toNat t = ini n (pl ++ [p]) t := by
  apply List.ext_getElem (by simp [ini])
  intro j h1 h2
  rw [List.getElem_set]
  simp only [ini, List.getElem_map, List.getElem_range, List.mem_append, List.mem_singleton]
  by_cases e : p.toNat = j
  · rw [if_pos e, if_pos (by right; omega)]
  · rw [if_neg e]
    by_cases h : (j : Int) ∈ pl
    · rw [if_pos h, if_pos (.inl h)]
    · rw [if_neg h, if_neg (by rintro (h' | h'); exact h h'; omega)]
theorem givn_rds {m : Mn} {fl : List (Int × Int)} (h : givn m fl = true) : Rds m ∧ fl.length = m.rs.length ∧ ∀ s ∈ fl, okSn s := by
  simp only [givn, Bool.and_eq_true, decide_eq_true_eq, beq_iff_eq, List.all_eq_true] at h
  exact ⟨chk_rds h.1.1, h.1.2, h.2⟩
theorem rises_at {l : List Int} {lo hi : Int} (h : rises l lo hi = true) {j : Nat} (hj : j < l.length) : lo ≤ l[j]?.getD 0 ∧ l[j]?.getD 0 ≤ hi := by
  simp only [rises, decide_eq_true_eq] at h
  exact (h j hj).1
theorem ini_len {n : Nat} {pl : List Int} {t : Int} : (ini n pl t).length = n := by simp [ini]
theorem ini_nil {n : Nat} {t : Int} : ini n [] t = List.replicate n 1099511627776 := by
  simp only [ini, List.not_mem_nil, if_false]
  apply List.ext_getElem (by simp)
  intro j h1 h2
  simp
theorem s13 (m : Mn) (fl : List (Int × Int)) (pl : List Int) (t : Int) (hn : 1 ≤ m.ps.length) : Spec Try.prog 13 ⟨[], []⟩ 0 [aMn m, Lsn fl, Lint pl, I t]
    (fun v C' => (startE m fl pl t = 0 ∧ ∃ f, Iv (eds m fl) (ini m.ps.length pl t) f ∧ closedE (eds m fl) f ∧ v = .tup [.ag [I t, .own 0], I 0] ∧ C' = ⟨[(0, ⟨3, 1, f.map I, false⟩)], []⟩) ∨
      (startE m fl pl t ≠ 0 ∧ v = .tup [.ag [I 0, .nils], I (startE m fl pl t)] ∧ C' = ⟨[], []⟩)) := by
  refine l13.go mixed mtW (by simp) fun Q hQ Rt hR => ?_
  unfold c13
  simp only [argT]
  repeat' (first
    | (with_reducible refine vc_seq_i fun K hK => ?_)
    | (with_reducible refine vc_ops_i ?_)
    | ((with_reducible refine ops_nil ?_); apply_assumption -exfalso -symm)
    | ((with_reducible refine ops_q fun K hK => ?_); simp; (try simp (disch := omega) only [wrap64]); (first | (with_reducible refine hK _ ?_) | (with_reducible refine alt_T (hK _ ?_)) | (with_reducible refine alt_wrap (by omega) (hK _ ?_)) | (with_reducible refine alt_same (hK _ ?_)) | (with_reducible refine alt_T' (hK _ ?_) ?_) | (with_reducible refine alt_wrap' (by omega) (hK _ ?_) ?_) | (with_reducible refine alt_same' (hK _ ?_) ?_) | (with_reducible refine And.intro ?_ (hK _ ?_)) | (refine fun _ => ?_; first | (with_reducible refine hK _ ?_) | (with_reducible refine alt_T (hK _ ?_)) | (with_reducible refine alt_wrap (by omega) (hK _ ?_)) | (with_reducible refine alt_same (hK _ ?_)))) <;> (clear hK; clear K))
    | ((with_reducible refine ops_a0 fun K hK => ?_); simp; (try simp (disch := omega) only [wrap64]); (first | ((with_reducible refine hK _ ?_); (clear hK; clear K)) | ((with_reducible refine And.intro ?_ (hK _ ?_)) <;> (clear hK; clear K)) | (repeat' (with_reducible refine And.intro ?_ ?_)) | skip))
    | ((with_reducible refine ops_ag fun K hK => ?_); first | (refine act_T rfl ?_; simp; (try simp (disch := omega) only [wrap64]); (first | ((with_reducible refine hK _ ?_); (clear hK; clear K)) | ((with_reducible refine And.intro ?_ (hK _ ?_)) <;> (clear hK; clear K)) | (repeat' (with_reducible refine And.intro ?_ ?_)) | skip)) | (refine act_F rfl ?_; simp; (with_reducible refine hK _ ?_); (clear hK; clear K)) | (refine act_N rfl ?_; simp; (with_reducible refine hK _ ?_); (clear hK; clear K)) | (refine act_c rfl fun c hc => ?_; cases c <;> (simp only [hc]; simp; (try simp (disch := omega) only [wrap64]); (try simp at hc); (first | ((with_reducible refine hK _ ?_); (clear hK; clear K)) | ((with_reducible refine And.intro ?_ (hK _ ?_)) <;> (clear hK; clear K)) | (repeat' (with_reducible refine And.intro ?_ ?_)) | skip))))
    | (with_reducible refine vc_drw_i [] ?_)
    | ((with_reducible refine T_done ?_); apply_assumption -exfalso -symm)
    | ((with_reducible refine T_take (by simp) fun K hK => ?_); simp; (try simp (disch := omega) only [wrap64]); (first | (with_reducible refine hK _ ?_) | (with_reducible refine alt_T (hK _ ?_)) | (with_reducible refine alt_wrap (by omega) (hK _ ?_)) | (with_reducible refine alt_same (hK _ ?_)) | (with_reducible refine alt_T' (hK _ ?_) ?_) | (with_reducible refine alt_wrap' (by omega) (hK _ ?_) ?_) | (with_reducible refine alt_same' (hK _ ?_) ?_) | (with_reducible refine And.intro ?_ (hK _ ?_)) | (refine fun _ => ?_; first | (with_reducible refine hK _ ?_) | (with_reducible refine alt_T (hK _ ?_)) | (with_reducible refine alt_wrap (by omega) (hK _ ?_)) | (with_reducible refine alt_same (hK _ ?_)))) <;> (clear hK; clear K))
    | ((with_reducible refine T_actq fun K hK => ?_); simp; (try simp (disch := omega) only [wrap64]); (first | (with_reducible refine hK _ ?_) | (with_reducible refine alt_T (hK _ ?_)) | (with_reducible refine alt_wrap (by omega) (hK _ ?_)) | (with_reducible refine alt_same (hK _ ?_)) | (with_reducible refine alt_T' (hK _ ?_) ?_) | (with_reducible refine alt_wrap' (by omega) (hK _ ?_) ?_) | (with_reducible refine alt_same' (hK _ ?_) ?_) | (with_reducible refine And.intro ?_ (hK _ ?_)) | (refine fun _ => ?_; first | (with_reducible refine hK _ ?_) | (with_reducible refine alt_T (hK _ ?_)) | (with_reducible refine alt_wrap (by omega) (hK _ ?_)) | (with_reducible refine alt_same (hK _ ?_)))) <;> (clear hK; clear K))
    | ((with_reducible refine T_fg ?_); simp)
    | ((with_reducible refine T_lz (by simp) fun K hK => ?_); simp; (try simp (disch := omega) only [wrap64]); (first | ((with_reducible refine hK _ ?_); (clear hK; clear K)) | ((with_reducible refine And.intro ?_ (hK _ ?_)) <;> (clear hK; clear K)) | (repeat' (with_reducible refine And.intro ?_ ?_)) | skip))
    | (with_reducible refine T_two ?_ ?_)
    | (with_reducible refine T_three ?_ ?_ ?_)
    | ((with_reducible refine T_act0 fun K hK => ?_); simp; (try simp (disch := omega) only [wrap64]); (first | ((with_reducible refine hK _ ?_); (clear hK; clear K)) | ((with_reducible refine And.intro ?_ (hK _ ?_)) <;> (clear hK; clear K)) | (repeat' (with_reducible refine And.intro ?_ ?_)) | skip))
    | ((with_reducible refine T_actg fun K hK => ?_); first | (refine act_T rfl ?_; simp; (try simp (disch := omega) only [wrap64]); (first | ((with_reducible refine hK _ ?_); (clear hK; clear K)) | ((with_reducible refine And.intro ?_ (hK _ ?_)) <;> (clear hK; clear K)) | (repeat' (with_reducible refine And.intro ?_ ?_)) | skip)) | (refine act_F rfl ?_; simp; (with_reducible refine hK _ ?_); (clear hK; clear K)) | (refine act_N rfl ?_; simp; (with_reducible refine hK _ ?_); (clear hK; clear K)) | (refine act_c rfl fun c hc => ?_; cases c <;> (simp only [hc]; simp; (try simp (disch := omega) only [wrap64]); (try simp at hc); (first | ((with_reducible refine hK _ ?_); (clear hK; clear K)) | ((with_reducible refine And.intro ?_ (hK _ ?_)) <;> (clear hK; clear K)) | (repeat' (with_reducible refine And.intro ?_ ?_)) | skip))))
    | (with_reducible refine vc_block_i fun Y hY hN => ?_)
    | ((with_reducible refine vc_skip_i ?_); apply_assumption -exfalso -symm)
    | ((with_reducible refine vc_cond_i rfl ?_ ?_) <;> (intro hb; try simp at hb))
    | ((with_reducible refine vc_dead_i ?_); first | omega | (exfalso; simp_all; done) | skip)
    | ((with_reducible refine vc_exit_i ?_); apply_assumption -exfalso -symm; try apply_assumption -exfalso -symm)
    | ((with_reducible refine vc_ret_i ?_); (with_reducible refine hR _ ?_); simp [r13]; skip)
    | ((with_reducible refine hR _ ?_); simp [r13]; skip)
    | ((with_reducible show vcCall _ _ _ _ _ _ _); refine call_0 (s27 _ _) ⟨⟨wk_same, wk_same, trivial⟩, wk_same, trivial⟩ ?_; rintro _ _ ⟨rfl, rfl⟩; simp; first | ((with_reducible refine hK _ ?_); (clear hK; clear K)) | (with_reducible apply_assumption -exfalso -symm))
    | ((with_reducible show vcCall _ _ _ _ _ _ _); refine call_0 (s28 _ _ _) ⟨wk_same, rfl, rfl, trivial⟩ ?_; rintro _ _ ⟨rfl, rfl⟩; simp; first | ((with_reducible refine hK _ ?_); (clear hK; clear K)) | (with_reducible apply_assumption -exfalso -symm))
    | ((with_reducible show vcCall _ _ _ _ _ _ _); refine call_0 (s29 _ _ _) ⟨rfl, rfl, rfl, trivial⟩ ?_; rintro _ _ ⟨rfl, rfl⟩; simp; first | ((with_reducible refine hK _ ?_); (clear hK; clear K)) | (with_reducible apply_assumption -exfalso -symm))
    | ((with_reducible show vcCall _ _ _ _ _ _ _); refine call_0 (s30 1099511627776 m.ps.length (by have := (givn_rds ‹givn m fl = true›).1.n; omega)) ⟨wk_sl rfl (lint_get [1099511627776]), rfl, trivial⟩ ?_; rintro _ _ ⟨rfl, rfl⟩; simp; first | ((with_reducible refine hK _ ?_); (clear hK; clear K)) | (with_reducible apply_assumption -exfalso -symm))
    | (intros; omega))
  · have e : startE m fl pl t = 6 := by rw [startE, if_pos hb]
    exact ret_wk (.tup [.ag [I 0, .nils], I 6]) (by simp) (hQ _ _ (.inr ⟨by rw [e]; simp, by rw [e], rfl⟩))
  · have e : startE m fl pl t = 3 := by rw [startE, if_neg (by simp [*]), if_pos hb]
    exact ret_wk (.tup [.ag [I 0, .nils], I 3]) (by simp) (hQ _ _ (.inr ⟨by rw [e]; simp, by rw [e], rfl⟩))
  · have e : startE m fl pl t = 8 := by rw [startE, if_neg (by simp [*]), if_neg (by simp [*]), if_pos hb]
    exact ret_wk (.tup [.ag [I 0, .nils], I 8]) (by simp) (hQ _ _ (.inr ⟨by rw [e]; simp, by rw [e], rfl⟩))
  have hg := givn_rds ‹givn m fl = true›
  have hrs := ‹rises pl 0 (m.ps.length - 1) = true›
  have e : startE m fl pl t = 0 := by rw [startE, if_neg (by simp [*]), if_neg (by simp [*]), if_neg (by simp [*])]
  rw [e] at hQ
  have ht : 0 ≤ t ∧ t ≤ 2147483648 := by simpa [inB] using hb
  refine loop_i {i : Nat // i ≤ pl.length} (fun i => ⟨[(1, Lsn fl), (3, I t), (4, .ptr 0 0), (8, .ptr 1 0), (10, .own 15), (38, Lint pl), (39, I pl.length), (40, I i.1)], [(15, ⟨3, 1, (ini m.ps.length (pl.take i.1) t).map I, false⟩)], [(1, ⟨36, [I 0, .nils]⟩), (0, ⟨30, [Lpl m.ps, Lro m.rs]⟩)], 19, 57⟩) (fun i => pl.length - i.1) ⟨0, Nat.zero_le _⟩ ?_ ?_
  · exact turn_id (by simp) rfl (by simp [ini_nil])
  rintro ⟨i, hi⟩ K hK
  simp only
  rcases Nat.lt_or_ge i pl.length with hlt | hge
  · have hpi := rises_at hrs hlt
    obtain ⟨p, hpe⟩ : ∃ p, pl[i]?.getD 0 = p := ⟨_, rfl⟩
    rw [hpe] at hpi
    have hset := ini_set (pl := pl.take i) (t := t) (n := m.ps.length) (p := p) (by omega)
    rw [← hpe, ← take_getD 0 hlt, hpe] at hset
    have hlen := ini_len (n := m.ps.length) (pl := pl.take i) (t := t)
    obtain ⟨f, hf⟩ : ∃ f, ini m.ps.length (pl.take i) t = f := ⟨_, rfl⟩
    rw [hf] at hset hlen ⊢
    have hpl : p.toNat < f.length := by omega
    obtain ⟨y, hy⟩ : ∃ y, f[p.toNat]? = some y := ⟨_, List.getElem?_eq_getElem hpl⟩
    repeat' (first
      | (with_reducible refine vc_seq_i fun K hK => ?_)
      | (with_reducible refine vc_ops_i ?_)
      | ((with_reducible refine ops_nil ?_); apply_assumption -exfalso -symm)
      | ((with_reducible refine ops_q fun K hK => ?_); simp[hpe, hlen, hy]; (try simp (disch := omega) only [wrap64]); (first | (with_reducible refine hK _ ?_) | (with_reducible refine alt_T (hK _ ?_)) | (with_reducible refine alt_wrap (by omega) (hK _ ?_)) | (with_reducible refine alt_same (hK _ ?_)) | (with_reducible refine alt_T' (hK _ ?_) ?_) | (with_reducible refine alt_wrap' (by omega) (hK _ ?_) ?_) | (with_reducible refine alt_same' (hK _ ?_) ?_) | (with_reducible refine And.intro ?_ (hK _ ?_)) | (refine fun _ => ?_; first | (with_reducible refine hK _ ?_) | (with_reducible refine alt_T (hK _ ?_)) | (with_reducible refine alt_wrap (by omega) (hK _ ?_)) | (with_reducible refine alt_same (hK _ ?_)))) <;> (clear hK; clear K))
      | ((with_reducible refine ops_a0 fun K hK => ?_); simp[hpe, hlen, hy]; (try simp (disch := omega) only [wrap64]); (first | ((with_reducible refine hK _ ?_); (clear hK; clear K)) | ((with_reducible refine And.intro ?_ (hK _ ?_)) <;> (clear hK; clear K)) | (repeat' (with_reducible refine And.intro ?_ ?_)) | skip))
      | ((with_reducible refine ops_ag fun K hK => ?_); first | (refine act_T rfl ?_; simp[hpe, hlen, hy]; (try simp (disch := omega) only [wrap64]); (first | ((with_reducible refine hK _ ?_); (clear hK; clear K)) | ((with_reducible refine And.intro ?_ (hK _ ?_)) <;> (clear hK; clear K)) | (repeat' (with_reducible refine And.intro ?_ ?_)) | skip)) | (refine act_F rfl ?_; simp; (with_reducible refine hK _ ?_); (clear hK; clear K)) | (refine act_N rfl ?_; simp; (with_reducible refine hK _ ?_); (clear hK; clear K)) | (refine act_c rfl fun c hc => ?_; cases c <;> (simp only [hc]; simp[hpe, hlen, hy]; (try simp (disch := omega) only [wrap64]); (try simp at hc); (first | ((with_reducible refine hK _ ?_); (clear hK; clear K)) | ((with_reducible refine And.intro ?_ (hK _ ?_)) <;> (clear hK; clear K)) | (repeat' (with_reducible refine And.intro ?_ ?_)) | skip))))
      | (with_reducible refine vc_drw_i [] ?_)
      | ((with_reducible refine T_done ?_); apply_assumption -exfalso -symm)
      | ((with_reducible refine T_take (by simp) fun K hK => ?_); simp[hpe, hlen, hy]; (try simp (disch := omega) only [wrap64]); (first | (with_reducible refine hK _ ?_) | (with_reducible refine alt_T (hK _ ?_)) | (with_reducible refine alt_wrap (by omega) (hK _ ?_)) | (with_reducible refine alt_same (hK _ ?_)) | (with_reducible refine alt_T' (hK _ ?_) ?_) | (with_reducible refine alt_wrap' (by omega) (hK _ ?_) ?_) | (with_reducible refine alt_same' (hK _ ?_) ?_) | (with_reducible refine And.intro ?_ (hK _ ?_)) | (refine fun _ => ?_; first | (with_reducible refine hK _ ?_) | (with_reducible refine alt_T (hK _ ?_)) | (with_reducible refine alt_wrap (by omega) (hK _ ?_)) | (with_reducible refine alt_same (hK _ ?_)))) <;> (clear hK; clear K))
      | ((with_reducible refine T_actq fun K hK => ?_); simp[hpe, hlen, hy]; (try simp (disch := omega) only [wrap64]); (first | (with_reducible refine hK _ ?_) | (with_reducible refine alt_T (hK _ ?_)) | (with_reducible refine alt_wrap (by omega) (hK _ ?_)) | (with_reducible refine alt_same (hK _ ?_)) | (with_reducible refine alt_T' (hK _ ?_) ?_) | (with_reducible refine alt_wrap' (by omega) (hK _ ?_) ?_) | (with_reducible refine alt_same' (hK _ ?_) ?_) | (with_reducible refine And.intro ?_ (hK _ ?_)) | (refine fun _ => ?_; first | (with_reducible refine hK _ ?_) | (with_reducible refine alt_T (hK _ ?_)) | (with_reducible refine alt_wrap (by omega) (hK _ ?_)) | (with_reducible refine alt_same (hK _ ?_)))) <;> (clear hK; clear K))
      | ((with_reducible refine T_fg ?_); simp)
      | ((with_reducible refine T_lz (by simp) fun K hK => ?_); simp[hpe, hlen, hy]; (try simp (disch := omega) only [wrap64]); (first | ((with_reducible refine hK _ ?_); (clear hK; clear K)) | ((with_reducible refine And.intro ?_ (hK _ ?_)) <;> (clear hK; clear K)) | (repeat' (with_reducible refine And.intro ?_ ?_)) | skip))
      | (with_reducible refine T_two ?_ ?_)
      | (with_reducible refine T_three ?_ ?_ ?_)
      | ((with_reducible refine T_act0 fun K hK => ?_); simp[hpe, hlen, hy]; (try simp (disch := omega) only [wrap64]); (first | ((with_reducible refine hK _ ?_); (clear hK; clear K)) | ((with_reducible refine And.intro ?_ (hK _ ?_)) <;> (clear hK; clear K)) | (repeat' (with_reducible refine And.intro ?_ ?_)) | skip))
      | ((with_reducible refine T_actg fun K hK => ?_); first | (refine act_T rfl ?_; simp[hpe, hlen, hy]; (try simp (disch := omega) only [wrap64]); (first | ((with_reducible refine hK _ ?_); (clear hK; clear K)) | ((with_reducible refine And.intro ?_ (hK _ ?_)) <;> (clear hK; clear K)) | (repeat' (with_reducible refine And.intro ?_ ?_)) | skip)) | (refine act_F rfl ?_; simp; (with_reducible refine hK _ ?_); (clear hK; clear K)) | (refine act_N rfl ?_; simp; (with_reducible refine hK _ ?_); (clear hK; clear K)) | (refine act_c rfl fun c hc => ?_; cases c <;> (simp only [hc]; simp[hpe, hlen, hy]; (try simp (disch := omega) only [wrap64]); (try simp at hc); (first | ((with_reducible refine hK _ ?_); (clear hK; clear K)) | ((with_reducible refine And.intro ?_ (hK _ ?_)) <;> (clear hK; clear K)) | (repeat' (with_reducible refine And.intro ?_ ?_)) | skip))))
      | (with_reducible refine vc_block_i fun Y hY hN => ?_)
      | ((with_reducible refine vc_skip_i ?_); apply_assumption -exfalso -symm)
      | ((with_reducible refine vc_cond_i rfl ?_ ?_) <;> (intro hb; try simp at hb))
      | ((with_reducible refine vc_dead_i ?_); first | omega | (exfalso; simp_all; done) | skip)
      | ((with_reducible refine vc_exit_i ?_); apply_assumption -exfalso -symm; try apply_assumption -exfalso -symm)
      | ((with_reducible refine vc_ret_i ?_); (with_reducible refine hR _ ?_); simp [r13]; skip)
      | ((with_reducible refine hR _ ?_); simp [r13]; skip)
      | (intros; omega))
    exact ⟨⟨i + 1, by omega⟩, by simp; omega, turn_id (by simp) rfl (by simp [← hset, List.map_set])⟩
  · have e2 : pl.take i = pl := List.take_of_length_le hge
    rw [e2]
    have c1 := s31 m fl (ini m.ps.length pl t) hg.1 hg.2.1 ini_len (ini_bd ht)
    repeat' (first
      | (with_reducible refine vc_seq_i fun K hK => ?_)
      | (with_reducible refine vc_ops_i ?_)
      | ((with_reducible refine ops_nil ?_); apply_assumption -exfalso -symm)
      | ((with_reducible refine ops_q fun K hK => ?_); simp; (try simp (disch := omega) only [wrap64]); (first | (with_reducible refine hK _ ?_) | (with_reducible refine alt_T (hK _ ?_)) | (with_reducible refine alt_wrap (by omega) (hK _ ?_)) | (with_reducible refine alt_same (hK _ ?_)) | (with_reducible refine alt_T' (hK _ ?_) ?_) | (with_reducible refine alt_wrap' (by omega) (hK _ ?_) ?_) | (with_reducible refine alt_same' (hK _ ?_) ?_) | (with_reducible refine And.intro ?_ (hK _ ?_)) | (refine fun _ => ?_; first | (with_reducible refine hK _ ?_) | (with_reducible refine alt_T (hK _ ?_)) | (with_reducible refine alt_wrap (by omega) (hK _ ?_)) | (with_reducible refine alt_same (hK _ ?_)))) <;> (clear hK; clear K))
      | ((with_reducible refine ops_a0 fun K hK => ?_); simp; (try simp (disch := omega) only [wrap64]); (first | ((with_reducible refine hK _ ?_); (clear hK; clear K)) | ((with_reducible refine And.intro ?_ (hK _ ?_)) <;> (clear hK; clear K)) | (repeat' (with_reducible refine And.intro ?_ ?_)) | skip))
      | ((with_reducible refine ops_ag fun K hK => ?_); first | (refine act_T rfl ?_; simp; (try simp (disch := omega) only [wrap64]); (first | ((with_reducible refine hK _ ?_); (clear hK; clear K)) | ((with_reducible refine And.intro ?_ (hK _ ?_)) <;> (clear hK; clear K)) | (repeat' (with_reducible refine And.intro ?_ ?_)) | skip)) | (refine act_F rfl ?_; simp; (with_reducible refine hK _ ?_); (clear hK; clear K)) | (refine act_N rfl ?_; simp; (with_reducible refine hK _ ?_); (clear hK; clear K)) | (refine act_c rfl fun c hc => ?_; cases c <;> (simp only [hc]; simp; (try simp (disch := omega) only [wrap64]); (try simp at hc); (first | ((with_reducible refine hK _ ?_); (clear hK; clear K)) | ((with_reducible refine And.intro ?_ (hK _ ?_)) <;> (clear hK; clear K)) | (repeat' (with_reducible refine And.intro ?_ ?_)) | skip))))
      | (with_reducible refine vc_drw_i [] ?_)
      | ((with_reducible refine T_done ?_); apply_assumption -exfalso -symm)
      | ((with_reducible refine T_take (by simp) fun K hK => ?_); simp; (try simp (disch := omega) only [wrap64]); (first | (with_reducible refine hK _ ?_) | (with_reducible refine alt_T (hK _ ?_)) | (with_reducible refine alt_wrap (by omega) (hK _ ?_)) | (with_reducible refine alt_same (hK _ ?_)) | (with_reducible refine alt_T' (hK _ ?_) ?_) | (with_reducible refine alt_wrap' (by omega) (hK _ ?_) ?_) | (with_reducible refine alt_same' (hK _ ?_) ?_) | (with_reducible refine And.intro ?_ (hK _ ?_)) | (refine fun _ => ?_; first | (with_reducible refine hK _ ?_) | (with_reducible refine alt_T (hK _ ?_)) | (with_reducible refine alt_wrap (by omega) (hK _ ?_)) | (with_reducible refine alt_same (hK _ ?_)))) <;> (clear hK; clear K))
      | ((with_reducible refine T_actq fun K hK => ?_); simp; (try simp (disch := omega) only [wrap64]); (first | (with_reducible refine hK _ ?_) | (with_reducible refine alt_T (hK _ ?_)) | (with_reducible refine alt_wrap (by omega) (hK _ ?_)) | (with_reducible refine alt_same (hK _ ?_)) | (with_reducible refine alt_T' (hK _ ?_) ?_) | (with_reducible refine alt_wrap' (by omega) (hK _ ?_) ?_) | (with_reducible refine alt_same' (hK _ ?_) ?_) | (with_reducible refine And.intro ?_ (hK _ ?_)) | (refine fun _ => ?_; first | (with_reducible refine hK _ ?_) | (with_reducible refine alt_T (hK _ ?_)) | (with_reducible refine alt_wrap (by omega) (hK _ ?_)) | (with_reducible refine alt_same (hK _ ?_)))) <;> (clear hK; clear K))
      | ((with_reducible refine T_fg ?_); simp)
      | ((with_reducible refine T_lz (by simp) fun K hK => ?_); simp; (try simp (disch := omega) only [wrap64]); (first | ((with_reducible refine hK _ ?_); (clear hK; clear K)) | ((with_reducible refine And.intro ?_ (hK _ ?_)) <;> (clear hK; clear K)) | (repeat' (with_reducible refine And.intro ?_ ?_)) | skip))
      | (with_reducible refine T_two ?_ ?_)
      | (with_reducible refine T_three ?_ ?_ ?_)
      | ((with_reducible refine T_act0 fun K hK => ?_); simp; (try simp (disch := omega) only [wrap64]); (first | ((with_reducible refine hK _ ?_); (clear hK; clear K)) | ((with_reducible refine And.intro ?_ (hK _ ?_)) <;> (clear hK; clear K)) | (repeat' (with_reducible refine And.intro ?_ ?_)) | skip))
      | ((with_reducible refine T_actg fun K hK => ?_); first | (refine act_T rfl ?_; simp; (try simp (disch := omega) only [wrap64]); (first | ((with_reducible refine hK _ ?_); (clear hK; clear K)) | ((with_reducible refine And.intro ?_ (hK _ ?_)) <;> (clear hK; clear K)) | (repeat' (with_reducible refine And.intro ?_ ?_)) | skip)) | (refine act_F rfl ?_; simp; (with_reducible refine hK _ ?_); (clear hK; clear K)) | (refine act_N rfl ?_; simp; (with_reducible refine hK _ ?_); (clear hK; clear K)) | (refine act_c rfl fun c hc => ?_; cases c <;> (simp only [hc]; simp; (try simp (disch := omega) only [wrap64]); (try simp at hc); (first | ((with_reducible refine hK _ ?_); (clear hK; clear K)) | ((with_reducible refine And.intro ?_ (hK _ ?_)) <;> (clear hK; clear K)) | (repeat' (with_reducible refine And.intro ?_ ?_)) | skip))))
      | (with_reducible refine vc_block_i fun Y hY hN => ?_)
      | ((with_reducible refine vc_skip_i ?_); apply_assumption -exfalso -symm)
      | ((with_reducible refine vc_cond_i rfl ?_ ?_) <;> (intro hb; try simp at hb))
      | ((with_reducible refine vc_dead_i ?_); first | omega | (exfalso; simp_all; done) | skip)
      | ((with_reducible refine vc_exit_i ?_); apply_assumption -exfalso -symm; try apply_assumption -exfalso -symm)
      | ((with_reducible refine vc_ret_i ?_); (with_reducible refine hR _ ?_); simp [r13]; skip)
      | ((with_reducible refine hR _ ?_); simp [r13]; skip)
      | ((with_reducible show vcCall _ _ _ _ _ _ _); refine call_p [15] c1 rfl rfl ⟨⟨⟨wk_same, wk_same, wk_same, by simp⟩, trivial⟩, by simp⟩ ?_; rintro _ _ ⟨f, hI, hC, rfl, rfl⟩; simp; first | ((with_reducible refine hK _ ?_); (clear hK; clear K)) | (with_reducible apply_assumption -exfalso -symm))
      | (intros; omega))
    exact ret_at (r := .tup [.ag [I t, .own 0], I 0]) [] (fun j => if j = 0 then 15 else j) [(0, ⟨3, 1, f.map I, false⟩)] [] (by simp [Le, keys] <;> omega) (hQ _ _ (.inl ⟨rfl, f, hI, hC, rfl, rfl⟩))
end Go.VV
