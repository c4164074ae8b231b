/- Part of a proof: the laws of single functions of the given program, shown step by step. -/
import Derived.Test.YtfcaebjpnakhhaaCB
import Derived.Test.YtfcaebjpnakhhaaT9
set_option linter.unusedSimpArgs false
set_option linter.unusedVariables false
set_option linter.unnecessarySimpa false
namespace Go.VV
open Go.Proofs
set_option maxRecDepth 4000
set_option maxHeartbeats 4000000
/-- A stretch of reports without the tag, and the absence that it stands for. -/
def SegL (x : Rd) (tag : Int) (l : List Rp) (q : Q4) : Prop := ∃ a run b, l = a ++ run ++ b ∧ (∀ r ∈ run, tag ∉ r.tags) ∧ 1 < run.length ∧ q.c = W ((run.head?.getD default).time + x.skew) ∧ q.d = W ((run.getLast?.getD default).time - x.skew)
theorem SegL.more {x : Rd} {tag : Int} {l : List Rp} {q : Q4} (h : SegL x tag l q) (r : List Rp) : SegL x tag (l ++ r) q := by
  obtain ⟨a, run, b, rfl, h⟩ := h
  exact ⟨a, run, b ++ r, by simp, h⟩
theorem endO_seg {x : Rd} {rd tag : Int} {a run b : List Rp} {out : List Q4} (hr : ∀ r ∈ run, tag ∉ r.tags) (ho : ∀ q ∈ out, SegL x tag (a ++ run ++ b) q) : ∀ q ∈ endO x rd tag run out, SegL x tag (a ++ run ++ b) q := by
  unfold endO
  split
  · rename_i h
    intro q hq
    rcases List.mem_append.1 hq with hq | hq
    · exact ho q hq
    · simp only [List.mem_singleton] at hq
      subst hq
      exact ⟨a, run, b, rfl, hr, h.1, rfl, rfl⟩
  · exact ho
theorem fold_seg {x : Rd} {rd tag : Int} (suf : List Rp) : ∀ (pre : List Rp) (p : List Rp × List Q4), (∃ a, pre = a ++ p.1) → (∀ r ∈ p.1, tag ∉ r.tags) → (∀ q ∈ p.2, SegL x tag pre q) →
    ∀ q ∈ finO x rd tag (suf.foldl (stepO x rd tag) p), SegL x tag (pre ++ suf) q := by
  induction suf with
  | nil =>
    rintro pre ⟨run, out⟩ ⟨a, rfl⟩ hr ho
    simp only [List.foldl_nil, finO]
    exact endO_seg (b := []) hr (by simpa using ho)
  | cons r suf ih =>
    rintro pre ⟨run, out⟩ ⟨a, rfl⟩ hr ho
    simp only [List.foldl_cons]
    rw [show a ++ run ++ r :: suf = (a ++ run ++ [r]) ++ suf by simp]
    have ho' : ∀ q ∈ endO x rd tag run out, SegL x tag (a ++ run ++ [r]) q := endO_seg hr (fun q hq => (ho q hq).more [r])
    refine ih _ _ ?_ ?_ ?_
    · unfold stepO
      split
      · exact ⟨a ++ run ++ [r], by simp⟩
      · split
        · exact ⟨a ++ run, by simp⟩
        · exact ⟨a, by simp⟩
    · unfold stepO
      split
      · simp
      · split
        · simpa
        · intro y hy
          rcases List.mem_append.1 hy with hy | hy
          · exact hr y hy
          · simp only [List.mem_singleton] at hy; subst hy; assumption
    · unfold stepO
      split
      · exact ho'
      · split
        · exact ho'
        · exact fun q hq => (ho q hq).more [r]
theorem scan_seg {x : Rd} {rd tag : Int} {l : List Rp} : ∀ q ∈ scanO x rd tag l, SegL x tag l q :=
  fold_seg l [] ([], []) ⟨[], rfl⟩ (by simp) (by simp)
/-- The absences by the numbers of the reports. -/
theorem scan_ix {x : Rd} {rd tag : Int} {l : List Rp} {q : Q4} (h : q ∈ scanO x rd tag l) :
    ∃ i j, i < j ∧ j < l.length ∧ (∀ t, i ≤ t → t ≤ j → tag ∉ (l[t]?.getD default).tags) ∧ q.c = W ((l[i]?.getD default).time + x.skew) ∧ q.d = W ((l[j]?.getD default).time - x.skew) := by
  obtain ⟨a, run, b, rfl, hr, hl, hc, hd⟩ := scan_seg q h
  have hget : ∀ t, t < run.length → (a ++ run ++ b)[a.length + t]? = run[t]? := by
    intro t ht
    rw [List.append_assoc, List.getElem?_append_right (by omega), List.getElem?_append_left (by omega)]
    congr 1; omega
  refine ⟨a.length, a.length + (run.length - 1), by omega, by simp; omega, fun t h1 h2 => ?_, ?_, ?_⟩
  · obtain ⟨u, rfl⟩ : ∃ u, t = a.length + u := ⟨t - a.length, by omega⟩
    rw [hget u (by omega)]
    exact hr _ (get_mem (by omega))
  · rw [hc, show a.length = a.length + 0 by rfl, hget 0 (by omega), List.head?_eq_getElem?]
  · rw [hd, hget _ (by omega), List.getLast?_eq_getElem?]
/-- What an absence says holds: no longer than Blind on end at the reader's places. -/
theorem truth {x : Rd} {rd tag : Int} {l : List Rp} {p k : Int} {M : Nat} {sp : List (Int × Int)} (hp : 1 ≤ p ∧ p ≤ 20) (hk : 0 ≤ k ∧ k ≤ 3) (hxs : x.skew = k) (hlen : l.length ≤ 30)
    (ht : ∀ t : Nat, t < l.length → (l[t]?.getD default).time - (50 + t * p) ≤ k ∧ -k ≤ (l[t]?.getD default).time - (50 + t * p))
    (hw : ∀ m : Nat, m + M < l.length → ∃ t : Nat, m ≤ t ∧ t ≤ m + M ∧ ¬ ((∃ s ∈ sp, s.1 ≤ 50 + (t : Int) * p ∧ 50 + (t : Int) * p ≤ s.2) ∧ tag ∉ (l[t]?.getD default).tags))
    {q : Q4} (h : q ∈ scanO x rd tag l) {s : Int × Int} (hs : s ∈ sp) : min s.2 q.d - max s.1 q.c ≤ (M + 1) * p := by
  obtain ⟨i, j, hij, hj, hu, hc, hd⟩ := scan_ix h
  have hti := ht i (by omega)
  have htj := ht j hj
  have hmul : ∀ t : Nat, t ≤ 30 → 0 ≤ (t : Int) * p ∧ (t : Int) * p ≤ 600 := by
    intro t h
    refine ⟨Int.mul_nonneg (by omega) (by omega), ?_⟩
    calc (t : Int) * p ≤ 30 * 20 := Int.mul_le_mul (by omega) hp.2 (by omega) (by omega)
      _ = 600 := by rfl
  have hmi := hmul i (by omega)
  have hmj := hmul j (by omega)
  rw [hxs] at hc hd
  have hc : q.c = (l[i]?.getD default).time + k := hc.trans (wrap64 (by omega) (by omega))
  have hd : q.d = (l[j]?.getD default).time - k := hd.trans (wrap64 (by omega) (by omega))
  have hmono : ∀ t u : Int, t ≤ u → t * p ≤ u * p := fun t u h => Int.mul_le_mul_of_nonneg_right h (by omega)
  have hstrict : ∀ t u : Int, t * p ≤ u * p → t ≤ u := by
    intro t u h
    rcases Int.lt_or_le u t with h1 | h1
    · have h2 := hmono (u + 1) t (by omega)
      rw [Int.add_mul] at h2
      omega
    · exact h1
  refine Int.not_lt.1 fun hgt => ?_
  obtain ⟨lo, hlo⟩ : ∃ lo, max s.1 q.c = lo := ⟨_, rfl⟩
  obtain ⟨hi, hhi⟩ : ∃ hi, min s.2 q.d = hi := ⟨_, rfl⟩
  rw [hlo, hhi] at hgt
  have h1 : s.1 ≤ lo ∧ q.c ≤ lo := by omega
  have h2 : hi ≤ s.2 ∧ hi ≤ q.d := by omega
  have e1 := Int.mul_ediv_add_emod (lo - 50 + p - 1) p
  have e2 := Int.emod_nonneg (lo - 50 + p - 1) (b := p) (by omega)
  have e3 := Int.emod_lt_of_pos (lo - 50 + p - 1) (b := p) (by omega)
  obtain ⟨m, hm⟩ : ∃ m, (lo - 50 + p - 1) / p = m := ⟨_, rfl⟩
  rw [hm, Int.mul_comm] at e1
  have hm1 : lo ≤ 50 + m * p := by omega
  have hm2 : 50 + m * p < lo + p := by omega
  have hmi' : (i : Int) ≤ m := hstrict _ _ (by omega)
  obtain ⟨n, hn⟩ : ∃ n : Nat, m = n := ⟨m.toNat, by omega⟩
  subst hn
  have hMp : ((n : Int) + M) * p = n * p + M * p := Int.add_mul _ _ _
  rw [Int.add_mul, Int.one_mul] at hgt
  have hend : (n : Int) + M ≤ j := hstrict _ _ (by omega)
  obtain ⟨t, h3, h4, h5⟩ := hw n (by omega)
  have h6 := hmono n t (by omega)
  have h7 := hmono t (n + M) (by omega)
  exact h5 ⟨⟨s, hs, by omega, by omega⟩, hu t (by omega) (by omega)⟩
theorem minI_eq (a b : Int) : minI a b = min a b := by unfold minI; split <;> omega
theorem maxI_eq (a b : Int) : maxI a b = max a b := by unfold maxI; split <;> omega
/-- The bearer is at the reader's places. -/
def th (sp : List (Int × Int)) (T : Int) : Bool := sp.any fun s => decide (s.1 ≤ T) && decide (T ≤ s.2)
theorem th_iff {sp : List (Int × Int)} {T : Int} : th sp T = true ↔ ∃ s ∈ sp, s.1 ≤ T ∧ T ≤ s.2 := by simp [th]
/-- The bearer is there and not seen. -/
def bad (p : Int) (sp : List (Int × Int)) (rs : List Rp) (t : Nat) : Prop := th sp (50 + (t : Int) * p) = true ∧ 6 ∉ (rs[t]?.getD default).tags
structure Looks (p k : Int) (M : Nat) (sp : List (Int × Int)) (missed : Nat) (rs : List Rp) : Prop where
  rep : ∀ t : Nat, t < rs.length → ((rs[t]?.getD default).reader = 0 ∧ (rs[t]?.getD default).number = t) ∧ ((rs[t]?.getD default).tags = [] ∨ (rs[t]?.getD default).tags = [6]) ∧ (rs[t]?.getD default).time - (50 + t * p) ≤ k ∧ -k ≤ (rs[t]?.getD default).time - (50 + t * p)
  win : ∀ m : Nat, m + M < rs.length → ∃ t : Nat, m ≤ t ∧ t ≤ m + M ∧ ¬ bad p sp rs t
  mis : missed ≤ M ∧ missed ≤ rs.length ∧ (missed < rs.length → ¬ bad p sp rs (rs.length - 1 - missed))
theorem bad_old {p : Int} {sp : List (Int × Int)} {rs : List Rp} {r : Rp} {t : Nat} (h : t < rs.length) : bad p sp (rs ++ [r]) t = bad p sp rs t := by
  unfold bad
  rw [List.getElem?_append_left h]
theorem get_new {rs : List Rp} {r : Rp} : (rs ++ [r])[rs.length]?.getD default = r := by simp
theorem Looks.rep' {p k : Int} {M missed : Nat} {sp : List (Int × Int)} {rs : List Rp} (g : Looks p k M sp missed rs) {r : Rp} (h1 : r.reader = 0 ∧ r.number = rs.length) (h2 : r.tags = [] ∨ r.tags = [6]) (h3 : r.time - (50 + rs.length * p) ≤ k ∧ -k ≤ r.time - (50 + rs.length * p)) :
    ∀ t : Nat, t < (rs ++ [r]).length → (((rs ++ [r])[t]?.getD default).reader = 0 ∧ ((rs ++ [r])[t]?.getD default).number = t) ∧ (((rs ++ [r])[t]?.getD default).tags = [] ∨ ((rs ++ [r])[t]?.getD default).tags = [6]) ∧ ((rs ++ [r])[t]?.getD default).time - (50 + t * p) ≤ k ∧ -k ≤ ((rs ++ [r])[t]?.getD default).time - (50 + t * p) := by
  intro t ht
  simp only [List.length_append, List.length_singleton] at ht
  rcases Nat.lt_or_ge t rs.length with h | h
  · rw [List.getElem?_append_left h]; exact g.rep t h
  · obtain rfl : t = rs.length := by omega
    rw [get_new]
    exact ⟨h1, h2, h3⟩
/-- A look at which the bearer is seen, or not there. -/
theorem Looks.stepG {p k : Int} {M missed : Nat} {sp : List (Int × Int)} {rs : List Rp} (g : Looks p k M sp missed rs) {r : Rp} (h1 : r.reader = 0 ∧ r.number = rs.length) (h2 : r.tags = [] ∨ r.tags = [6]) (h3 : r.time - (50 + rs.length * p) ≤ k ∧ -k ≤ r.time - (50 + rs.length * p))
    (hb : ¬ (th sp (50 + (rs.length : Int) * p) = true ∧ 6 ∉ r.tags)) : Looks p k M sp 0 (rs ++ [r]) := by
  have hn : ¬ bad p sp (rs ++ [r]) rs.length := by unfold bad; rw [get_new]; exact hb
  refine ⟨g.rep' h1 h2 h3, fun m hm => ?_, by omega, by omega, fun _ => ?_⟩
  · simp only [List.length_append, List.length_singleton] at hm
    rcases Nat.lt_or_ge (m + M) rs.length with h | h
    · obtain ⟨t, h4, h5, h6⟩ := g.win m h
      exact ⟨t, h4, h5, by rw [bad_old (by omega)]; exact h6⟩
    · exact ⟨rs.length, by omega, by omega, hn⟩
  · rw [show (rs ++ [r]).length - 1 - 0 = rs.length by simp]; exact hn
theorem Looks.stepB {p k : Int} {M missed : Nat} {sp : List (Int × Int)} {rs : List Rp} (g : Looks p k M sp missed rs) {r : Rp} (h1 : r.reader = 0 ∧ r.number = rs.length) (h2 : r.tags = [] ∨ r.tags = [6]) (h3 : r.time - (50 + rs.length * p) ≤ k ∧ -k ≤ r.time - (50 + rs.length * p))
    (hb : missed < M) : Looks p k M sp (missed + 1) (rs ++ [r]) := by
  obtain ⟨m1, m2, m3⟩ := g.mis
  refine ⟨g.rep' h1 h2 h3, fun m hm => ?_, by omega, by simp; omega, fun h => ?_⟩
  · simp only [List.length_append, List.length_singleton] at hm
    rcases Nat.lt_or_ge (m + M) rs.length with h | h
    · obtain ⟨t, h4, h5, h6⟩ := g.win m h
      exact ⟨t, h4, h5, by rw [bad_old (by omega)]; exact h6⟩
    · exact ⟨rs.length - 1 - missed, by omega, by omega, by rw [bad_old (by omega)]; exact m3 (by omega)⟩
  · simp only [List.length_append, List.length_singleton] at h ⊢
    rw [show rs.length + 1 - 1 - (missed + 1) = rs.length - 1 - missed by omega, bad_old (by omega)]
    exact m3 (by omega)
theorem Looks.truth {p k : Int} {M missed : Nat} {sp : List (Int × Int)} {rs : List Rp} {x : Rd} (g : Looks p k M sp missed rs) (hp : 1 ≤ p ∧ p ≤ 20) (hk : 0 ≤ k ∧ k ≤ 3) (hM : M ≤ 2) (hx : x.period = p ∧ x.miss = M ∧ x.skew = k) (hlen : rs.length ≤ 30)
    (hsp : ∀ s ∈ sp, (0 ≤ s.1 ∧ s.1 ≤ 2000) ∧ 0 ≤ s.2 ∧ s.2 ≤ 2000) {rd : Int} : ∀ q ∈ scanO x rd 6 rs, ∀ s ∈ sp, W (minI s.2 q.d - maxI s.1 q.c) ≤ blind x := by
  intro q hq s hs
  have h1 := Go.VV.truth (sp := sp) hp hk hx.2.2 hlen (fun t ht => (g.rep t ht).2.2) (fun m hm => by
    obtain ⟨t, h1, h2, h3⟩ := g.win m hm
    exact ⟨t, h1, h2, fun h => h3 ⟨th_iff.2 h.1, h.2⟩⟩) hq hs
  have h2 := hsp s hs
  obtain ⟨i, j, h3, h4, _, hc, hd⟩ := scan_ix hq
  have hmul : ∀ t : Nat, t ≤ 30 → 0 ≤ (t : Int) * p ∧ (t : Int) * p ≤ 600 := by
    intro t h
    refine ⟨Int.mul_nonneg (by omega) (by omega), ?_⟩
    calc (t : Int) * p ≤ 30 * 20 := Int.mul_le_mul (by omega) hp.2 (by omega) (by omega)
      _ = 600 := by rfl
  have h5 := hmul i (by omega)
  have h6 := hmul j (by omega)
  have h7 := (g.rep i (by omega)).2.2
  have h8 := (g.rep j (by omega)).2.2
  rw [hx.2.2] at hc hd
  have hc : q.c = (rs[i]?.getD default).time + k := hc.trans (wrap64 (by omega) (by omega))
  have hd : q.d = (rs[j]?.getD default).time - k := hd.trans (wrap64 (by omega) (by omega))
  have hmp : ((M : Int) + 1) * p ≤ 60 ∧ 0 ≤ ((M : Int) + 1) * p := by
    refine ⟨?_, Int.mul_nonneg (by omega) (by omega)⟩
    calc ((M : Int) + 1) * p ≤ 3 * 20 := Int.mul_le_mul (by omega) hp.2 (by omega) (by omega)
      _ = 60 := by rfl
  unfold blind
  rw [hx.1, hx.2.1, w_small (x := (M : Int) + 1) (by omega) (by omega), w_small (x := ((M : Int) + 1) * p) (by omega) (by omega), minI_eq, maxI_eq, w_small (by omega) (by omega)]
  exact h1
end Go.VV
