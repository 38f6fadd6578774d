/- CertificateOnly: with the least potentials Check accepts legal starts exactly if they have the least demerits, which is the least number of all subsets. -/
import Derived.Test.YtliegocbkgdhcaaU46
import Derived.Test.YtliegocbkgdhcaaPGx14
namespace Go.Proofs.Ytliegocbkgdhcaa.Pure
set_option linter.unusedVariables false
set_option linter.unusedSimpArgs false
open Go.RowKit Go.Proofs.Ytliegocbkgdhcaa.PG Go.Proofs.Ytliegocbkgdhcaa.D44 Go.Proofs.Ytliegocbkgdhcaa.M46 Go.Proofs.YtliegocbkgdhcaaW.PrintWords Go.Proofs.YtliegocbkgdhcaaW.PrintLast Go.Proofs.YtliegocbkgdhcaaW.PrintMore

/-- Is bit i - 1 of a number set? -/
def bt (b : Int) (i : Nat) : Bool := decide (Go.bits .and .u64 (shr .u64 b ((i : Int) - 1)) 1 = 1)
/-- What the bits of a number describe. -/
def subI (n : Nat) (b : Int) : List Int := 0 :: ((List.range' 1 (n - 1)).filter (bt b)).map (fun i : Nat => (i : Int))
theorem subset_loop (n : Nat) (hn : n ≤ 100) (b : Int) (d : Nat) : ∀ (k i : Nat) (acc : List Int), 1 ≤ i → i ≤ n → n - i = d → acc.length + d ≤ 1000 → d < k → vinculumref46_Subset.l0 k (n : Int) b acc (i : Int) = some (acc ++ ((List.range' i d).filter (bt b)).map (fun i : Nat => (i : Int))) := by
  induction d with
  | zero =>
    intro k i acc h1 hi hd hl hk
    obtain ⟨k, rfl⟩ : ∃ m, k = m + 1 := ⟨k - 1, by omega⟩
    simp only [vinculumref46_Subset.l0]
    rw [if_neg (by omega)]
    simp
  | succ d ih =>
    intro k i acc h1 hi hd hl hk
    obtain ⟨k, rfl⟩ : ∃ m, k = m + 1 := ⟨k - 1, by omega⟩
    simp only [vinculumref46_Subset.l0]
    rw [if_pos (by omega), wrap_id (x := (i : Int) - 1) (by omega) (by omega), if_pos (by omega), len_succ (n := n) (by omega) (by omega), List.range'_succ, List.filter_cons]
    by_cases c : Go.bits .and .u64 (shr .u64 b ((i : Int) - 1)) 1 = 1
    · rw [if_pos c, if_pos (by omega), if_pos (show bt b i = true from decide_eq_true c), ih k (i + 1) _ (by omega) (by omega) (by omega) (by rw [List.length_append, List.length_singleton]; omega) (by omega), List.append_assoc]
      rfl
    · rw [if_neg c, if_neg (show ¬ bt b i = true from fun e => c (of_decide_eq_true e)), ih k (i + 1) _ (by omega) (by omega) (by omega) (by omega) (by omega)]
theorem subset_f {n : Nat} (h1 : 1 ≤ n) (hn : n ≤ 100) (b : Int) {k : Nat} (hk : n < k) : vinculumref46_Subset.f k (n : Int) b = some (subI n b) := by
  unfold vinculumref46_Subset.f
  have := subset_loop n hn b (n - 1) k 1 [0] (by omega) h1 rfl (by simp; omega) (by omega)
  exact this
theorem chain_filter (n : Nat) (p : Nat → Bool) : ∀ (d i : Nat) (a : Int), i + d ≤ n → a < (i : Int) → chain (n : Int) a (((List.range' i d).filter p).map (fun i : Nat => (i : Int))) = true
  | 0, _, _, _, _ => rfl
  | d + 1, i, a, h, ha => by
    rw [List.range'_succ, List.filter_cons]
    by_cases c : p i = true
    · rw [if_pos c, List.map_cons, chain, Bool.and_eq_true, decide_eq_true_eq]
      exact ⟨by omega, chain_filter n p d (i + 1) _ (by omega) (by omega)⟩
    · rw [if_neg c]
      exact chain_filter n p d (i + 1) a (by omega) (by omega)
theorem sub_starts {n : Nat} (h1 : 1 ≤ n) (b : Int) : startsB (n : Int) (subI n b) = true := by
  unfold startsB subI
  rw [chain, Bool.and_eq_true, Bool.and_eq_true, decide_eq_true_eq, decide_eq_true_eq]
  exact ⟨⟨by omega, chain_filter n (bt b) (n - 1) 1 0 (by omega) (by omega)⟩, rfl⟩
theorem sub_len {n : Nat} (hn : n ≤ 100) (b : Int) : (subI n b).length ≤ 1000 := by
  unfold subI
  rw [List.length_cons, List.length_map]
  have := List.length_filter_le (bt b) (List.range' 1 (n - 1))
  rw [List.length_range'] at this
  omega
theorem chain_mem {n : Int} : ∀ {s : List Int} {a : Int}, chain n a s = true → ∀ x ∈ s, a < x
  | [], _, _, _, hx => by cases hx
  | y :: r, a, h, x, hx => by
    rw [chain, Bool.and_eq_true, decide_eq_true_eq] at h
    cases hx with
    | head => exact h.1.1
    | tail _ hx => have := chain_mem h.2 x hx; omega
theorem chain_sub {n : Nat} : ∀ (d a : Nat) (s : List Int), n - 1 - a = d → chain (n : Int) (a : Int) s = true → s = ((List.range' (a + 1) d).filter (fun i : Nat => decide ((i : Int) ∈ s))).map (fun i : Nat => (i : Int))
  | 0, a, s, hd, h => by
    cases s with
    | nil => rfl
    | cons x r =>
      rw [chain, Bool.and_eq_true, decide_eq_true_eq] at h
      omega
  | d + 1, a, s, hd, h => by
    rw [List.range'_succ, List.filter_cons]
    by_cases c : (((a + 1 : Nat) : Int)) ∈ s
    · rw [if_pos (decide_eq_true c), List.map_cons]
      cases s with
      | nil => cases c
      | cons x r =>
        rw [chain, Bool.and_eq_true, decide_eq_true_eq] at h
        have hx : x = ((a + 1 : Nat) : Int) := by
          cases c with
          | head => rfl
          | tail _ hx => have := chain_mem h.2 _ hx; omega
        subst hx
        have ih := chain_sub (n := n) d (a + 1) r (by omega) h.2
        congr 1
        refine ih.trans ?_
        congr 1
        refine List.filter_congr fun i hi => ?_
        have := List.mem_range'_1.1 hi
        rw [Bool.eq_iff_iff, decide_eq_true_eq, decide_eq_true_eq, List.mem_cons]
        constructor
        · exact Or.inr
        · rintro (e | e)
          · omega
          · exact e
    · rw [if_neg (by simpa using c)]
      refine chain_sub (n := n) d (a + 1) s (by omega) ?_
      cases s with
      | nil => rfl
      | cons x r =>
        rw [chain, Bool.and_eq_true, decide_eq_true_eq] at h ⊢
        have hx : x ≠ ((a + 1 : Nat) : Int) := fun e => c (by rw [e]; exact List.mem_cons_self)
        exact ⟨by omega, h.2⟩
theorem bits_ex : ∀ (m : Nat) (f : Nat → Bool), ∃ q, q < 2 ^ m ∧ ∀ i, i < m → q.testBit i = f i
  | 0, _ => ⟨0, by simp, fun i hi => absurd hi (by omega)⟩
  | m + 1, f => by
    obtain ⟨q, h1, h2⟩ := bits_ex m f
    have hp : 2 ^ (m + 1) = 2 ^ m + 2 ^ m := by rw [Nat.pow_succ]; omega
    cases hf : f m with
    | true =>
      refine ⟨2 ^ m + q, by omega, fun i hi => ?_⟩
      by_cases e : i = m
      · subst e
        rw [Nat.testBit_two_pow_add_eq, Nat.testBit_lt_two_pow h1, hf]
        rfl
      · rw [Nat.testBit_two_pow_add_gt (by omega)]
        exact h2 i (by omega)
    | false =>
      refine ⟨q, by omega, fun i hi => ?_⟩
      by_cases e : i = m
      · subst e
        rw [Nat.testBit_lt_two_pow h1, hf]
      · exact h2 i (by omega)
theorem bt_bits : ∀ q < 128, ∀ i < 7, bt ((q : Nat) : Int) (i + 1) = q.testBit i := by decide +kernel
theorem shl_pow : ∀ m < 8, shl .u64 1 ((m : Nat) : Int) = ((2 ^ m : Nat) : Int) := by decide +kernel
theorem wrap_succ : ∀ q < 128, IntKind.u64.wrap (((q : Nat) : Int) + 1) = ((q + 1 : Nat) : Int) := by decide +kernel
theorem pow_le : ∀ m < 8, 2 ^ m ≤ 128 := by decide
theorem sub_all {n : Nat} (h1 : 1 ≤ n) (hn : n ≤ 8) {s : List Int} (h : startsB (n : Int) s = true) : ∃ q : Nat, q < 2 ^ (n - 1) ∧ subI n (q : Int) = s := by
  obtain ⟨hc, h0⟩ := starts_chain h
  cases s with
  | nil => simp at h0
  | cons x r =>
    obtain rfl : x = 0 := by simpa using h0
    rw [chain, Bool.and_eq_true] at hc
    have hr := chain_sub (n := n) (n - 1) 0 r (by omega) hc.2
    obtain ⟨q, hq, hb⟩ := bits_ex (n - 1) (fun i => decide (((i + 1 : Nat) : Int) ∈ r))
    refine ⟨q, hq, ?_⟩
    unfold subI
    congr 1
    refine Eq.trans ?_ hr.symm
    congr 1
    refine List.filter_congr fun i hi => ?_
    have hi' := List.mem_range'_1.1 hi
    have hp := pow_le (n - 1) (by omega)
    obtain ⟨j, rfl⟩ : ∃ j, i = j + 1 := ⟨i - 1, by omega⟩
    rw [bt_bits q (by omega) j (by omega)]
    exact hb j (by omega)
theorem path_ex {l : List S} {w ind : Int} {o : List Int} (ho : Opt l w ind 0 o) : ∀ (d i : Nat), l.length - i = d → i ≤ l.length → ∃ s, (∀ a : Int, a < (i : Int) → chain (l.length : Int) a s = true) ∧ endOf l s = (i : Int) ∧ tS l w ind s = some (rd o (i : Int)) := by
  obtain ⟨_, g2, g3, _⟩ := ho
  intro d
  induction d using Nat.strongRecOn with
  | ind d ih =>
    intro i hd hi
    by_cases e : i = l.length
    · subst e
      refine ⟨[], fun _ _ => rfl, rfl, ?_⟩
      rw [g2]
      rfl
    · obtain ⟨_, j, k1, k2, k3, k4⟩ := g3 i (by omega) (by omega)
      obtain ⟨s, h1, h2, h3⟩ := ih (l.length - j) (by omega) j rfl k2
      refine ⟨(i : Int) :: s, fun a ha => ?_, rfl, ?_⟩
      · rw [chain, Bool.and_eq_true, decide_eq_true_eq]
        exact ⟨by omega, h1 _ (by omega)⟩
      · simp only [tS]
        rw [h2, Int.toNat_natCast, Int.toNat_natCast, if_pos k3, h3, Option.map_some, k4]

theorem only_loop {l : List S} {w ind : Int} (hf : fits l w ind = true) (hw : ∀ p ∈ l, WfP p) (h1 : 1 ≤ l.length) (hn : l.length ≤ 8) (o : List Int) (ho : Opt l w ind 0 o) (bs : Int) (d : Nat) : ∀ (k q : Nat) (fd : Bool), q ≤ 2 ^ (l.length - 1) → 2 ^ (l.length - 1) - q = d → (fd = true ∨ ∃ c : Nat, q ≤ c ∧ c < 2 ^ (l.length - 1) ∧ totalS l (subI l.length (c : Int)) w ind = (rd o 0, 0)) → 4000 + d ≤ k →
    vinculumlaw46_CertificateOnly.l0 k l bs o fd (q : Int) w ind = some true := by
  have hp := pow_le (l.length - 1) (by omega)
  have hs := opt_sound hf ho
  have hol : o.length = l.length + 1 := ho.1
  have len1 : wrap64 ((l.length : Int) - 1) = ((l.length - 1 : Nat) : Int) := by rw [wrap_id (by omega) (by omega)]; omega
  induction d with
  | zero =>
    intro k q fd hq hd hfd hk
    obtain ⟨k, rfl⟩ : ∃ m, k = m + 1 := ⟨k - 1, by omega⟩
    have hfd' : fd = true := by
      rcases hfd with h | ⟨c, c1, c2, _⟩
      · exact h
      · omega
    subst hfd'
    have hst := sub_starts (n := l.length) h1 bs
    have hlen := sub_len (n := l.length) (by omega) bs
    obtain ⟨hc, _⟩ := starts_chain hst
    have hlen2 : (subI l.length bs).length ≤ 8 := by
      unfold subI
      rw [List.length_cons, List.length_map]
      have := List.length_filter_le (bt bs) (List.range' 1 (l.length - 1))
      rw [List.length_range'] at this
      omega
    simp only [vinculumlaw46_CertificateOnly.l0]
    rw [len1, shl_pow _ (by omega), if_pos (by omega), if_neg (by omega), subset_f h1 (by omega) bs (by omega), Option.bind_some, demTotal l (by omega) hw _ hlen w ind _ (by omega), Option.bind_some, if_pos trivial, check_f (by omega) hw w ind _ o hlen (by omega), Option.bind_some, total_eq hf hst]
    unfold checkS
    rw [hs, hst, Bool.true_and, Bool.true_and]
    cases hT : tS l w ind (subI l.length bs) with
    | none =>
      have hx : ¬ M46.tight l w ind o (subI l.length bs) = true := by
        intro e
        have := tight_total hs (by omega) hc e
        rw [hT] at this
        simp at this
      rw [Bool.not_eq_true _ |>.mp hx, if_neg (by simp [pack])]
      rfl
    | some t =>
      rw [if_pos (by rfl), if_pos (by omega)]
      simp only [pack, Int.zero_add]
      by_cases e : M46.tight l w ind o (subI l.length bs) = true
      · have := tight_total hs (by omega) hc e
        rw [hT, starts_end hst] at this
        rw [Option.some.inj this, e]
        simp
      · have hne : t ≠ rd o 0 := by
          intro e2
          refine e (total_tight hs (by omega) hc ?_)
          rw [hT, starts_end hst, e2]
        rw [Bool.not_eq_true _ |>.mp e, beq_eq_false_iff_ne.2 hne]
        rfl
  | succ d ih =>
    intro k q fd hq hd hfd hk
    obtain ⟨k, rfl⟩ : ∃ m, k = m + 1 := ⟨k - 1, by omega⟩
    have hst := sub_starts (n := l.length) h1 (q : Int)
    have hlen := sub_len (n := l.length) (by omega) (q : Int)
    have hlen2 : (subI l.length (q : Int)).length ≤ 8 := by
      unfold subI
      rw [List.length_cons, List.length_map]
      have := List.length_filter_le (bt (q : Int)) (List.range' 1 (l.length - 1))
      rw [List.length_range'] at this
      omega
    obtain ⟨hc, _⟩ := starts_chain hst
    have next : ∀ fd' : Bool, (fd' = true ∨ ∃ c : Nat, q + 1 ≤ c ∧ c < 2 ^ (l.length - 1) ∧ totalS l (subI l.length (c : Int)) w ind = (rd o 0, 0)) → vinculumlaw46_CertificateOnly.l0 k l bs o fd' (IntKind.u64.wrap ((q : Int) + 1)) w ind = some true := by
      intro fd' h
      rw [wrap_succ q (by omega)]
      exact ih k (q + 1) fd' (by omega) (by omega) h (by omega)
    simp only [vinculumlaw46_CertificateOnly.l0]
    rw [len1, shl_pow _ (by omega), if_pos (by omega), if_pos (by omega), subset_f h1 (by omega) _ (by omega), Option.bind_some, demTotal l (by omega) hw _ hlen w ind _ (by omega), Option.bind_some]
    have heq := total_eq hf hst
    cases hT : tS l w ind (subI l.length (q : Int)) with
    | none =>
      rw [hT] at heq
      have hfd' : fd = true ∨ ∃ c : Nat, q + 1 ≤ c ∧ c < 2 ^ (l.length - 1) ∧ totalS l (subI l.length (c : Int)) w ind = (rd o 0, 0) := by
        rcases hfd with h | ⟨c, c1, c2, c3⟩
        · exact Or.inl h
        · refine Or.inr ⟨c, ?_, c2, c3⟩
          by_cases e : c = q
          · subst e
            rw [heq] at c3
            simp [pack] at c3
          · omega
      rw [heq, if_neg (by simp [pack])]
      cases fd with
      | true => rw [if_pos rfl]; exact next true (Or.inl rfl)
      | false => rw [if_neg (by simp)]; exact next false hfd'
    | some t =>
      rw [hT] at heq
      have hb := bound_le hs (by omega) hc hT
      rw [starts_end hst] at hb
      rw [heq, if_pos (by rfl), if_pos (by omega)]
      simp only [pack, Int.zero_add]
      rw [if_neg (by omega)]
      cases fd with
      | true => rw [if_pos rfl]; exact next true (Or.inl rfl)
      | false =>
        rw [if_neg (by simp)]
        refine next _ ?_
        by_cases e : t = rd o 0
        · exact Or.inl (beq_iff_eq.2 e)
        · rcases hfd with h | ⟨c, c1, c2, c3⟩
          · simp at h
          · refine Or.inr ⟨c, ?_, c2, c3⟩
            by_cases e2 : c = q
            · subst e2
              rw [heq] at c3
              simp only [pack, Int.zero_add, Prod.mk.injEq, and_true] at c3
              exact absurd c3 e
            · omega
theorem CertificateOnly (l0 : List S) (a b : Int) (bs : Int) (w0 : l0.length * 24 ≤ 140737488351232 ∧ l0.length ≤ maxLen ∧ ∀ v ∈ l0, WfP v) (wa : (Lit.int .i64 a).wf = true) (wb : (Lit.int .i64 b).wf = true) (wbs : (Lit.int .u64 bs).wf = true) :
    ∃ k, vinculumlaw46_CertificateOnly.f k l0 a b bs = some true := by
  obtain ⟨_, _, hw⟩ := w0
  refine ⟨20000 + 1 + 1, ?_⟩
  have ht : vinculumlaw46_CertificateOnly.j0 (20000 + 1 + 1) l0 bs true a b = some true := by simp only [vinculumlaw46_CertificateOnly.j0, if_true]
  unfold vinculumlaw46_CertificateOnly.f
  rw [awake46 _ (by omega), Option.bind_some, if_pos rfl]
  by_cases h1 : (l0.length : Int) > 8
  · rw [if_pos h1, ht]
  rw [if_neg h1, refFits_f (by omega) a b wa (by omega), Option.bind_some]
  by_cases hf : fits l0 a b = true
  · rw [hf, Bool.not_true]
    have hml : (makeS l0 a b).1.length = l0.length + 1 := by rw [makeS_len, if_pos hf]
    have he : (makeS l0 a b).2 = 0 := by unfold makeS; rw [if_pos hf]
    have hv := vp_len (fits_iff.1 hf).1
    have ho := makeS_opt hf
    simp only [vinculumlaw46_CertificateOnly.j0]
    rw [if_neg (by simp), make_f (by omega) hw a b (by omega), Option.bind_some, if_pos he, hml, len_succ (n := l0.length + 1) (by omega) (by omega), bne_self_eq_false]
    simp only [vinculumlaw46_CertificateOnly.j1]
    rw [if_neg (by simp)]
    obtain ⟨s, s1, s2, s3⟩ := path_ex ho _ 0 rfl (by omega)
    have hs : startsB (l0.length : Int) s = true := by
      cases s with
      | nil => simp only [endOf] at s2; omega
      | cons x r =>
        simp only [endOf] at s2
        unfold startsB
        rw [s1 (-1) (by omega), s2]
        rfl
    obtain ⟨q, hq, hsub⟩ := sub_all hv.1 (by omega) hs
    have hp := pow_le (l0.length - 1) (by omega)
    refine only_loop hf hw hv.1 (by omega) _ ho bs _ _ 0 false (by omega) rfl (Or.inr ⟨q, by omega, hq, ?_⟩) (by omega)
    rw [hsub, total_eq hf hs, s3]
    simp [pack]
  · rw [Bool.not_eq_true _ |>.mp hf, Bool.not_false, ht]

end Go.Proofs.Ytliegocbkgdhcaa.Pure
