/- BreakerLeast: starts that bits pick are not legal, or have at least the demerits of the best ones. -/
import Derived.Test.YtgickognjlapmaaU46
import Derived.Test.YtgickognjlapmaaA45
import Derived.Test.YtgickognjlapmaaPWx6
namespace Go.Proofs.Ytgickognjlapmaa.Pure
set_option linter.unusedVariables false
set_option linter.unusedSimpArgs false
open Go.RowKit Go.Proofs.Ytgickognjlapmaa.PW Go.Proofs.Ytgickognjlapmaa.D44 Go.Proofs.Ytgickognjlapmaa.M46 Go.Proofs.YtgickognjlapmaaW.PrintWords Go.Proofs.YtgickognjlapmaaW.PrintLast Go.Proofs.YtgickognjlapmaaW.PrintMore

theorem chain_append {n : Int} {i : Int} (hi : i < n) : ∀ {s : List Int} {a : Int}, a < i → (∀ x ∈ s, x < i) → chain n a s = true → chain n a (s ++ [i]) = true
  | [], a, ha, _, _ => by
    rw [List.nil_append, chain, Bool.and_eq_true, decide_eq_true_eq]
    exact ⟨⟨ha, hi⟩, rfl⟩
  | x :: r, a, ha, hx, h => by
    rw [chain, Bool.and_eq_true] at h
    rw [List.cons_append, chain, Bool.and_eq_true]
    exact ⟨h.1, chain_append hi (hx x List.mem_cons_self) (fun y hy => hx y (List.mem_cons_of_mem _ hy)) h.2⟩
theorem starts_append {n : Int} {i : Int} (hi : 0 ≤ i) (hi2 : i < n) {s : List Int} (hx : ∀ x ∈ s, x < i) (h : startsB n s = true) : startsB n (s ++ [i]) = true := by
  obtain ⟨h1, h2⟩ := starts_chain h
  unfold startsB
  rw [Bool.and_eq_true, decide_eq_true_eq]
  refine ⟨chain_append hi2 (by omega) hx h1, ?_⟩
  cases s with
  | nil => simp at h2
  | cons x r => simpa using h2
theorem least_fin {l : List S} (hw : ∀ p ∈ l, WfP p) {w ind : Int} (hf : fits l w ind = true) (s : List Int) (hs : startsB (l.length : Int) s = true) (hl : s.length ≤ 1000) {k : Nat} (hk : 4000 ≤ k) :
    ((breaker_Best.f k l w ind).bind fun bt176 => ((demerit_Total.f k l bt176.1 w ind).bind fun bt181 => ((demerit_Total.f k l s w ind).bind fun bt183 => (if bt176.2.2 = 0 then (if bt181.2 = 0 then (if bt181.1 = bt176.2.1 then (if bt183.2 = 0 then (some (decide (bt183.1 ≥ bt176.2.1))) else (some true)) else (none)) else (none)) else (none))))) = some true := by
  have hn := vp_len (fits_iff.1 hf).1
  have ho := makeS_opt hf
  have so := opt_sound hf ho
  obtain ⟨b, hb, hbs, hbt, hbl⟩ := best_f hw hf ho (k := k) (by omega)
  have h1 := tight_total so (by omega) (starts_chain hbs).1 hbt
  rw [starts_end hbs] at h1
  rw [hb, Option.bind_some, demTotal l (by omega) hw b (by omega) w ind k (by omega), Option.bind_some, demTotal l (by omega) hw s hl w ind k (by omega), Option.bind_some, total_eq hf hbs, total_eq hf hs, h1, if_pos rfl, if_pos (by rfl), if_pos (by simp [pack])]
  cases hT : tS l w ind s with
  | none => rw [if_neg (by simp [pack])]
  | some t =>
    have := bound_le so (by omega) (starts_chain hs).1 hT
    rw [starts_end hs] at this
    rw [if_pos (by rfl), decide_eq_true (by simp only [pack]; omega)]
theorem least_loop {l : List S} (hw : ∀ p ∈ l, WfP p) {w ind : Int} (hf : fits l w ind = true) (bits : List Bool) (m : Int) (d : Nat) : ∀ (k i : Nat) (acc : List Int), 1 ≤ i → i ≤ l.length → l.length - i = d → startsB (l.length : Int) acc = true → (∀ x ∈ acc, x < (i : Int)) → acc.length ≤ i → 4001 + d ≤ k →
    vinculumlaw45_BreakerLeast.l0 k l bits acc (i : Int) w ind m = some true := by
  have hn := vp_len (fits_iff.1 hf).1
  induction d with
  | zero =>
    intro k i acc h1 hi hd hs hx hl hk
    obtain ⟨k, rfl⟩ : ∃ m, k = m + 1 := ⟨k - 1, by omega⟩
    simp only [vinculumlaw45_BreakerLeast.l0]
    rw [if_neg (by omega)]
    exact least_fin hw hf acc hs (by omega) (by omega)
  | succ d ih =>
    intro k i acc h1 hi hd hs hx hl hk
    obtain ⟨k, rfl⟩ : ∃ m, k = m + 1 := ⟨k - 1, by omega⟩
    have yes : vinculumlaw45_BreakerLeast.l0 k l bits (acc ++ [(i : Int)]) ((i + 1 : Nat) : Int) w ind m = some true := ih k (i + 1) _ (by omega) (by omega) (by omega) (starts_append (by omega) (by omega) hx hs) (fun x hx' => by
      rcases List.mem_append.1 hx' with h | h
      · have := hx x h; omega
      · rw [List.mem_singleton.1 h]; omega) (by rw [List.length_append, List.length_singleton]; omega) (by omega)
    have no : vinculumlaw45_BreakerLeast.l0 k l bits acc ((i + 1 : Nat) : Int) w ind m = some true := ih k (i + 1) _ (by omega) (by omega) (by omega) hs (fun x hx' => by have := hx x hx'; omega) (by omega) (by omega)
    simp only [vinculumlaw45_BreakerLeast.l0]
    rw [if_pos (by omega), len_succ (n := l.length) (by omega) (by omega), if_pos (show (0 : Int) ≤ (i : Int) by omega), if_pos (show acc.length < 17592186044416 by omega), yes, no]
    simp
theorem BreakerLeast (l0 : List S) (l1 : List Bool) (a b c : Int) (w0 : l0.length * 24 ≤ 140737488351232 ∧ l0.length ≤ maxLen ∧ ∀ v ∈ l0, WfP v) (w1 : l1.length * 1 ≤ 140737488351232 ∧ l1.length ≤ maxLen ∧ ∀ v ∈ l1, True) (wa : (Lit.int .i64 a).wf = true) (wb : (Lit.int .i64 b).wf = true) (wc : (Lit.int .i64 c).wf = true) :
    ∃ k, vinculumlaw45_BreakerLeast.f k l0 l1 a b c = some true := by
  obtain ⟨hn, _, hw⟩ := w0
  refine ⟨l0.length + 5000, ?_⟩
  unfold vinculumlaw45_BreakerLeast.f
  rw [awake45 _ (by omega), Option.bind_some, if_pos rfl, fits45_f (by omega) a b c wa (by omega), Option.bind_some]
  by_cases hf : fits l0 a b = true
  · have hv := vp_len (fits_iff.1 hf).1
    rw [if_pos hf]
    have := least_loop hw hf l1 c (l0.length - 1) (l0.length + 5000) 1 [0] (by omega) (by omega) rfl (by
      unfold startsB
      rw [chain, Bool.and_eq_true, Bool.and_eq_true, decide_eq_true_eq, decide_eq_true_eq]
      exact ⟨⟨by omega, rfl⟩, rfl⟩) (by simp) (by simp) (by omega)
    exact this
  · rw [if_neg hf]

end Go.Proofs.Ytgickognjlapmaa.Pure
