/- BreakerPenalties: adding a number to all penalties changes the demerits of the best starts with a number of lines by this number for each line but the first one, and not the starts. -/
import Derived.Test.YtgickognjlapmaaO45
import Derived.Test.YtgickognjlapmaaA45
import Derived.Test.YtgickognjlapmaaPQx7
namespace Go.Proofs.Ytgickognjlapmaa.Pure
set_option linter.unusedVariables false
set_option linter.unusedSimpArgs false
open Go.RowKit Go.Proofs.Ytgickognjlapmaa.PQ Go.Proofs.Ytgickognjlapmaa.D44 Go.Proofs.Ytgickognjlapmaa.M46 Go.Proofs.YtgickognjlapmaaW.PrintWords Go.Proofs.YtgickognjlapmaaW.PrintLast Go.Proofs.YtgickognjlapmaaW.PrintMore

/-- A piece with a number added to its penalty. -/
def addP (by_ : Int) (p : S) : S := ⟨p.f0, p.f1, wrap64 (p.f2 + wrap64 by_)⟩
theorem wrap_wf (x : Int) : (Lit.int .i64 (wrap64 x)).wf = true := by
  rw [wf64]
  unfold wrap64
  omega
theorem addP_wf {l : List S} (by_ : Int) (hw : ∀ p ∈ l, WfP p) : ∀ p ∈ l.map (addP by_), WfP p := by
  intro p hp
  obtain ⟨q, hq, rfl⟩ := List.mem_map.1 hp
  have := hw q hq
  exact ⟨this.1, this.2.1, wrap_wf _⟩
theorem acc_add (by_ : Int) (l : List S) : ∀ m, acc (l.map (addP by_)) m = acc l m
  | 0 => rfl
  | m + 1 => by
    simp only [acc]
    rw [acc_add by_ l m]
    by_cases h : m < l.length
    · simp [h, addP]
    · simp [h]
theorem rd_add (by_ : Int) (l : List S) {i : Nat} (h : i < l.length) : rd_T34 (l.map (addP by_)) (i : Int) = addP by_ (rd_T34 l (i : Int)) := by
  rw [rd_nat h, rd_nat (by rw [List.length_map]; exact h), List.getElem_map]
theorem len44_add (by_ : Int) (l : List S) {i : Nat} (h : i < l.length) (j : Nat) : len44 (l.map (addP by_)) i j = len44 l i j := by
  unfold len44
  rw [acc_add, acc_add, rd_add by_ l h]
  rfl
theorem lin_add {l : List S} {w ind by_ : Int} (hf : fits l w ind = true) (hq : fits (l.map (addP by_)) w ind = true) (hb : -32768 ≤ by_ ∧ by_ ≤ 32767) {i j : Nat} (hij : i < j) (hj : j ≤ l.length) :
    (lin (l.map (addP by_)) w ind i j).2 = (lin l w ind i j).2 ∧ ((lin l w ind i j).2 = true → (lin (l.map (addP by_)) w ind i j).1 = (lin l w ind i j).1 + (if 0 < i then by_ else 0)) := by
  obtain ⟨hv, h1, h2, h3, h4⟩ := fits_iff.1 hf
  have hv' := (fits_iff.1 hq).1
  have hn := vp_len hv
  have key : ∀ v : Int, 1 ≤ v → v ≤ 10000000 → ((lineS (l.map (addP by_)) (i : Int) (j : Int) v).2 == 0) = ((lineS l (i : Int) (j : Int) v).2 == 0) ∧ (((lineS l (i : Int) (j : Int) v).2 == 0) = true → (lineS (l.map (addP by_)) (i : Int) (j : Int) v).1 = (lineS l (i : Int) (j : Int) v).1 + (if 0 < i then by_ else 0)) := by
    intro v g1 g2
    have hlen : len44 (l.map (addP by_)) i j = len44 l i j := len44_add by_ l (by omega) j
    have hleg : legal (l.map (addP by_)) i j v = legal l i j v := by unfold legal; rw [hlen]
    have e1 : lineS (l.map (addP by_)) (i : Int) (j : Int) v = if legal l i j v = true then (lineD (l.map (addP by_)) i j v, 0) else (0, 6) := by
      unfold lineS
      rw [if_pos ⟨hv', g1, g2⟩, if_pos (show 0 ≤ (i : Int) ∧ (i : Int) < (j : Int) ∧ (j : Int) ≤ ((l.map (addP by_)).length : Int) by rw [List.length_map]; omega), Int.toNat_natCast, Int.toNat_natCast, hleg]
    have e2 : lineS l (i : Int) (j : Int) v = if legal l i j v = true then (lineD l i j v, 0) else (0, 6) := by
      unfold lineS
      rw [if_pos ⟨hv, g1, g2⟩, if_pos (show 0 ≤ (i : Int) ∧ (i : Int) < (j : Int) ∧ (j : Int) ≤ (l.length : Int) by omega), Int.toNat_natCast, Int.toNat_natCast]
    rw [e1, e2]
    by_cases c : legal l i j v = true
    · rw [if_pos c, if_pos c]
      refine ⟨rfl, fun _ => ?_⟩
      simp only
      unfold lineD
      rw [hlen, List.length_map, rd_add by_ l (by omega)]
      have hp := vp_ok hv (m := i) (by omega)
      split
      · rw [rd_nat (by omega : i < l.length)]
        unfold addP
        simp only
        rw [wrap_id (x := by_) (by omega) (by omega), wrap_id (by omega) (by omega)]
        omega
      · omega
    · rw [if_neg c, if_neg c]
      exact ⟨rfl, fun h => absurd h (by simp)⟩
  unfold lin
  simp only
  split
  · rw [wrap_id (by omega) (by omega)]
    have := key (w - ind) (by omega) (by omega)
    rw [if_pos (by assumption)] at this
    exact this
  · have := key w h1 h2
    rw [if_neg (by assumption)] at this
    exact this
theorem fr_add {l : List S} (by_ : Int) {i : Nat} {s : List Int} : Fr (l.map (addP by_)) i s ↔ Fr l i s := by
  unfold Fr
  rw [List.length_map]
  have : endOf (l.map (addP by_)) s = endOf l s := by
    cases s with
    | nil => simp [endOf]
    | cons x r => rfl
  rw [this]
theorem tS_add {l : List S} {w ind by_ : Int} (hf : fits l w ind = true) (hq : fits (l.map (addP by_)) w ind = true) (hb : -32768 ≤ by_ ∧ by_ ≤ 32767) : ∀ (d i : Nat) (s : List Int), l.length - i = d → i ≤ l.length → 0 < i → Fr l i s →
    tS (l.map (addP by_)) w ind s = (tS l w ind s).map (fun t => t + by_ * (s.length : Int)) := by
  intro d
  induction d using Nat.strongRecOn with
  | ind d ih =>
    intro i s hd hi h0 hs
    rcases fr_inv hs hi with ⟨_, rfl⟩ | ⟨h1, j, r, rfl, h2, h3, h4⟩
    · simp [tS]
    · have hl := lin_add hf hq hb h2 h3
      rw [tS_cons ((fr_add by_).2 h4), tS_cons h4, hl.1, ih (l.length - j) (by omega) j r rfl h3 (by omega) h4]
      by_cases c : (lin l w ind i j).2 = true
      · rw [if_pos c, if_pos c, hl.2 c, if_pos h0]
        cases tS l w ind r with
        | none => rfl
        | some t =>
          simp only [Option.map_some, Option.some.injEq, List.length_cons]
          rw [show ((r.length + 1 : Nat) : Int) = (r.length : Int) + 1 by omega, Int.mul_add]
          omega
      · rw [if_neg c, if_neg c]
        rfl
theorem tS_add0 {l : List S} {w ind by_ : Int} (hf : fits l w ind = true) (hq : fits (l.map (addP by_)) w ind = true) (hb : -32768 ≤ by_ ∧ by_ ≤ 32767) {s : List Int} (hs : Fr l 0 s) :
    tS (l.map (addP by_)) w ind s = (tS l w ind s).map (fun t => t + by_ * ((s.length : Int) - 1)) := by
  have hn := vp_len (fits_iff.1 hf).1
  rcases fr_inv hs (Nat.zero_le _) with ⟨_, rfl⟩ | ⟨h1, j, r, rfl, h2, h3, h4⟩
  · omega
  · have hl := lin_add hf hq hb h2 h3
    rw [tS_cons ((fr_add by_).2 h4), tS_cons h4, hl.1, tS_add hf hq hb (l.length - j) j r rfl h3 h2 h4]
    by_cases c : (lin l w ind 0 j).2 = true
    · rw [if_pos c, if_pos c, hl.2 c, if_neg (by omega)]
      cases tS l w ind r with
      | none => rfl
      | some t =>
        simp only [Option.map_some, Option.some.injEq, List.length_cons]
        rw [show ((r.length + 1 : Nat) : Int) - 1 = (r.length : Int) by omega]
        omega
    · rw [if_neg c, if_neg c]
      rfl
theorem best_add {l : List S} {w ind by_ : Int} (hf : fits l w ind = true) (hq : fits (l.map (addP by_)) w ind = true) (hb : -32768 ≤ by_ ∧ by_ ≤ 32767) {c : Nat} {s : List Int} {t : Int} (h : BestOf l w ind 0 (fun s => s.length = c) s t) :
    BestOf (l.map (addP by_)) w ind 0 (fun s => s.length = c) s (t + by_ * ((c : Int) - 1)) := by
  refine ⟨(fr_add by_).2 h.fr, h.ok, ?_, fun s' t' g1 g2 g3 => ?_⟩
  · rw [tS_add0 hf hq hb h.fr, h.sum, h.ok]
    rfl
  · have g1' := (fr_add by_).1 g1
    rw [tS_add0 hf hq hb g1', g2] at g3
    obtain ⟨t2, k1, rfl⟩ := Option.map_eq_some_iff.1 g3
    rcases h.least s' t2 g1' g2 k1 with h | ⟨h, h2⟩
    · exact Or.inl (by omega)
    · exact Or.inr ⟨by omega, h2⟩
theorem tS_bound {l : List S} {w ind : Int} : ∀ (d i : Nat) (s : List Int) (t : Int), l.length - i = d → i ≤ l.length → Fr l i s → tS l w ind s = some t → -10000 * (d : Int) ≤ t ∧ t ≤ 700040000 * (d : Int) := by
  intro d
  induction d using Nat.strongRecOn with
  | ind d ih =>
    intro i s t hd hi hs ht
    rcases fr_inv hs hi with ⟨_, rfl⟩ | ⟨h1, j, r, rfl, h2, h3, h4⟩
    · have : (0 : Int) = t := Option.some.inj ht
      omega
    · obtain ⟨_, t', k1, rfl⟩ := tS_some h4 ht
      have := ih (l.length - j) (by omega) j r t' rfl h3 h4 k1
      have hb := lin_bd l w ind i j
      omega
theorem pen_fin {l : List S} (hw : ∀ p ∈ l, WfP p) {w ind by_ : Int} (hb : -32768 ≤ by_ ∧ by_ ≤ 32767) (hww : (Lit.int .i64 w).wf = true) (m : Int) (hl20 : l.length ≤ 20) {k : Nat} (hk : 500 ≤ k) :
    vinculumlaw45_BreakerPenalties.l0 k l by_ (l.map (addP by_)) ((l.map (addP by_)).length : Int) w ind m = some true := by
  obtain ⟨k, rfl⟩ : ∃ q, k = q + 2 := ⟨k - 2, by omega⟩
  have hw' := addP_wf by_ hw
  have hl' : (l.map (addP by_)).length = l.length := List.length_map _
  have yes : ∀ x7, vinculumlaw45_BreakerPenalties.j1 (k + 1) l by_ x7 true w ind m = some true := fun x7 => by
    simp only [vinculumlaw45_BreakerPenalties.j1]
    rfl
  simp only [vinculumlaw45_BreakerPenalties.l0]
  rw [if_neg (by omega), fits45_f (by omega) w ind m hww (by omega), Option.bind_some]
  by_cases hf : fits l w ind = true
  case neg => rw [if_neg hf]; exact yes _
  rw [if_pos hf, fits45_f (by omega) w ind m hww (by omega), Option.bind_some]
  by_cases hq : fits (l.map (addP by_)) w ind = true
  case neg => rw [Bool.not_eq_true _ |>.mp hq]; exact yes _
  rw [hq]
  simp only [vinculumlaw45_BreakerPenalties.j1]
  rw [if_neg (by decide)]
  by_cases hm : m < 1 ∨ m > (l.length : Int)
  · rw [lines_out hw hf (by omega) hm, Option.bind_some, lines_out hw' hq (by omega) (by omega), Option.bind_some, if_neg (by decide)]
    rfl
  · obtain ⟨c, rfl⟩ : ∃ c : Nat, m = (c : Int) := ⟨m.toNat, by omega⟩
    rcases lines_spec hw hf (K := k + 1 - 1) (by omega) (show 1 ≤ c by omega) (show c ≤ l.length by omega) with ⟨s, t, g1, g2⟩ | ⟨g1, g2⟩
    · have hadd := best_add hf hq hb g2
      rcases lines_spec hw' hq (K := k + 1 - 1) (by omega) (show 1 ≤ c by omega) (by omega) with ⟨s', t', k1, k2⟩ | ⟨k1, k2⟩
      · obtain ⟨rfl, rfl⟩ := hadd.unique k2
        have hsl := fr_length l.length 0 s (by omega) (by omega) g2.fr
        have hbd := tS_bound l.length 0 s t (by omega) (by omega) g2.fr g2.sum
        rw [show k = k + 1 - 1 by omega, g1, Option.bind_some, k1, Option.bind_some, if_pos rfl, if_pos rfl]
        simp only
        rw [same45_self s (by omega) (by omega), Option.bind_some, if_pos rfl]
        have hc1 : wrap64 ((c : Int) - 1) = (c : Int) - 1 := wrap_id (by omega) (by omega)
        have hprod : -655360 ≤ by_ * ((c : Int) - 1) ∧ by_ * ((c : Int) - 1) ≤ 655360 := by
          obtain ⟨e, he⟩ : ∃ e : Nat, (c : Int) - 1 = (e : Int) := ⟨c - 1, by omega⟩
          have he2 : e ≤ 20 := by omega
          rw [he]
          constructor
          · have := Int.mul_le_mul_of_nonneg_right hb.1 (show (0 : Int) ≤ (e : Int) by omega)
            omega
          · have := Int.mul_le_mul_of_nonneg_right hb.2 (show (0 : Int) ≤ (e : Int) by omega)
            omega
        rw [hc1, wrap_id (x := by_) (by omega) (by omega), wrap_id (x := by_ * ((c : Int) - 1)) (by omega) (by omega), wrap_id (by omega) (by omega)]
        simp
      · have := k2 s hadd.fr hadd.ok
        rw [hadd.sum] at this
        cases this
    · have hno : breaker_Lines.f (k + 1 - 1) (l.map (addP by_)) w ind (c : Int) = some ([], 0, 8) := by
        rcases lines_spec hw' hq (K := k + 1 - 1) (by omega) (show 1 ≤ c by omega) (by omega) with ⟨s', t', k1, k2⟩ | ⟨k1, k2⟩
        · have h1 := (fr_add by_).1 k2.fr
          have h2 := k2.sum
          rw [tS_add0 hf hq hb h1, g2 s' h1 k2.ok] at h2
          cases h2
        · exact k1
      rw [show k = k + 1 - 1 by omega, g1, Option.bind_some, hno, Option.bind_some, if_neg (by decide)]
      rfl
theorem pen_loop {l : List S} (hw : ∀ p ∈ l, WfP p) {w ind by_ : Int} (hb : -32768 ≤ by_ ∧ by_ ≤ 32767) (hww : (Lit.int .i64 w).wf = true) (m : Int) (hl20 : l.length ≤ 20) (d : Nat) : ∀ (k i : Nat), i ≤ l.length → l.length - i = d → 500 + d ≤ k →
    vinculumlaw45_BreakerPenalties.l0 k l by_ ((l.take i).map (addP by_) ++ l.drop i) (i : Int) w ind m = some true := by
  induction d with
  | zero =>
    intro k i hi hd hk
    obtain rfl : i = l.length := by omega
    rw [List.take_length, List.drop_length, List.append_nil]
    have := pen_fin hw (ind := ind) hb hww m hl20 (k := k) (by omega)
    rwa [List.length_map] at this
  | succ d ih =>
    intro k i hi hd hk
    obtain ⟨k, rfl⟩ : ∃ q, k = q + 1 := ⟨k - 1, by omega⟩
    have hil : i < l.length := by omega
    have hlen : ((l.take i).map (addP by_) ++ l.drop i).length = l.length := by
      rw [List.length_append, List.length_map, List.length_take, List.length_drop]
      omega
    have hlt : ((l.take i).map (addP by_)).length = i := by rw [List.length_map, List.length_take]; omega
    have hrd : rd_T34 ((l.take i).map (addP by_) ++ l.drop i) (i : Int) = l[i] := by
      rw [rd_nat (by omega), List.getElem_append_right (by omega)]
      simp [Nat.min_eq_left (Nat.le_of_lt hil)]
    simp only [vinculumlaw45_BreakerPenalties.l0]
    rw [if_pos (by omega), if_pos (by omega), hrd, Int.toNat_natCast, len_succ hil (by omega)]
    have hset : ((l.take i).map (addP by_) ++ l.drop i).set i ⟨l[i].f0, l[i].f1, wrap64 (l[i].f2 + wrap64 by_)⟩ = (l.take (i + 1)).map (addP by_) ++ l.drop (i + 1) := by
      rw [List.set_append_right _ _ (by omega), hlt, Nat.sub_self, List.drop_eq_getElem_cons hil, List.set_cons_zero, List.take_succ_eq_append_getElem hil, List.map_append, List.append_assoc]
      rfl
    rw [hset]
    exact ih k (i + 1) (by omega) (by omega) (by omega)
theorem BreakerPenalties (l0 : List S) (a b c by_ : Int) (w0 : l0.length * 24 ≤ 140737488351232 ∧ l0.length ≤ maxLen ∧ ∀ v ∈ l0, WfP v) (wa : (Lit.int .i64 a).wf = true) (wb : (Lit.int .i64 b).wf = true) (wc : (Lit.int .i64 c).wf = true) (wd : (Lit.int .i16 by_).wf = true) :
    ∃ k, vinculumlaw45_BreakerPenalties.f k l0 a b c by_ = some true := by
  obtain ⟨hn, _, hw⟩ := w0
  have hb : -32768 ≤ by_ ∧ by_ ≤ 32767 := by
    simpa [Lit.wf, IntKind.min, IntKind.max, IntKind.signed, IntKind.bits] using wd
  refine ⟨l0.length + 5002, ?_⟩
  unfold vinculumlaw45_BreakerPenalties.f
  rw [awake45 _ (by omega), Option.bind_some, if_pos rfl]
  by_cases h20 : (l0.length : Int) > 20
  · rw [if_pos h20]
  · rw [if_neg h20, Option.bind_some, if_pos (by simp; omega), List.nil_append]
    have := pen_loop hw (ind := b) hb wa c (by omega) (l0.length) (l0.length + 5002) 0 (Nat.zero_le _) (by omega) (by omega)
    simpa using this

end Go.Proofs.Ytgickognjlapmaa.Pure
