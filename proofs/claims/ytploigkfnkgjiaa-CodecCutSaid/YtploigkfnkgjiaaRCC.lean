/- Layer 3's encodings: what the encoder writes is what the reader reads, and the way back. Lemmas only. -/
import Derived.Test.YtploigkfnkgjiaaPCx0
import Derived.Test.YtploigkfnkgjiaaPCx1
import Derived.Test.YtploigkfnkgjiaaPCx2
import Derived.Test.YtploigkfnkgjiaaPCx3
import Derived.Test.YtploigkfnkgjiaaPCx4
import Derived.Test.YtploigkfnkgjiaaPCx5
import Derived.Laws.BitsLemmas
namespace Go.Proofs.Ytploigkfnkgjiaa.RC
set_option linter.unusedVariables false
set_option linter.unusedSimpArgs false
open Go.RowKit Go.Proofs.Ytploigkfnkgjiaa.PC Go.Proofs.YtploigkfnkgjiaaW.PrintWords Go.Proofs.YtploigkfnkgjiaaW.PrintMore

abbrev V := S29
theorem len_succ {i : Nat} {n : Nat} (h : i < n) (hn : n ≤ 9223372036854775807) : wrap64 ((i : Int) + 1) = ((i + 1 : Nat) : Int) := by unfold wrap64; omega
theorem rdV {l : List V} {i : Nat} (h : i < l.length) : rd_T29 l (i : Int) = l[i] := by simp [rd_T29, h]
theorem vEta : ∀ v : V, (⟨v.f0, v.f1, v.f2, v.f3⟩ : V) = v
  | ⟨_, _, _, _⟩ => rfl
theorem wf64 {x : Int} : (Lit.int .i64 x).wf = true ↔ -9223372036854775808 ≤ x ∧ x ≤ 9223372036854775807 := by
  simp [Lit.wf, IntKind.min, IntKind.max, IntKind.signed, IntKind.bits]
theorem wu (n : Int) : IntKind.u64.wrap n = n % 18446744073709551616 := by simp [IntKind.wrap, IntKind.bits, IntKind.signed]
theorem xor_all (a : Int) (h0 : 0 ≤ a) (h1 : a < 18446744073709551616) : Go.bits .xor .u64 18446744073709551615 a = 18446744073709551615 - a := by
  have key : ∀ x : BitVec 64, (BitVec.ofInt 64 18446744073709551615 ^^^ x).toNat = 18446744073709551615 - x.toNat := by
    intro x
    rw [show BitVec.ofInt 64 18446744073709551615 = BitVec.allOnes 64 from by decide, BitVec.allOnes_xor, BitVec.toNat_not]
  show IntKind.u64.wrap (((BitVec.ofInt 64 18446744073709551615 ^^^ BitVec.ofInt 64 a).toNat : Nat) : Int) = _
  rw [key, BitVec.toNat_ofInt, wu]
  have e : (a % ((2 ^ 64 : Nat) : Int)) = a := Int.emod_eq_of_lt h0 (by simpa using h1)
  rw [e]
  omega
theorem or_first : ∀ y : Fin 64, Go.bits .or .u8 64 ((y.1 : Nat) : Int) = 64 + y.1 ∧ Go.bits .or .u8 128 ((y.1 : Nat) : Int) = 128 + y.1 ∧ Go.bits .or .u8 192 ((y.1 : Nat) : Int) = 192 + y.1 := by decide +kernel
theorem or_kind (a y : Int) (ha : 1 ≤ a ∧ a ≤ 3) (hy : 0 ≤ y) (hy2 : y < 64) : Go.bits .or .u8 ((wrap64 (a * 64)) % 256) y = 64 * a + y := by
  obtain ⟨n, rfl⟩ : ∃ n : Nat, y = n := ⟨y.toNat, by omega⟩
  obtain ⟨h1, h2, h3⟩ := or_first ⟨n, by omega⟩
  have : a = 1 ∨ a = 2 ∨ a = 3 := by omega
  rcases this with rfl | rfl | rfl
  · rw [show wrap64 (1 * 64) % 256 = 64 from by unfold wrap64; decide]; exact h1
  · rw [show wrap64 (2 * 64) % 256 = 128 from by unfold wrap64; decide]; exact h2
  · rw [show wrap64 (3 * 64) % 256 = 192 from by unfold wrap64; decide]; exact h3
/-- The powers of 256. -/
def pw : Nat → Int
  | 0 => 1
  | i + 1 => 256 * pw i
theorem pw_pos : ∀ i, 0 < pw i
  | 0 => by decide
  | i + 1 => by have := pw_pos i; simp only [pw]; omega
theorem shr_pw (n : Int) (m : Nat) (h : m ≤ 8) : shr .u64 n (wrap64 (8 * (m : Int))) = n / pw m := by
  have : m = 0 ∨ m = 1 ∨ m = 2 ∨ m = 3 ∨ m = 4 ∨ m = 5 ∨ m = 6 ∨ m = 7 ∨ m = 8 := by omega
  rcases this with rfl | rfl | rfl | rfl | rfl | rfl | rfl | rfl | rfl <;> (unfold shr wrap64; congr 1)
def dn (n : Int) : Nat → List Int
  | 0 => []
  | c + 1 => (n / pw c) % 256 :: dn n c
theorem dn_length (n : Int) : ∀ c, (dn n c).length = c
  | 0 => rfl
  | c + 1 => by simp only [dn, List.length_cons, dn_length n c]
theorem dn_succ (n : Int) : ∀ c, dn n (c + 1) = dn (n / 256) c ++ [n % 256]
  | 0 => by simp [dn, pw]
  | c + 1 => by
    have ih := dn_succ n c
    have e : n / pw (c + 1) = n / 256 / pw c := by simp only [pw]; rw [Int.ediv_ediv_of_nonneg (by omega)]
    rw [show dn n (c + 1 + 1) = (n / pw (c + 1)) % 256 :: dn n (c + 1) from rfl, ih, e]
    rfl
theorem colast (n : Int) : ∀ (m : Nat), m ≤ 8 → ∀ (k : Nat) (b : List Int), m < k → b.length + m < 140737488355328 → codec_head.l1 k b n ((m : Int) - 1) = some (b ++ dn n m) := by
  intro m
  induction m with
  | zero =>
    intro _ k b hk hb
    obtain ⟨k, rfl⟩ : ∃ m, k = m + 1 := ⟨k - 1, by omega⟩
    simp only [codec_head.l1]
    rw [if_neg (by omega)]
    simp [dn]
  | succ m ih =>
    intro hm k b hk hb
    obtain ⟨k, rfl⟩ : ∃ m, k = m + 1 := ⟨k - 1, by omega⟩
    simp only [codec_head.l1]
    rw [show ((m + 1 : Nat) : Int) - 1 = (m : Int) by omega, if_pos (by omega), if_pos (by unfold wrap64; omega), if_pos (by omega), shr_pw n m (by omega), show wrap64 ((m : Int) - 1) = (m : Int) - 1 from by unfold wrap64; omega, ih (by omega) k _ (by omega) (by rw [List.length_append]; simp only [List.length_cons, List.length_nil]; omega)]
    simp [dn]
theorem cofirst (n first : Int) (c : Nat) (hc : c ≤ 8) (hz : ¬ n / pw c > 0) (e : Nat) : ∀ (j k : Nat) (b : List Int), 1 ≤ j → j ≤ c → c - j = e → (∀ i, j ≤ i → i < c → n / pw i > 0) → e + c + 12 < k → b.length + 20 < 140737488355328 →
    codec_head.l0 k b n first (j : Int) = some (b ++ (Go.bits .or .u8 first ((55 + (c : Int)) % 256) :: dn n c)) := by
  induction e with
  | zero =>
    intro j k b h1 h2 he hp hk hb
    obtain ⟨k, rfl⟩ : ∃ m, k = m + 1 + 1 := ⟨k - 2, by omega⟩
    obtain rfl : j = c := by omega
    have hj1 : codec_head.j1 (k + 1) b n first (j : Int) = some (b ++ (Go.bits .or .u8 first ((55 + (j : Int)) % 256) :: dn n j)) := by
      simp only [codec_head.j1]
      rw [if_pos (by omega), show wrap64 ((j : Int) - 1) = (j : Int) - 1 from by unfold wrap64; omega, show wrap64 (55 + (j : Int)) = 55 + (j : Int) from by unfold wrap64; omega, colast n j hc k _ (by omega) (by rw [List.length_append]; simp only [List.length_cons, List.length_nil]; omega)]
      simp
    simp only [codec_head.l0]
    by_cases c8 : (j : Int) < 8
    · rw [if_pos c8, if_pos (by unfold wrap64; omega), shr_pw n j hc, if_neg hz]
      exact hj1
    · rw [if_neg c8]
      exact hj1
  | succ e ih =>
    intro j k b h1 h2 he hp hk hb
    obtain ⟨k, rfl⟩ : ∃ m, k = m + 1 := ⟨k - 1, by omega⟩
    simp only [codec_head.l0]
    rw [if_pos (by omega), if_pos (by unfold wrap64; omega), shr_pw n j (by omega), if_pos (hp j (by omega) (by omega)), show wrap64 ((j : Int) + 1) = ((j + 1 : Nat) : Int) from by unfold wrap64; omega]
    exact ih (j + 1) k b (by omega) (by omega) (by omega) (fun i h3 h4 => hp i (by omega) h4) (by omega) hb
theorem cnt_ex (n : Int) (h0 : 1 ≤ n) (h1 : n < 18446744073709551616) : ∃ c, 1 ≤ c ∧ c ≤ 8 ∧ (∀ i, i < c → n / pw i > 0) ∧ n / pw c = 0 := by
  have p0 : pw 0 = 1 := rfl
  have p1 : pw 1 = 256 := rfl
  have p2 : pw 2 = 65536 := rfl
  have p3 : pw 3 = 16777216 := rfl
  have p4 : pw 4 = 4294967296 := rfl
  have p5 : pw 5 = 1099511627776 := rfl
  have p6 : pw 6 = 281474976710656 := rfl
  have p7 : pw 7 = 72057594037927936 := rfl
  have p8 : pw 8 = 18446744073709551616 := rfl
  have go : ∀ c : Nat, 1 ≤ c → c ≤ 8 → n < pw c → pw (c - 1) ≤ n → ∃ c, 1 ≤ c ∧ c ≤ 8 ∧ (∀ i, i < c → n / pw i > 0) ∧ n / pw c = 0 := by
    intro c h2 h3 h4 h5
    refine ⟨c, h2, h3, fun i hi => ?_, Int.ediv_eq_zero_of_lt (by omega) h4⟩
    have mono : ∀ a b : Nat, a ≤ b → pw a ≤ pw b := by
      intro a b hab
      induction hab with
      | refl => exact Int.le_refl _
      | step _ ih => have := pw_pos a; simp only [pw]; omega
    have := mono i (c - 1) (by omega)
    have hp := pw_pos i
    have := Int.le_ediv_of_mul_le hp (show 1 * pw i ≤ n by omega)
    omega
  by_cases c1 : n < 256
  · exact go 1 (by omega) (by omega) (by rw [p1]; omega) (by show pw 0 ≤ n; omega)
  by_cases c2 : n < 65536
  · exact go 2 (by omega) (by omega) (by rw [p2]; omega) (by show pw 1 ≤ n; omega)
  by_cases c3 : n < 16777216
  · exact go 3 (by omega) (by omega) (by rw [p3]; omega) (by show pw 2 ≤ n; omega)
  by_cases c4 : n < 4294967296
  · exact go 4 (by omega) (by omega) (by rw [p4]; omega) (by show pw 3 ≤ n; omega)
  by_cases c5 : n < 1099511627776
  · exact go 5 (by omega) (by omega) (by rw [p5]; omega) (by show pw 4 ≤ n; omega)
  by_cases c6 : n < 281474976710656
  · exact go 6 (by omega) (by omega) (by rw [p6]; omega) (by show pw 5 ≤ n; omega)
  by_cases c7 : n < 72057594037927936
  · exact go 7 (by omega) (by omega) (by rw [p7]; omega) (by show pw 6 ≤ n; omega)
  · exact go 8 (by omega) (by omega) (by rw [p8]; omega) (by show pw 7 ≤ n; omega)
/-! ### heads -/
def IsHead (kd n : Int) (hd : List Int) : Prop := (n < 56 ∧ hd = [64 * kd + n]) ∨ (56 ≤ n ∧ ∃ c, 1 ≤ c ∧ c ≤ 8 ∧ (∀ i, i < c → n / pw i > 0) ∧ n / pw c = 0 ∧ hd = (64 * kd + (55 + (c : Int))) :: dn n c)
theorem head_ex (kd n : Int) (h0 : 0 ≤ n) (h1 : n < 18446744073709551616) : ∃ hd, IsHead kd n hd := by
  by_cases c : n < 56
  · exact ⟨_, .inl ⟨c, rfl⟩⟩
  · obtain ⟨c', h2, h3, h4, h5⟩ := cnt_ex n (by omega) h1
    exact ⟨_, .inr ⟨by omega, c', h2, h3, h4, h5, rfl⟩⟩
theorem head_len {kd n : Int} {hd : List Int} (h : IsHead kd n hd) : 1 ≤ hd.length ∧ hd.length ≤ 9 := by
  rcases h with ⟨_, rfl⟩ | ⟨_, c, h1, h2, _, _, rfl⟩
  · simp
  · rw [List.length_cons, dn_length]
    omega
theorem dn_bytesR (n : Int) : ∀ c, Bytes (dn n c)
  | 0 => fun x hx => by cases hx
  | c + 1 => fun x hx => by
    simp only [dn] at hx
    rcases List.mem_cons.1 hx with rfl | hx
    · omega
    · exact dn_bytesR n c x hx
theorem head_bytes {kd n : Int} {hd : List Int} (hk : 1 ≤ kd ∧ kd ≤ 3) (h0 : 0 ≤ n) (h : IsHead kd n hd) : Bytes hd := by
  rcases h with ⟨_, rfl⟩ | ⟨_, c, h1, h2, _, _, rfl⟩
  · intro x hx
    rcases List.mem_cons.1 hx with rfl | hx
    · omega
    · cases hx
  · intro x hx
    rcases List.mem_cons.1 hx with rfl | hx
    · omega
    · exact dn_bytesR n c x hx
theorem cohead (x : V) (hk : 1 ≤ x.f0 ∧ x.f0 ≤ 3) (n : Int) (hn : codec_number.f x.f0 x.f1 x.f2 x.f3 = some n) (h0 : 0 ≤ n) (hd : List Int) (h : IsHead x.f0 n hd) (k : Nat) (b : List Int) (hkk : 40 ≤ k) (hb : b.length + 20 < 140737488355328) :
    codec_head.f k b x.f0 x.f1 x.f2 x.f3 = some (b ++ hd) := by
  unfold codec_head.f
  rw [hn, Option.bind_some]
  rcases h with ⟨c, rfl⟩ | ⟨c, m, h1, h2, h3, h4, rfl⟩
  · rw [if_pos c, if_pos (by omega), show n % 256 = n from by omega, or_kind _ _ hk (by omega) (by omega)]
  · rw [if_neg (by omega), show (1 : Int) = ((1 : Nat) : Int) from rfl, cofirst n _ m h2 (by omega) (m - 1) 1 k b (by omega) h1 rfl (fun i _ hi => h3 i hi) (by omega) hb, show (55 + (m : Int)) % 256 = 55 + (m : Int) from by omega, or_kind _ _ hk (by omega) (by omega)]
theorem fold_dn : ∀ (c : Nat) (n : Int), 0 ≤ n → n / pw c = 0 → foldB (dn n c) = n
  | 0, n, h0, h => by
    simp only [pw] at h
    rw [Int.ediv_one] at h
    subst h
    rfl
  | c + 1, n, h0, h => by
    have e : n / 256 / pw c = 0 := by
      simp only [pw] at h
      rw [← h, Int.ediv_ediv_of_nonneg (by omega)]
    have ih := fold_dn c (n / 256) (by omega) e
    rw [dn_succ]
    unfold foldB at ih ⊢
    rw [List.foldl_append, ih]
    simp only [List.foldl_cons, List.foldl_nil]
    omega
theorem read_head {kd n : Int} {hd : List Int} (hk : 1 ≤ kd ∧ kd ≤ 3) (h0 : 0 ≤ n) (h : IsHead kd n hd) (rest : List Int) : rheadS (hd ++ rest) = (kd, n, true, rest) := by
  rcases h with ⟨c, rfl⟩ | ⟨c, m, h1, h2, h3, h4, rfl⟩
  · simp only [List.cons_append, List.nil_append, rheadS]
    rw [if_pos (by omega), show (64 * kd + n) / 64 = kd from by omega, show (64 * kd + n) % 64 = n from by omega]
  · obtain ⟨q, rfl⟩ : ∃ q, m = q + 1 := ⟨m - 1, by omega⟩
    have hq := h3 q (by omega)
    have hq2 : n / pw q < 256 := by
      have e : n / pw q / 256 = 0 := by
        rw [Int.ediv_ediv_of_nonneg (by have := pw_pos q; omega), Int.mul_comm, ← h4]
        rfl
      omega
    have hd0 : rd (dn n (q + 1) ++ rest) 0 = n / pw q % 256 := rfl
    simp only [List.cons_append, rheadS]
    rw [show (64 * kd + (55 + ((q + 1 : Nat) : Int))) % 64 = 55 + ((q + 1 : Nat) : Int) from by omega, show (64 * kd + (55 + ((q + 1 : Nat) : Int))) / 64 = kd from by omega, if_neg (by omega), show 55 + ((q + 1 : Nat) : Int) - 55 = ((q + 1 : Nat) : Int) from by omega, List.length_append, dn_length, if_neg (by omega), hd0, if_neg (by
        rintro (e | ⟨e1, e2⟩)
        · omega
        · obtain rfl : q = 0 := by omega
          simp only [pw] at e2
          rw [Int.ediv_one] at e2
          simp only [pw] at hq2
          rw [Int.ediv_one] at hq2
          omega), Int.toNat_natCast]
    have hl : (q + 1) = (dn n (q + 1)).length := (dn_length n (q + 1)).symm
    rw [show (dn n (q + 1) ++ rest).take (q + 1) = dn n (q + 1) from by rw [List.take_append_of_le_length (by rw [dn_length]; exact Nat.le_refl _), List.take_of_length_le (by rw [dn_length]; exact Nat.le_refl _)],
      show (dn n (q + 1) ++ rest).drop (q + 1) = rest from by rw [List.drop_append_of_le_length (by rw [dn_length]; exact Nat.le_refl _), List.drop_of_length_le (by rw [dn_length]; exact Nat.le_refl _), List.nil_append], fold_dn _ _ h0 h4]
theorem foldB_snoc (o : List Int) (y : Int) : foldB (o ++ [y]) = foldB o * 256 + y := by
  unfold foldB
  rw [List.foldl_append]
  rfl
theorem foldB_nonneg (o : List Int) (h : Bytes o) : 0 ≤ foldB o := foldB_range o h 0 (Int.le_refl _)
theorem dn_fold (c : Nat) : ∀ (o : List Int), o.length = c → Bytes o → dn (foldB o) c = o ∧ foldB o / pw c = 0 := by
  induction c with
  | zero =>
    intro o ho _
    obtain rfl := List.eq_nil_of_length_eq_zero ho
    exact ⟨rfl, by decide⟩
  | succ c ih =>
    intro o ho hb
    have hne : o ≠ [] := by
      rintro rfl
      cases ho
    have e := List.dropLast_concat_getLast hne
    obtain ⟨o', ho'⟩ : ∃ o', o.dropLast = o' := ⟨_, rfl⟩
    obtain ⟨y, hy⟩ : ∃ y, o.getLast hne = y := ⟨_, rfl⟩
    rw [ho', hy] at e
    subst e
    have hb' : Bytes o' := fun x hx => hb x (List.mem_append_left _ hx)
    have hy' := hb y (List.mem_append_right _ List.mem_cons_self)
    obtain ⟨h1, h2⟩ := ih o' (by simp at ho; exact ho) hb'
    have h3 := foldB_nonneg o' hb'
    rw [foldB_snoc, dn_succ, show (foldB o' * 256 + y) / 256 = foldB o' from by omega, show (foldB o' * 256 + y) % 256 = y from by omega, h1]
    refine ⟨rfl, ?_⟩
    simp only [pw]
    rw [← Int.ediv_ediv_of_nonneg (by omega), show (foldB o' * 256 + y) / 256 = foldB o' from by omega, h2]
theorem pw_mono {a b : Nat} (hab : a ≤ b) : pw a ≤ pw b := by
  induction hab with
  | refl => exact Int.le_refl _
  | step _ ih => rename_i m _; have := pw_pos m; simp only [pw]; omega
theorem fold_lead (o : List Int) (hb : Bytes o) (y : Int) (hy : 1 ≤ y) : pw o.length ≤ foldB (y :: o) := by
  have key : ∀ (o : List Int), Bytes o → ∀ a p : Int, 0 ≤ p → p ≤ a → p * pw o.length ≤ o.foldl (fun n x => n * 256 + x) a := by
    intro o
    induction o with
    | nil => intro _ a p _ h; simpa [pw] using h
    | cons x r ih =>
      intro hb a p hp h
      have hx := hb x List.mem_cons_self
      have := ih (fun z hz => hb z (List.mem_cons_of_mem _ hz)) (a * 256 + x) (p * 256) (by omega) (by omega)
      rw [List.foldl_cons, List.length_cons]
      simp only [pw]
      rw [← Int.mul_assoc]
      exact this
  have := key o hb y 1 (by omega) hy
  unfold foldB
  rw [List.foldl_cons, show (0 : Int) * 256 + y = y from by omega]
  omega
theorem head_back (l : List Int) (hb : Bytes l) (kd n : Int) (rest : List Int) (h : rheadS l = (kd, n, true, rest)) : ∃ hd, IsHead kd n hd ∧ l = hd ++ rest ∧ 0 ≤ n ∧ n < 18446744073709551616 ∧ 0 ≤ kd ∧ kd ≤ 3 := by
  have hf := rhead_facts l hb
  rw [h] at hf
  obtain ⟨_, h0, h1⟩ := hf
  dsimp only at h0 h1
  cases l with
  | nil =>
    simp only [rheadS, Prod.mk.injEq] at h
    exact absurd h.2.2.1 (by decide)
  | cons x r =>
    have hx := hb x List.mem_cons_self
    have hr : Bytes r := fun y hy => hb y (List.mem_cons_of_mem _ hy)
    simp only [rheadS] at h
    by_cases c1 : x % 64 < 56
    · rw [if_pos c1] at h
      simp only [Prod.mk.injEq] at h
      obtain ⟨rfl, rfl, _, rfl⟩ := h
      exact ⟨[x], .inl ⟨c1, by congr 1; omega⟩, rfl, h0, h1, by omega, by omega⟩
    rw [if_neg c1] at h
    by_cases c2 : x % 64 - 55 > (r.length : Int)
    · rw [if_pos c2] at h
      simp only [Prod.mk.injEq] at h
      exact absurd h.2.2.1 (by decide)
    rw [if_neg c2] at h
    by_cases c3 : rd r 0 = 0 ∨ (x % 64 - 55 = 1 ∧ rd r 0 < 56)
    · rw [if_pos c3] at h
      simp only [Prod.mk.injEq] at h
      exact absurd h.2.2.1 (by decide)
    rw [if_neg c3] at h
    simp only [Prod.mk.injEq] at h
    obtain ⟨rfl, rfl, _, rfl⟩ := h
    obtain ⟨c, hc⟩ : ∃ c : Nat, x % 64 - 55 = c := ⟨(x % 64 - 55).toNat, by omega⟩
    rw [hc, Int.toNat_natCast] at h0 h1 ⊢
    have hlen : (r.take c).length = c := by rw [List.length_take]; omega
    have hbt : Bytes (r.take c) := fun y hy => hr y (List.mem_of_mem_take hy)
    obtain ⟨e1, e2⟩ := dn_fold c (r.take c) hlen hbt
    obtain ⟨q, rfl⟩ : ∃ q, c = q + 1 := ⟨c - 1, by omega⟩
    cases r with
    | nil => simp at hlen
    | cons y r' =>
      have hy := hr y List.mem_cons_self
      have hrd : rd (y :: r') 0 = y := rfl
      rw [hrd] at c3
      have hy1 : 1 ≤ y := by omega
      rw [List.take_succ_cons] at e1 e2 hlen hbt h0 h1 ⊢
      have hl := fold_lead (r'.take q) (fun z hz => hbt z (List.mem_cons_of_mem _ hz)) y hy1
      have hq : (r'.take q).length = q := by simpa using hlen
      rw [hq] at hl
      generalize hN : foldB (y :: r'.take q) = N at hl e1 e2 h0 h1 ⊢
      have h56 : 56 ≤ N := by
        by_cases hq0 : q = 0
        · subst hq0
          rw [List.take_zero] at hN
          have : N = y := by rw [← hN]; show (0 : Int) * 256 + y = y; omega
          omega
        · have : pw 1 ≤ pw q := pw_mono (by omega)
          have e : pw 1 = 256 := rfl
          omega
      refine ⟨x :: y :: r'.take q, .inr ⟨h56, q + 1, by omega, by omega, fun i hi => ?_, e2, ?_⟩, ?_, h0, h1, by omega, by omega⟩
      · have := pw_mono (show i ≤ q by omega)
        have hp := pw_pos i
        have := Int.le_ediv_of_mul_le hp (show 1 * pw i ≤ N by omega)
        omega
      · rw [e1]
        congr 1
        omega
      · rw [List.drop_succ_cons]
        simp only [List.cons_append, List.take_append_drop]

/-! ### integers -/
def numI (a : Int) : Int := if a < 0 then -2 * a - 1 else 2 * a
theorem numI_range {a : Int} (h : -9223372036854775808 ≤ a ∧ a ≤ 9223372036854775807) : 0 ≤ numI a ∧ numI a < 18446744073709551616 := by unfold numI; split <;> omega
theorem and1 (x : Int) (h0 : 0 ≤ x) (h1 : x < 18446744073709551616) : Go.bits .and .u64 x 1 = x % 2 := by
  have hk : ∀ n : Int, 0 ≤ n → n < 2 ^ 64 → IntKind.u64.wrap n = n := fun n h h' => by
    have e : (2 : Int) ^ 64 = 18446744073709551616 := by decide
    rw [e] at h'
    rw [wu]
    omega
  exact bits_mask .u64 64 (by decide) hk 1 (by decide) x h0 (by have e : (2 : Int) ^ 64 = 18446744073709551616 := by decide
                                                                rw [e]; exact h1)
theorem int_of (n : Int) (h0 : 0 ≤ n) (h1 : n < 18446744073709551616) : ∃ a : Int, -9223372036854775808 ≤ a ∧ a ≤ 9223372036854775807 ∧ numI a = n ∧ codec_integer.f n = some a := by
  unfold codec_integer.f
  rw [and1 _ h0 h1]
  by_cases c : n % 2 = 1
  · rw [if_pos c, xor_all _ (by omega) (by omega)]
    refine ⟨-(n / 2) - 1, by omega, by omega, ?_, ?_⟩
    · unfold numI
      rw [if_pos (by omega)]
      omega
    · congr 1
      unfold wrap64
      omega
  · rw [if_neg c]
    refine ⟨n / 2, by omega, by omega, ?_, ?_⟩
    · unfold numI
      rw [if_neg (by omega)]
      omega
    · congr 1
      unfold wrap64
      omega
theorem numI_inj {a b : Int} (h : numI a = numI b) : a = b := by
  unfold numI at h
  split at h <;> split at h <;> omega
theorem int_back {a : Int} (h : -9223372036854775808 ≤ a ∧ a ≤ 9223372036854775807) : codec_integer.f (numI a) = some a := by
  obtain ⟨h0, h1⟩ := numI_range h
  obtain ⟨b, _, _, h4, h5⟩ := int_of (numI a) h0 h1
  rw [h5, numI_inj h4]
theorem conumI {a : Int} (h : -9223372036854775808 ≤ a ∧ a ≤ 9223372036854775807) (s : ByteArray) (l : List V) : codec_number.f 1 a s l = some (numI a) := by
  unfold codec_number.f numI
  rw [if_pos rfl]
  by_cases c2 : a < 0
  · rw [if_pos c2, if_pos c2, wu, wu, xor_all _ (by omega) (by omega)]
    congr 1
    omega
  · rw [if_neg c2, if_neg c2, wu, wu]
    congr 1
    omega
theorem conumT (a : Int) (s : ByteArray) (l : List V) (h : s.size < 18446744073709551616) : codec_number.f 2 a s l = some (s.size : Int) := by
  unfold codec_number.f
  rw [if_neg (by decide), if_pos rfl, wu]
  congr 1
  omega
theorem conumL (a : Int) (s : ByteArray) (l : List V) (h : l.length < 18446744073709551616) : codec_number.f 3 a s l = some (l.length : Int) := by
  unfold codec_number.f
  rw [if_neg (by decide), if_neg (by decide), wu]
  congr 1
  omega

/-! ### texts -/
theorem u8_of_nat (b : UInt8) : UInt8.ofNat ((b.toNat : Int)).toNat = b := by rw [Int.toNat_natCast]; exact UInt8.ofNat_toNat
theorem str_back (s : ByteArray) : strOfNums (bytesOf s) = s := by
  unfold strOfNums bytesOf
  rw [List.map_map, show (s.data.toList.map ((fun n : Int => UInt8.ofNat n.toNat) ∘ fun b => (b.toNat : Int))) = s.data.toList from by
    conv => rhs; rw [← List.map_id s.data.toList]
    exact List.map_congr_left fun b _ => u8_of_nat b]
theorem bytes_back (l : List Int) (h : Bytes l) : bytesOf (strOfNums l) = l := by
  unfold strOfNums bytesOf
  simp only [List.map_map]
  conv => rhs; rw [← List.map_id l]
  refine List.map_congr_left fun b hb => ?_
  have := h b hb
  simp only [Function.comp, id, UInt8.toNat_ofNat']
  omega
theorem bytesOf_bytes (s : ByteArray) : Bytes (bytesOf s) := fun x hx => by
  unfold bytesOf at hx
  obtain ⟨b, _, rfl⟩ := List.mem_map.1 hx
  have := b.toNat_lt
  exact ⟨by omega, by omega⟩
theorem bytesOf_inj {s t : ByteArray} (h : bytesOf s = bytesOf t) : s = t := by rw [← str_back s, h, str_back]
theorem empty_of_size (s : ByteArray) (h : s.size = 0) : s = ⟨#[]⟩ := by
  refine bytesOf_inj ?_
  have h1 := bytesOf_length s
  rw [h] at h1
  rw [List.eq_nil_of_length_eq_zero h1]
  rfl

/-! ### encodings -/
def Encs (P : V → List Int → Prop) : List V → List Int → Prop
  | [], b => b = []
  | x :: r, b => ∃ f b', b = f ++ b' ∧ P x f ∧ Encs P r b'
/-- The bytes of a value of at most d levels. -/
def Enc : Nat → V → List Int → Prop
  | 0, _, _ => False
  | d + 1, x, l => ∃ (n : Int) (hd body : List Int), 0 ≤ n ∧ n < 18446744073709551616 ∧ IsHead x.f0 n hd ∧ l = hd ++ body ∧
      ((x.f0 = 1 ∧ -9223372036854775808 ≤ x.f1 ∧ x.f1 ≤ 9223372036854775807 ∧ x.f2 = ⟨#[]⟩ ∧ x.f3 = [] ∧ n = numI x.f1 ∧ body = []) ∨
       (x.f0 = 2 ∧ x.f1 = 0 ∧ x.f3 = [] ∧ n = (x.f2.size : Int) ∧ body = bytesOf x.f2) ∨
       (x.f0 = 3 ∧ x.f1 = 0 ∧ x.f2 = ⟨#[]⟩ ∧ n = (x.f3.length : Int) ∧ Encs (Enc d) x.f3 body))
theorem Enc.pos {d : Nat} {x : V} {l : List Int} (h : Enc d x l) : 1 ≤ l.length := by
  cases d with
  | zero => exact h.elim
  | succ d =>
    obtain ⟨n, hd, body, _, _, h1, rfl, _⟩ := h
    have := (head_len h1).1
    rw [List.length_append]
    omega
theorem Enc.kind {d : Nat} {x : V} {l : List Int} (h : Enc d x l) : 1 ≤ x.f0 ∧ x.f0 ≤ 3 := by
  cases d with
  | zero => exact h.elim
  | succ d =>
    obtain ⟨n, hd, body, _, _, _, _, h | h | h⟩ := h <;> omega
theorem Encs.len {P : V → List Int → Prop} (hP : ∀ x l, P x l → 1 ≤ l.length) : ∀ (xs : List V) (b : List Int), Encs P xs b → xs.length ≤ b.length
  | [], _, _ => Nat.zero_le _
  | x :: r, b, h => by
    obtain ⟨f, b', rfl, h1, h2⟩ := h
    have := hP x f h1
    have := Encs.len hP r b' h2
    rw [List.length_cons, List.length_append]
    omega
theorem Encs.bytes {P : V → List Int → Prop} (hP : ∀ x l, P x l → Bytes l) : ∀ (xs : List V) (b : List Int), Encs P xs b → Bytes b
  | [], b, h => by
    obtain rfl : b = [] := h
    intro x hx
    cases hx
  | x :: r, b, h => by
    obtain ⟨f, b', rfl, h1, h2⟩ := h
    have g1 := hP x f h1
    have g2 := Encs.bytes hP r b' h2
    intro y hy
    rcases List.mem_append.1 hy with hy | hy
    · exact g1 y hy
    · exact g2 y hy
theorem Enc.bytes : ∀ (d : Nat) (x : V) (l : List Int), Enc d x l → Bytes l
  | 0, _, _, h => h.elim
  | d + 1, x, l, h => by
    have hk := Enc.kind h
    obtain ⟨n, hd, body, h0, _, h1, rfl, h⟩ := h
    have g1 := head_bytes hk h0 h1
    have g2 : Bytes body := by
      rcases h with ⟨_, _, _, _, _, _, rfl⟩ | ⟨_, _, _, _, rfl⟩ | ⟨_, _, _, _, h⟩
      · intro y hy
        cases hy
      · exact bytesOf_bytes _
      · exact Encs.bytes (Enc.bytes d) _ _ h
    intro y hy
    rcases List.mem_append.1 hy with hy | hy
    · exact g1 y hy
    · exact g2 y hy
theorem take_text (s : ByteArray) (rest : List Int) : takeS (s.size : Int) (bytesOf s ++ rest) = (bytesOf s, true, rest) := by
  have h := bytesOf_length s
  unfold takeS
  rw [if_neg (by rw [List.length_append, h]; omega), Int.toNat_natCast, List.take_append_of_le_length (by omega), List.take_of_length_le (by omega), List.drop_append_of_le_length (by omega), List.drop_of_length_le (by omega), List.nil_append]
/-- What stands in front is read. -/
theorem read_list (P : V → List Int → Prop) (m : Int) (hP : ∀ x l, P x l → 1 ≤ l.length ∧ (l.length ≤ 1048576 → ∀ rest, ∃ K, ∀ k, K ≤ k → rvalue k (l ++ rest) (wrap64 (m - 1)) = some (x, true, rest))) :
    ∀ (xs : List V) (b : List Int), Encs P xs b → b.length ≤ 1048576 → ∀ (acc : List V) (rest : List Int), acc.length + xs.length ≤ 2000000000 → ∃ K, ∀ k, K ≤ k → rlist k (b ++ rest) (xs.length : Int) m acc = some (⟨3, 0, ⟨#[]⟩, acc ++ xs⟩, true, rest)
  | [], b, h, _, acc, rest, _ => by
    obtain rfl : b = [] := h
    refine ⟨1, fun k hk => ?_⟩
    obtain ⟨k, rfl⟩ : ∃ q, k = q + 1 := ⟨k - 1, by omega⟩
    simp only [rlist]
    rw [if_neg (by simp), List.append_nil, List.nil_append]
  | x :: r, b, h, hl, acc, rest, ha => by
    obtain ⟨f, b', rfl, h1, h2⟩ := h
    rw [List.length_append] at hl
    rw [List.length_cons] at ha
    obtain ⟨K1, hK1⟩ := (hP x f h1).2 (by omega) (b' ++ rest)
    obtain ⟨K2, hK2⟩ := read_list P m hP r b' h2 (by omega) (acc ++ [x]) rest (by rw [List.length_append, List.length_singleton]; omega)
    refine ⟨K1 + K2 + 1, fun k hk => ?_⟩
    obtain ⟨k, rfl⟩ : ∃ q, k = q + 1 := ⟨k - 1, by omega⟩
    simp only [rlist]
    rw [if_pos (by rw [List.length_cons]; omega), List.append_assoc, hK1 k (by omega), Option.bind_some, if_pos rfl, if_pos (by omega)]
    rw [show ((x :: r).length : Int) - 1 = (r.length : Int) from by rw [List.length_cons]; omega, hK2 k (by omega), List.append_assoc]
    rfl
theorem vEta' {v : V} {a b : Int} {s : ByteArray} {l : List V} (h0 : v.f0 = a) (h1 : v.f1 = b) (h2 : v.f2 = s) (h3 : v.f3 = l) : (⟨a, b, s, l⟩ : V) = v := by
  subst h0; subst h1; subst h2; subst h3
  exact vEta v
theorem read_enc : ∀ (d : Nat) (x : V) (l : List Int), Enc d x l → l.length ≤ 1048576 → ∀ (m : Int), (d : Int) ≤ m → m ≤ 64 → ∀ rest, ∃ K, ∀ k, K ≤ k → rvalue k (l ++ rest) m = some (x, true, rest)
  | 0, _, _, h, _, _, _, _, _ => h.elim
  | d + 1, x, l, h, hl, m, hm, hm2, rest => by
    have hk := Enc.kind h
    obtain ⟨n, hd, body, h0, h1, hh, rfl, hc⟩ := h
    have hr := read_head hk h0 hh (body ++ rest)
    rw [← List.append_assoc] at hr
    rcases hc with ⟨k1, i0, i1, e2, e3, rfl, rfl⟩ | ⟨k2, e1, e3, rfl, rfl⟩ | ⟨k3, e1, e2, rfl, he⟩
    · refine ⟨1, fun k hk => ?_⟩
      obtain ⟨k, rfl⟩ : ∃ q, k = q + 1 := ⟨k - 1, by omega⟩
      simp only [rvalue]
      rw [hr]
      dsimp only
      rw [if_neg (by decide), if_neg (by omega), if_pos k1, int_back ⟨i0, i1⟩, Option.bind_some, vEta' k1 rfl e2 e3]
      rfl
    · refine ⟨1, fun k hk => ?_⟩
      obtain ⟨k, rfl⟩ : ∃ q, k = q + 1 := ⟨k - 1, by omega⟩
      simp only [rvalue]
      rw [hr]
      dsimp only
      rw [if_neg (by decide), if_neg (by omega), if_neg (by omega), if_pos k2, take_text]
      dsimp only
      rw [if_pos rfl, str_back, vEta' k2 e1 rfl e3]
    · rw [List.length_append] at hl
      have hw : wrap64 (m - 1) = m - 1 := by unfold wrap64; omega
      have hn := Encs.len (fun x l h => Enc.pos h) _ _ he
      obtain ⟨K, hK⟩ := read_list (Enc d) m (fun y f hf => ⟨Enc.pos hf, fun hfl rest => by rw [hw]; exact read_enc d y f hf hfl (m - 1) (by omega) (by omega) rest⟩) x.f3 body he (by omega) [] rest (by rw [List.length_nil]; omega)
      refine ⟨K + 1, fun k hk => ?_⟩
      obtain ⟨k, rfl⟩ : ∃ q, k = q + 1 := ⟨k - 1, by omega⟩
      simp only [rvalue]
      rw [hr]
      dsimp only
      rw [if_neg (by decide), if_neg (by omega), if_neg (by omega), if_neg (by omega), if_pos k3, hK k (by omega), List.nil_append, vEta' k3 e1 e2 rfl]
/-- What is read stood in front. -/
theorem back_all : ∀ (k : Nat), (∀ (l : List Int) (m : Int) (x : V) (rest : List Int), Bytes l → 0 ≤ m → m ≤ 64 → rvalue k l m = some (x, true, rest) → ∃ b, l = b ++ rest ∧ Enc m.toNat x b) ∧
    (∀ (l : List Int) (n m : Int) (acc : List V) (x : V) (rest : List Int), Bytes l → 0 ≤ n → 1 ≤ m → m ≤ 64 → rlist k l n m acc = some (x, true, rest) → ∃ b xs, l = b ++ rest ∧ x = ⟨3, 0, ⟨#[]⟩, acc ++ xs⟩ ∧ (xs.length : Int) = n ∧ Encs (Enc (m - 1).toNat) xs b)
  | 0 => ⟨fun l m x rest _ _ _ h => by simp [rvalue] at h, fun l n m acc x rest _ _ _ _ h => by simp [rlist] at h⟩
  | k + 1 => by
    obtain ⟨ih0, ih1⟩ := back_all k
    refine ⟨fun l m x rest hb hm hm2 h => ?_, fun l n m acc x rest hb hn hm hm2 h => ?_⟩
    · simp only [rvalue] at h
      obtain ⟨kd, n, ok, r, hh⟩ : ∃ kd n ok r, rheadS l = (kd, n, ok, r) := ⟨_, _, _, _, rfl⟩
      rw [hh] at h
      dsimp only at h
      cases ok with
      | false =>
        rw [if_pos rfl] at h
        simp only [Option.some.injEq, Prod.mk.injEq] at h
        exact absurd h.2.1 (by decide)
      | true =>
        rw [if_neg (by decide)] at h
        by_cases c0 : m = 0
        · rw [if_pos c0] at h
          simp only [Option.some.injEq, Prod.mk.injEq] at h
          exact absurd h.2.1 (by decide)
        rw [if_neg c0] at h
        obtain ⟨hd, g1, g2, g3, g4, g5, g6⟩ := head_back l hb kd n r hh
        have hbr : Bytes r := by
          have := (rhead_facts l hb).1
          rw [hh] at this
          exact this
        obtain ⟨d, hd'⟩ : ∃ d, m.toNat = d + 1 := ⟨m.toNat - 1, by omega⟩
        rw [hd']
        by_cases k1 : kd = 1
        · rw [if_pos k1] at h
          obtain ⟨i, i0, i1, i2, i3⟩ := int_of n g3 g4
          rw [i3, Option.bind_some] at h
          simp only [Option.some.injEq, Prod.mk.injEq] at h
          obtain ⟨rfl, _, rfl⟩ := h
          subst k1
          exact ⟨hd, g2, n, hd, [], g3, g4, g1, (List.append_nil _).symm, .inl ⟨rfl, i0, i1, rfl, rfl, i2.symm, rfl⟩⟩
        rw [if_neg k1] at h
        by_cases k2 : kd = 2
        · rw [if_pos k2] at h
          by_cases t : n > (r.length : Int)
          · rw [show takeS n r = ([], false, r) from if_pos t] at h
            dsimp only at h
            rw [if_neg (by decide)] at h
            simp only [Option.some.injEq, Prod.mk.injEq] at h
            exact absurd h.2.1 (by decide)
          · rw [show takeS n r = (r.take n.toNat, true, r.drop n.toNat) from if_neg t] at h
            dsimp only at h
            rw [if_pos rfl] at h
            simp only [Option.some.injEq, Prod.mk.injEq] at h
            obtain ⟨rfl, _, rfl⟩ := h
            subst k2
            have hbt : Bytes (r.take n.toNat) := fun y hy => hbr y (List.mem_of_mem_take hy)
            have hbb := bytes_back _ hbt
            refine ⟨hd ++ r.take n.toNat, by rw [List.append_assoc, List.take_append_drop, ← g2], n, hd, r.take n.toNat, g3, g4, g1, rfl, .inr (.inl ⟨rfl, rfl, rfl, ?_, hbb.symm⟩)⟩
            have e := bytesOf_length (strOfNums (r.take n.toNat))
            rw [hbb, List.length_take] at e
            show n = ((strOfNums (r.take n.toNat)).size : Int)
            omega
        rw [if_neg k2] at h
        by_cases k3 : kd = 3
        · rw [if_pos k3] at h
          obtain ⟨b, xs, e1, e2, e3, e4⟩ := ih1 r n m [] x rest hbr g3 (by omega) hm2 h
          rw [show (m - 1).toNat = d from by omega] at e4
          subst e2
          subst k3
          exact ⟨hd ++ b, by rw [List.append_assoc, ← e1, ← g2], n, hd, b, g3, g4, g1, rfl, .inr (.inr ⟨rfl, rfl, rfl, e3.symm, e4⟩)⟩
        · rw [if_neg k3] at h
          simp only [Option.some.injEq, Prod.mk.injEq] at h
          exact absurd h.2.1 (by decide)
    · simp only [rlist] at h
      by_cases c : n > 0
      · rw [if_pos c] at h
        obtain ⟨⟨y, ok, r⟩, h1, h⟩ := Option.bind_eq_some_iff.1 h
        dsimp only at h
        cases ok with
        | false =>
          rw [if_neg (by decide)] at h
          simp only [Option.some.injEq, Prod.mk.injEq] at h
          exact absurd h.2.1 (by decide)
        | true =>
          rw [if_pos rfl] at h
          by_cases ca : acc.length < 2513169434916
          · rw [if_pos ca] at h
            rw [show wrap64 (m - 1) = m - 1 from by unfold wrap64; omega] at h1
            obtain ⟨f, e1, e2⟩ := ih0 l (m - 1) y r hb (by omega) (by omega) h1
            have hbr : Bytes r := fun z hz => hb z (by rw [e1]; exact List.mem_append_right _ hz)
            obtain ⟨b, xs, p1, p2, p3, p4⟩ := ih1 r (n - 1) m (acc ++ [y]) x rest hbr (by omega) hm hm2 h
            refine ⟨f ++ b, y :: xs, by rw [e1, p1, List.append_assoc], by rw [p2, List.append_assoc]; rfl, by rw [List.length_cons]; omega, f, b, rfl, e2, p4⟩
          · rw [if_neg ca] at h
            cases h
      · rw [if_neg c] at h
        simp only [Option.some.injEq, Prod.mk.injEq] at h
        obtain ⟨rfl, _, rfl⟩ := h
        exact ⟨[], [], rfl, by rw [List.append_nil], by simp; omega, rfl⟩
/-- The reader comes to an end. -/
theorem total_list (m : Int) (hm : 1 ≤ m ∧ m ≤ 64) (ih : ∀ l : List Int, Bytes l → l.length ≤ 1000000000 → ∃ K r, ∀ k, K ≤ k → rvalue k l (wrap64 (m - 1)) = some r) (e : Nat) :
    ∀ (l : List Int) (n : Int) (acc : List V), l.length ≤ e → Bytes l → e + acc.length ≤ 1000000000 → ∃ K r, ∀ k, K ≤ k → rlist k l n m acc = some r := by
  have hw : wrap64 (m - 1) = m - 1 := by unfold wrap64; omega
  induction e with
  | zero =>
    intro l n acc hl hb ha
    obtain rfl : l = [] := List.eq_nil_of_length_eq_zero (by omega)
    by_cases c : n > 0
    · refine ⟨2, (zV, false, []), fun k hk => ?_⟩
      obtain ⟨k, rfl⟩ : ∃ q, k = q + 1 + 1 := ⟨k - 2, by omega⟩
      simp only [rlist]
      rw [if_pos c]
      simp [rvalue, rheadS]
    · refine ⟨1, (⟨3, 0, ⟨#[]⟩, acc⟩, true, []), fun k hk => ?_⟩
      obtain ⟨k, rfl⟩ : ∃ q, k = q + 1 := ⟨k - 1, by omega⟩
      simp only [rlist]
      rw [if_neg c]
  | succ e ihe =>
    intro l n acc hl hb ha
    by_cases c : n > 0
    · obtain ⟨K, ⟨y, ok, r⟩, hK⟩ := ih l hb (by omega)
      cases ok with
      | false =>
        refine ⟨K + 1, (zV, false, r), fun k hk => ?_⟩
        obtain ⟨k, rfl⟩ : ∃ q, k = q + 1 := ⟨k - 1, by omega⟩
        simp only [rlist]
        rw [if_pos c, hK k (by omega), Option.bind_some, if_neg (by simp)]
      | true =>
        have h1 := hK K (Nat.le_refl _)
        rw [hw] at h1
        obtain ⟨f, e1, e2⟩ := (back_all K).1 l (m - 1) y r hb (by omega) (by omega) h1
        have hp := Enc.pos e2
        have hlen : l.length = f.length + r.length := by rw [e1, List.length_append]
        have hbr : Bytes r := fun z hz => hb z (by rw [e1]; exact List.mem_append_right _ hz)
        obtain ⟨K2, r2, hK2⟩ := ihe r (n - 1) (acc ++ [y]) (by omega) hbr (by rw [List.length_append, List.length_singleton]; omega)
        refine ⟨K + K2 + 1, r2, fun k hk => ?_⟩
        obtain ⟨k, rfl⟩ : ∃ q, k = q + 1 := ⟨k - 1, by omega⟩
        simp only [rlist]
        rw [if_pos c, hK k (by omega), Option.bind_some, if_pos rfl, if_pos (by omega), hK2 k (by omega)]
    · refine ⟨1, (⟨3, 0, ⟨#[]⟩, acc⟩, true, l), fun k hk => ?_⟩
      obtain ⟨k, rfl⟩ : ∃ q, k = q + 1 := ⟨k - 1, by omega⟩
      simp only [rlist]
      rw [if_neg c]
theorem total : ∀ (d : Nat) (l : List Int), Bytes l → l.length ≤ 1000000000 → d ≤ 64 → ∃ K r, ∀ k, K ≤ k → rvalue k l (d : Int) = some r := by
  intro d
  induction d with
  | zero =>
    intro l hb hl _
    refine ⟨1, (zV, false, (rheadS l).2.2.2), fun k hk => ?_⟩
    obtain ⟨k, rfl⟩ : ∃ q, k = q + 1 := ⟨k - 1, by omega⟩
    simp only [rvalue]
    split
    · rfl
    · rw [if_pos (show ((0 : Nat) : Int) = 0 from rfl)]
  | succ d ih =>
    intro l hb hl hd
    have hf := rhead_facts l hb
    obtain ⟨kd, n, ok, r, hh⟩ : ∃ kd n ok r, rheadS l = (kd, n, ok, r) := ⟨_, _, _, _, rfl⟩
    rw [hh] at hf
    dsimp only at hf
    obtain ⟨hbr, hn0, hn1⟩ := hf
    have hrl : r.length ≤ l.length := by
      have key : ∀ l : List Int, (rheadS l).2.2.2.length ≤ l.length := by
        intro l
        cases l with
        | nil => exact Nat.le_refl _
        | cons x r =>
          simp only [rheadS]
          split
          · simp
          · split
            · simp
            · split <;> (simp only [List.length_drop, List.length_cons]; omega)
      have := key l
      rw [hh] at this
      exact this
    by_cases c0 : ok = false
    · refine ⟨1, (zV, false, r), fun k hk => ?_⟩
      obtain ⟨k, rfl⟩ : ∃ q, k = q + 1 := ⟨k - 1, by omega⟩
      simp only [rvalue]
      rw [hh]
      dsimp only
      rw [if_pos c0]
    have hm : ¬ ((d + 1 : Nat) : Int) = 0 := by omega
    by_cases k1 : kd = 1
    · obtain ⟨a, _, _, _, ha⟩ := int_of n hn0 hn1
      refine ⟨1, (⟨1, a, ⟨#[]⟩, []⟩, true, r), fun k hk => ?_⟩
      obtain ⟨k, rfl⟩ : ∃ q, k = q + 1 := ⟨k - 1, by omega⟩
      simp only [rvalue]
      rw [hh]
      dsimp only
      rw [if_neg c0, if_neg hm, if_pos k1, ha, Option.bind_some]
    by_cases k2 : kd = 2
    · refine ⟨1, (if (takeS n r).2.1 = true then (⟨2, 0, strOfNums (takeS n r).1, []⟩, true, (takeS n r).2.2) else (zV, false, (takeS n r).2.2)), fun k hk => ?_⟩
      obtain ⟨k, rfl⟩ : ∃ q, k = q + 1 := ⟨k - 1, by omega⟩
      simp only [rvalue]
      rw [hh]
      dsimp only
      rw [if_neg c0, if_neg hm, if_neg k1, if_pos k2]
      split <;> rfl
    by_cases k3 : kd = 3
    · obtain ⟨K, q, hK⟩ := total_list ((d + 1 : Nat) : Int) ⟨by omega, by omega⟩ (fun l' hb' hl' => by
        rw [show wrap64 (((d + 1 : Nat) : Int) - 1) = (d : Int) from by unfold wrap64; omega]
        exact ih l' hb' hl' (by omega)) r.length r n [] (Nat.le_refl _) hbr (by rw [List.length_nil]; omega)
      refine ⟨K + 1, q, fun k hk => ?_⟩
      obtain ⟨k, rfl⟩ : ∃ q, k = q + 1 := ⟨k - 1, by omega⟩
      simp only [rvalue]
      rw [hh]
      dsimp only
      rw [if_neg c0, if_neg hm, if_neg k1, if_neg k2, if_pos k3, hK k (by omega)]
    · refine ⟨1, (zV, false, r), fun k hk => ?_⟩
      obtain ⟨k, rfl⟩ : ∃ q, k = q + 1 := ⟨k - 1, by omega⟩
      simp only [rvalue]
      rw [hh]
      dsimp only
      rw [if_neg c0, if_neg hm, if_neg k1, if_neg k2, if_neg k3]
/-- An encoding is the beginning of no other one, and is no other value's. -/
theorem unique {x y : V} {p q r s : List Int} (hx : Enc 64 x p) (hy : Enc 64 y q) (hp : p.length ≤ 1048576) (hq : q.length ≤ 1048576) (h : p ++ r = q ++ s) : x = y ∧ p = q ∧ r = s := by
  obtain ⟨K1, h1⟩ := read_enc 64 x p hx hp 64 (by decide) (by decide) r
  obtain ⟨K2, h2⟩ := read_enc 64 y q hy hq 64 (by decide) (by decide) s
  have e1 := h1 (K1 + K2) (by omega)
  have e2 := h2 (K1 + K2) (by omega)
  rw [h, e2] at e1
  simp only [Option.some.injEq, Prod.mk.injEq] at e1
  obtain ⟨rfl, _, rfl⟩ := e1
  exact ⟨rfl, List.append_cancel_right h, rfl⟩
theorem allBytes_of {l : List Int} (h : Bytes l) : allBytes l = true := List.all_eq_true.2 fun x hx => decide_eq_true (h x hx)
theorem next_any (l : List Int) (hb : Bytes l) (hl : l.length ≤ 1000000000) : ∃ K, (∃ x p rest, l = p ++ rest ∧ Enc 64 x p ∧ ∀ k, K ≤ k → codec_Next.f k l = some (x.f0, x.f1, x.f2, x.f3, rest, 0)) ∨
    ((∀ x p rest, l = p ++ rest → p.length ≤ 1048576 → ¬ Enc 64 x p) ∧ ∀ k, K ≤ k → codec_Next.f k l = some (0, 0, ⟨#[]⟩, [], [], 4)) := by
  obtain ⟨K, ⟨x, ok, rest⟩, hK⟩ := total 64 l hb hl (by decide)
  have hK : ∀ k, K ≤ k → rvalue k l 64 = some (x, ok, rest) := hK
  refine ⟨K, ?_⟩
  cases ok with
  | true =>
    obtain ⟨b, e1, e2⟩ := (back_all K).1 l 64 x rest hb (by decide) (by decide) (hK K (Nat.le_refl _))
    have e2 : Enc 64 x b := e2
    refine .inl ⟨x, b, rest, e1, e2, fun k hk => ?_⟩
    unfold codec_Next.f
    have hlen : l.length = b.length + rest.length := by rw [e1, List.length_append]
    rw [if_pos (allBytes_of hb), hK k hk, Option.bind_some, if_pos rfl, if_pos (by dsimp only; omega)]
  | false =>
    refine .inr ⟨fun y p s e1 hp e2 => ?_, fun k hk => ?_⟩
    · obtain ⟨K1, h1⟩ := read_enc 64 y p e2 hp 64 (by decide) (by decide) s
      have a1 := h1 (K + K1) (by omega)
      rw [← e1, hK (K + K1) (by omega)] at a1
      simp only [Option.some.injEq, Prod.mk.injEq] at a1
      exact absurd a1.2.1 (by decide)
    · unfold codec_Next.f
      rw [if_pos (allBytes_of hb), hK k hk, Option.bind_some, if_neg (by simp)]
theorem dec_any (l : List Int) (hb : Bytes l) (hl : l.length ≤ 1000000000) : ∃ K, (l.length ≤ 1048576 ∧ ∃ x, Enc 64 x l ∧ ∀ k, K ≤ k → codec_Decode.f k l = some (x.f0, x.f1, x.f2, x.f3, 0)) ∨
    ((∀ x, l.length ≤ 1048576 → ¬ Enc 64 x l) ∧ ∀ k, K ≤ k → codec_Decode.f k l = some (0, 0, ⟨#[]⟩, [], 4)) := by
  by_cases hlen : l.length > 1048576
  · refine ⟨0, .inr ⟨fun x h => by omega, fun k _ => ?_⟩⟩
    unfold codec_Decode.f
    rw [if_pos (allBytes_of hb), if_pos hlen]
  obtain ⟨K, ⟨x, ok, rest⟩, hK⟩ := total 64 l hb hl (by decide)
  have hK : ∀ k, K ≤ k → rvalue k l 64 = some (x, ok, rest) := hK
  refine ⟨K, ?_⟩
  cases ok with
  | true =>
    obtain ⟨b, e1, e2⟩ := (back_all K).1 l 64 x rest hb (by decide) (by decide) (hK K (Nat.le_refl _))
    have e2 : Enc 64 x b := e2
    have e3 : l.length = b.length + rest.length := by rw [e1, List.length_append]
    by_cases hr : rest = []
    · subst hr
      rw [List.append_nil] at e1
      subst e1
      refine .inl ⟨by omega, x, e2, fun k hk => ?_⟩
      unfold codec_Decode.f
      rw [if_pos (allBytes_of hb), if_neg hlen, hK k hk, Option.bind_some, if_pos rfl, if_pos rfl]
    · refine .inr ⟨fun y _ hy => ?_, fun k hk => ?_⟩
      · have := unique hy e2 (by omega) (by omega) (show l ++ [] = b ++ rest by rw [List.append_nil]; exact e1)
        exact hr this.2.2.symm
      · unfold codec_Decode.f
        rw [if_pos (allBytes_of hb), if_neg hlen, hK k hk, Option.bind_some, if_pos rfl, if_neg hr, if_pos (by dsimp only; omega)]
  | false =>
    refine .inr ⟨fun y _ e2 => ?_, fun k hk => ?_⟩
    · obtain ⟨K1, h1⟩ := read_enc 64 y l e2 (by omega) 64 (by decide) (by decide) []
      have a1 := h1 (K + K1) (by omega)
      rw [List.append_nil, hK (K + K1) (by omega)] at a1
      simp only [Option.some.injEq, Prod.mk.injEq] at a1
      exact absurd a1.2.1 (by decide)
    · unfold codec_Decode.f
      rw [if_pos (allBytes_of hb), if_neg hlen, hK k hk, Option.bind_some, if_neg (by simp)]
/-! ### the encoder -/
def Wr (x : V) (l : List Int) : Prop := ∃ K, ∀ k, K ≤ k → ∀ b : List Int, b.length ≤ 100000000 → ∃ b', codec_encode.f k b x.f0 x.f1 x.f2 x.f3 = some b' ∧ b'.length ≤ b.length + l.length ∧ (b.length + l.length ≤ 1048576 → b' = b ++ l) ∧ (1048576 < b.length + l.length → 1048576 < b'.length)
theorem wr_list (P : V → List Int → Prop) (hP : ∀ x l, P x l → l.length ≤ 100000000 → Wr x l) (all : List V) (hall : all.length ≤ 1000000000) : ∀ (xs : List V) (l : List Int), Encs P xs l → ∀ i : Nat, i + xs.length = all.length → all.drop i = xs → l.length ≤ 100000000 →
    ∃ K, ∀ k, K ≤ k → ∀ b : List Int, b.length + l.length ≤ 1000000000 → ∃ b', codec_encode.l0 k b all (i : Int) = some b' ∧ b'.length ≤ b.length + l.length ∧ (b.length + l.length ≤ 1048576 → b' = b ++ l) ∧ (1048576 < b.length + l.length → 1048576 < b'.length)
  | [], l, h, i, hi, hd, _ => by
    obtain rfl : l = [] := h
    refine ⟨1, fun k hk b hb => ?_⟩
    obtain ⟨k, rfl⟩ : ∃ q, k = q + 1 := ⟨k - 1, by omega⟩
    simp only [codec_encode.l0]
    rw [if_neg (by rw [List.length_nil] at hi; omega)]
    exact ⟨b, rfl, by simp, by simp, by simp⟩
  | x :: r, l, h, i, hi, hd, hl => by
    obtain ⟨f, l', rfl, h1, h2⟩ := h
    rw [List.length_append] at hl
    rw [List.length_cons] at hi
    have hlt : i < all.length := by omega
    have hx : all[i] = x ∧ all.drop (i + 1) = r := by
      rw [List.drop_eq_getElem_cons hlt] at hd
      injection hd with h1 h2
      exact ⟨h1, h2⟩
    obtain ⟨K1, hK1⟩ := hP x f h1 (by omega)
    obtain ⟨K2, hK2⟩ := wr_list P hP all hall r l' h2 (i + 1) (by omega) hx.2 (by omega)
    refine ⟨K1 + K2 + 1, fun k hk b hb => ?_⟩
    rw [List.length_append] at hb ⊢
    obtain ⟨k, rfl⟩ : ∃ q, k = q + 1 := ⟨k - 1, by omega⟩
    simp only [codec_encode.l0]
    rw [if_pos (by omega), if_pos (by omega)]
    by_cases c : (b.length : Int) > 1048576
    · rw [if_pos c]
      exact ⟨b, rfl, by omega, fun h => by omega, fun _ => by omega⟩
    · rw [if_neg c, rdV hlt, hx.1]
      obtain ⟨b1, p1, p2, p3, p4⟩ := hK1 k (by omega) b (by omega)
      obtain ⟨b2, q1, q2, q3, q4⟩ := hK2 k (by omega) b1 (by omega)
      rw [p1, Option.bind_some, len_succ hlt (by omega)]
      refine ⟨b2, q1, by omega, fun h => ?_, fun h => ?_⟩
      · have e1 := p3 (by omega)
        rw [q3 (by rw [e1, List.length_append]; omega), e1, List.append_assoc]
      · by_cases c2 : b.length + f.length ≤ 1048576
        · have e1 := p3 c2
          have e2 : b1.length = b.length + f.length := by rw [e1, List.length_append]
          exact q4 (by omega)
        · have e1 := p4 (by omega)
          exact q4 (by omega)
theorem co_number {d : Nat} {x : V} {n : Int} {body : List Int} (hl : body.length ≤ 100000000) (hc : (x.f0 = 1 ∧ -9223372036854775808 ≤ x.f1 ∧ x.f1 ≤ 9223372036854775807 ∧ x.f2 = ⟨#[]⟩ ∧ x.f3 = [] ∧ n = numI x.f1 ∧ body = []) ∨
       (x.f0 = 2 ∧ x.f1 = 0 ∧ x.f3 = [] ∧ n = (x.f2.size : Int) ∧ body = bytesOf x.f2) ∨
       (x.f0 = 3 ∧ x.f1 = 0 ∧ x.f2 = ⟨#[]⟩ ∧ n = (x.f3.length : Int) ∧ Encs (Enc d) x.f3 body)) : codec_number.f x.f0 x.f1 x.f2 x.f3 = some n := by
  rcases hc with ⟨k1, i0, i1, e2, e3, rfl, rfl⟩ | ⟨k2, e1, e3, rfl, rfl⟩ | ⟨k3, e1, e2, rfl, he⟩
  · rw [k1, conumI ⟨i0, i1⟩]
  · rw [bytesOf_length] at hl
    rw [k2, conumT _ _ _ (by omega)]
  · have := Encs.len (fun x l h => Enc.pos h) _ _ he
    rw [k3, conumL _ _ _ (by omega)]
theorem wr_enc : ∀ (d : Nat) (x : V) (l : List Int), Enc d x l → l.length ≤ 90000000 → Wr x l
  | 0, _, _, h, _ => h.elim
  | d + 1, x, l, h, hl => by
    have hk := Enc.kind h
    obtain ⟨n, hd, body, h0, h1, hh, rfl, hc⟩ := h
    have hhl := head_len hh
    rw [List.length_append] at hl
    have hnum := co_number (by omega) hc
    have hlist : ∃ bl tl, body = bytesOf x.f2 ++ tl ∧ bl = tl.length ∧ Encs (Enc d) x.f3 tl := by
      rcases hc with ⟨k1, i0, i1, e2, e3, rfl, rfl⟩ | ⟨k2, e1, e3, rfl, rfl⟩ | ⟨k3, e1, e2, rfl, he⟩
      · exact ⟨_, [], by rw [e2]; rfl, rfl, by rw [e3]; rfl⟩
      · exact ⟨_, [], by rw [List.append_nil], rfl, by rw [e3]; rfl⟩
      · exact ⟨_, body, by rw [e2]; rfl, rfl, he⟩
    obtain ⟨_, tl, rfl, rfl, he⟩ := hlist
    rw [List.length_append, bytesOf_length] at hl
    have hn3 := Encs.len (fun x l h => Enc.pos h) _ _ he
    obtain ⟨K, hK⟩ := wr_list (fun y f => Enc d y f ∧ f.length ≤ 90000000) (fun y f hy _ => wr_enc d y f hy.1 hy.2) x.f3 (by omega) x.f3 tl (by
      have key : ∀ (xs : List V) (b : List Int), Encs (Enc d) xs b → b.length ≤ 90000000 → Encs (fun y f => Enc d y f ∧ f.length ≤ 90000000) xs b := by
        intro xs
        induction xs with
        | nil => intro b h _; exact h
        | cons y r ih =>
          rintro b ⟨f, b', rfl, g1, g2⟩ hb
          rw [List.length_append] at hb
          exact ⟨f, b', rfl, ⟨g1, by omega⟩, ih b' g2 (by omega)⟩
      exact key _ _ he (by omega)) 0 (by omega) (List.drop_zero) (by omega)
    refine ⟨K + 42, fun k hkk b hb => ?_⟩
    obtain ⟨k, rfl⟩ : ∃ q, k = q + 1 := ⟨k - 1, by omega⟩
    simp only [codec_encode.f]
    rw [cohead x hk n hnum h0 hd hh k b (by omega) (by omega), Option.bind_some, if_pos (by rw [List.length_append]; omega)]
    simp only [List.length_append, bytesOf_length]
    obtain ⟨b', p1, p2, p3, p4⟩ := hK k (by omega) (b ++ hd ++ bytesOf x.f2) (by simp only [List.length_append, bytesOf_length]; omega)
    rw [show ((0 : Nat) : Int) = 0 from rfl] at p1
    simp only [List.length_append, bytesOf_length] at p2 p3 p4
    refine ⟨b', p1, by omega, fun h => ?_, fun h => p4 (by omega)⟩
    rw [p3 (by omega)]
    simp only [List.append_assoc]

/-! ### valid values -/
theorem proper_list (P : V → List Int → Prop) (m : Int) (hP : ∀ x l, P x l → ∃ K, ∀ k, K ≤ k → codec_proper.f k x.f0 x.f1 x.f2 x.f3 (wrap64 (m - 1)) = some true) (all : List V) (hall : all.length ≤ 1000000000) : ∀ (xs : List V) (l : List Int), Encs P xs l → ∀ i : Nat, i + xs.length = all.length → all.drop i = xs →
    ∃ K, ∀ k, K ≤ k → codec_proper.l0 k m all (all.length : Int) (i : Int) = some true
  | [], l, h, i, hi, hd => by
    refine ⟨1, fun k hk => ?_⟩
    obtain ⟨k, rfl⟩ : ∃ q, k = q + 1 := ⟨k - 1, by omega⟩
    simp only [codec_proper.l0]
    rw [if_neg (by rw [List.length_nil] at hi; omega)]
  | x :: r, l, h, i, hi, hd => by
    obtain ⟨f, l', rfl, h1, h2⟩ := h
    rw [List.length_cons] at hi
    have hlt : i < all.length := by omega
    have hx : all[i] = x ∧ all.drop (i + 1) = r := by
      rw [List.drop_eq_getElem_cons hlt] at hd
      injection hd with h1 h2
      exact ⟨h1, h2⟩
    obtain ⟨K1, hK1⟩ := hP x f h1
    obtain ⟨K2, hK2⟩ := proper_list P m hP all hall r l' h2 (i + 1) (by omega) hx.2
    refine ⟨K1 + K2 + 1, fun k hk => ?_⟩
    obtain ⟨k, rfl⟩ : ∃ q, k = q + 1 := ⟨k - 1, by omega⟩
    simp only [codec_proper.l0]
    rw [if_pos (by omega), if_pos (by omega), if_pos (by omega), rdV hlt, hx.1, hK1 k (by omega), Option.bind_some, if_pos rfl, len_succ hlt (by omega), hK2 k (by omega)]
theorem proper_enc : ∀ (d : Nat) (x : V) (l : List Int), Enc d x l → l.length ≤ 90000000 → ∀ m : Int, (d : Int) ≤ m → m ≤ 64 → ∃ K, ∀ k, K ≤ k → codec_proper.f k x.f0 x.f1 x.f2 x.f3 m = some true
  | 0, _, _, h, _, _, _, _ => h.elim
  | d + 1, x, l, h, hl, m, hm, hm2 => by
    obtain ⟨n, hd, body, h0, h1, hh, rfl, hc⟩ := h
    rw [List.length_append] at hl
    have hnil : (⟨#[]⟩ : ByteArray).toList = [] := by decide +kernel
    rcases hc with ⟨k1, i0, i1, e2, e3, rfl, rfl⟩ | ⟨k2, e1, e3, rfl, rfl⟩ | ⟨k3, e1, e2, rfl, he⟩
    · refine ⟨2, fun k hk => ?_⟩
      obtain ⟨k, rfl⟩ : ∃ q, k = q + 1 + 1 := ⟨k - 2, by omega⟩
      simp only [codec_proper.f]
      rw [if_neg (by omega), if_pos k1, e2, e3, if_pos hnil]
      simp
    · refine ⟨2, fun k hk => ?_⟩
      obtain ⟨k, rfl⟩ : ∃ q, k = q + 1 + 1 := ⟨k - 2, by omega⟩
      simp only [codec_proper.f]
      rw [if_neg (by omega), if_neg (by omega), if_pos k2, e1, e3, if_pos rfl]
      simp
    · have hn3 := Encs.len (fun x l h => Enc.pos h) _ _ he
      have hw : wrap64 (m - 1) = m - 1 := by unfold wrap64; omega
      obtain ⟨K, hK⟩ := proper_list (fun y f => Enc d y f ∧ f.length ≤ 90000000) m (fun y f hy => by rw [hw]; exact proper_enc d y f hy.1 hy.2 (m - 1) (by omega) (by omega)) x.f3 (by omega) x.f3 body (by
        have key : ∀ (xs : List V) (b : List Int), Encs (Enc d) xs b → b.length ≤ 90000000 → Encs (fun y f => Enc d y f ∧ f.length ≤ 90000000) xs b := by
          intro xs
          induction xs with
          | nil => intro b h _; exact h
          | cons y r ih =>
            rintro b ⟨f, b', rfl, g1, g2⟩ hb
            rw [List.length_append] at hb
            exact ⟨f, b', rfl, ⟨g1, by omega⟩, ih b' g2 (by omega)⟩
        exact key _ _ he (by omega)) 0 (by omega) (List.drop_zero)
      refine ⟨K + 3, fun k hk => ?_⟩
      obtain ⟨k, rfl⟩ : ∃ q, k = q + 1 + 1 := ⟨k - 2, by omega⟩
      have h2 := hK k (by omega)
      rw [show ((0 : Nat) : Int) = 0 from rfl] at h2
      simp only [codec_proper.f]
      rw [if_neg (by omega), if_neg (by omega), if_neg (by omega), if_pos k3, if_pos e1, e2]
      rw [hnil, show (([] : List UInt8) != []) = false from rfl]
      simp only [codec_proper.j0]
      rw [if_neg (by decide), h2]
theorem valid_enc (x : V) (l : List Int) (h : Enc 64 x l) (hl : l.length ≤ 90000000) : ∃ K, ∀ k, K ≤ k → codec_Valid.f k x.f0 x.f1 x.f2 x.f3 = some true := by
  obtain ⟨K, hK⟩ := proper_enc 64 x l h hl 64 (by decide) (by decide)
  refine ⟨K, fun k hk => ?_⟩
  unfold codec_Valid.f
  rw [hK k hk]
  try rfl
theorem encode_enc (x : V) (l : List Int) (h : Enc 64 x l) (hl : l.length ≤ 90000000) : ∃ K, (l.length ≤ 1048576 ∧ ∀ k, K ≤ k → codec_Encode.f k x.f0 x.f1 x.f2 x.f3 = some (l, 0)) ∨ (1048576 < l.length ∧ ∀ k, K ≤ k → codec_Encode.f k x.f0 x.f1 x.f2 x.f3 = some ([], 6)) := by
  obtain ⟨K1, h1⟩ := valid_enc x l h hl
  obtain ⟨K2, h2⟩ := wr_enc 64 x l h hl
  refine ⟨K1 + K2, ?_⟩
  by_cases c : l.length ≤ 1048576
  · refine .inl ⟨c, fun k hk => ?_⟩
    obtain ⟨b', p1, p2, p3, p4⟩ := h2 k (by omega) [] (by simp)
    rw [List.length_nil, Nat.zero_add] at p2 p3 p4
    have e := p3 c
    rw [List.nil_append] at e
    subst e
    unfold codec_Encode.f
    rw [h1 k (by omega), Option.bind_some, if_pos rfl, p1, Option.bind_some, if_neg (by omega)]
  · refine .inr ⟨by omega, fun k hk => ?_⟩
    obtain ⟨b', p1, p2, p3, p4⟩ := h2 k (by omega) [] (by simp)
    rw [List.length_nil, Nat.zero_add] at p2 p3 p4
    have e := p4 (by omega)
    unfold codec_Encode.f
    rw [h1 k (by omega), Option.bind_some, if_pos rfl, p1, Option.bind_some, if_pos (by omega)]

theorem awake03 (k : Nat) (hk : 20 ≤ k) : vinculumlaw03_awake.f k = some true := at_rounds vinculumlaw03_awake.mono hk (by decide +kernel)
end Go.Proofs.Ytploigkfnkgjiaa.RC
