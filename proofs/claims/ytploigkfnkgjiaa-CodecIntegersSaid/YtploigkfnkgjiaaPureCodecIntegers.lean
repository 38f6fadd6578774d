/- CodecIntegers: every whole number is encoded in at most nine bytes, smaller ones in no more, and decoded. -/
import Derived.Test.YtploigkfnkgjiaaPIx0
import Derived.Test.YtploigkfnkgjiaaPIx1
import Derived.Test.YtploigkfnkgjiaaPIx2
import Derived.Test.YtploigkfnkgjiaaPIx3
import Derived.Test.YtploigkfnkgjiaaPIx4
import Derived.Laws.BitsLemmas
namespace Go.Proofs.Ytploigkfnkgjiaa.Pure
set_option linter.unusedVariables false
set_option linter.unusedSimpArgs false
open Go.RowKit Go.Proofs.Ytploigkfnkgjiaa.PI Go.Proofs.YtploigkfnkgjiaaW.PrintWords Go.Proofs.YtploigkfnkgjiaaW.PrintMore
theorem wf64 {x : Int} : (Lit.int .i64 x).wf = true ↔ -9223372036854775808 ≤ x ∧ x ≤ 9223372036854775807 := by
  simp [Lit.wf, IntKind.min, IntKind.max, IntKind.signed, IntKind.bits]
theorem wu (n : Int) : IntKind.u64.wrap n = n % 18446744073709551616 := by simp [IntKind.wrap, IntKind.bits, IntKind.signed]
theorem xor_all (a : Int) (h0 : 0 ≤ a) (h1 : a < 18446744073709551616) : Go.bits .xor .u64 18446744073709551615 a = 18446744073709551615 - a := by
  have key : ∀ x : BitVec 64, (BitVec.ofInt 64 18446744073709551615 ^^^ x).toNat = 18446744073709551615 - x.toNat := by
    intro x
    rw [show BitVec.ofInt 64 18446744073709551615 = BitVec.allOnes 64 from by decide, BitVec.allOnes_xor, BitVec.toNat_not]
  show IntKind.u64.wrap (((BitVec.ofInt 64 18446744073709551615 ^^^ BitVec.ofInt 64 a).toNat : Nat) : Int) = _
  rw [key, BitVec.toNat_ofInt, wu]
  have e : (a % ((2 ^ 64 : Nat) : Int)) = a := Int.emod_eq_of_lt h0 (by simpa using h1)
  rw [e]
  omega
theorem or_first : ∀ y : Fin 64, Go.bits .or .u8 64 ((y.1 : Nat) : Int) = 64 + y.1 ∧ Go.bits .or .u8 128 ((y.1 : Nat) : Int) = 128 + y.1 ∧ Go.bits .or .u8 192 ((y.1 : Nat) : Int) = 192 + y.1 := by decide +kernel
theorem or_kind (a y : Int) (ha : 1 ≤ a ∧ a ≤ 3) (hy : 0 ≤ y) (hy2 : y < 64) : Go.bits .or .u8 ((wrap64 (a * 64)) % 256) y = 64 * a + y := by
  obtain ⟨n, rfl⟩ : ∃ n : Nat, y = n := ⟨y.toNat, by omega⟩
  obtain ⟨h1, h2, h3⟩ := or_first ⟨n, by omega⟩
  have : a = 1 ∨ a = 2 ∨ a = 3 := by omega
  rcases this with rfl | rfl | rfl
  · rw [show wrap64 (1 * 64) % 256 = 64 from by unfold wrap64; decide]; exact h1
  · rw [show wrap64 (2 * 64) % 256 = 128 from by unfold wrap64; decide]; exact h2
  · rw [show wrap64 (3 * 64) % 256 = 192 from by unfold wrap64; decide]; exact h3
/-- The powers of 256. -/
def pw : Nat → Int
  | 0 => 1
  | i + 1 => 256 * pw i
theorem pw_pos : ∀ i, 0 < pw i
  | 0 => by decide
  | i + 1 => by have := pw_pos i; simp only [pw]; omega
theorem shr_pw (n : Int) (m : Nat) (h : m ≤ 8) : shr .u64 n (wrap64 (8 * (m : Int))) = n / pw m := by
  have : m = 0 ∨ m = 1 ∨ m = 2 ∨ m = 3 ∨ m = 4 ∨ m = 5 ∨ m = 6 ∨ m = 7 ∨ m = 8 := by omega
  rcases this with rfl | rfl | rfl | rfl | rfl | rfl | rfl | rfl | rfl <;> (unfold shr wrap64; congr 1)
def dn (n : Int) : Nat → List Int
  | 0 => []
  | c + 1 => (n / pw c) % 256 :: dn n c
theorem dn_length (n : Int) : ∀ c, (dn n c).length = c
  | 0 => rfl
  | c + 1 => by simp only [dn, List.length_cons, dn_length n c]
theorem dn_succ (n : Int) : ∀ c, dn n (c + 1) = dn (n / 256) c ++ [n % 256]
  | 0 => by simp [dn, pw]
  | c + 1 => by
    have ih := dn_succ n c
    have e : n / pw (c + 1) = n / 256 / pw c := by simp only [pw]; rw [Int.ediv_ediv_of_nonneg (by omega)]
    rw [show dn n (c + 1 + 1) = (n / pw (c + 1)) % 256 :: dn n (c + 1) from rfl, ih, e]
    rfl
theorem colast (n : Int) : ∀ (m : Nat), m ≤ 8 → ∀ (k : Nat) (b : List Int), m < k → b.length + m < 140737488355328 → codec_head.l1 k b n ((m : Int) - 1) = some (b ++ dn n m) := by
  intro m
  induction m with
  | zero =>
    intro _ k b hk hb
    obtain ⟨k, rfl⟩ : ∃ m, k = m + 1 := ⟨k - 1, by omega⟩
    simp only [codec_head.l1]
    rw [if_neg (by omega)]
    simp [dn]
  | succ m ih =>
    intro hm k b hk hb
    obtain ⟨k, rfl⟩ : ∃ m, k = m + 1 := ⟨k - 1, by omega⟩
    simp only [codec_head.l1]
    rw [show ((m + 1 : Nat) : Int) - 1 = (m : Int) by omega, if_pos (by omega), if_pos (by unfold wrap64; omega), if_pos (by omega), shr_pw n m (by omega), show wrap64 ((m : Int) - 1) = (m : Int) - 1 from by unfold wrap64; omega, ih (by omega) k _ (by omega) (by rw [List.length_append]; simp only [List.length_cons, List.length_nil]; omega)]
    simp [dn]
theorem cofirst (n first : Int) (c : Nat) (hc : c ≤ 8) (hz : ¬ n / pw c > 0) (e : Nat) : ∀ (j k : Nat) (b : List Int), 1 ≤ j → j ≤ c → c - j = e → (∀ i, j ≤ i → i < c → n / pw i > 0) → e + c + 12 < k → b.length + 20 < 140737488355328 →
    codec_head.l0 k b n first (j : Int) = some (b ++ (Go.bits .or .u8 first ((55 + (c : Int)) % 256) :: dn n c)) := by
  induction e with
  | zero =>
    intro j k b h1 h2 he hp hk hb
    obtain ⟨k, rfl⟩ : ∃ m, k = m + 1 + 1 := ⟨k - 2, by omega⟩
    obtain rfl : j = c := by omega
    have hj1 : codec_head.j1 (k + 1) b n first (j : Int) = some (b ++ (Go.bits .or .u8 first ((55 + (j : Int)) % 256) :: dn n j)) := by
      simp only [codec_head.j1]
      rw [if_pos (by omega), show wrap64 ((j : Int) - 1) = (j : Int) - 1 from by unfold wrap64; omega, show wrap64 (55 + (j : Int)) = 55 + (j : Int) from by unfold wrap64; omega, colast n j hc k _ (by omega) (by rw [List.length_append]; simp only [List.length_cons, List.length_nil]; omega)]
      simp
    simp only [codec_head.l0]
    by_cases c8 : (j : Int) < 8
    · rw [if_pos c8, if_pos (by unfold wrap64; omega), shr_pw n j hc, if_neg hz]
      exact hj1
    · rw [if_neg c8]
      exact hj1
  | succ e ih =>
    intro j k b h1 h2 he hp hk hb
    obtain ⟨k, rfl⟩ : ∃ m, k = m + 1 := ⟨k - 1, by omega⟩
    simp only [codec_head.l0]
    rw [if_pos (by omega), if_pos (by unfold wrap64; omega), shr_pw n j (by omega), if_pos (hp j (by omega) (by omega)), show wrap64 ((j : Int) + 1) = ((j + 1 : Nat) : Int) from by unfold wrap64; omega]
    exact ih (j + 1) k b (by omega) (by omega) (by omega) (fun i h3 h4 => hp i (by omega) h4) (by omega) hb
theorem cnt_ex (n : Int) (h0 : 1 ≤ n) (h1 : n < 18446744073709551616) : ∃ c, 1 ≤ c ∧ c ≤ 8 ∧ (∀ i, i < c → n / pw i > 0) ∧ n / pw c = 0 := by
  have p0 : pw 0 = 1 := rfl
  have p1 : pw 1 = 256 := rfl
  have p2 : pw 2 = 65536 := rfl
  have p3 : pw 3 = 16777216 := rfl
  have p4 : pw 4 = 4294967296 := rfl
  have p5 : pw 5 = 1099511627776 := rfl
  have p6 : pw 6 = 281474976710656 := rfl
  have p7 : pw 7 = 72057594037927936 := rfl
  have p8 : pw 8 = 18446744073709551616 := rfl
  have go : ∀ c : Nat, 1 ≤ c → c ≤ 8 → n < pw c → pw (c - 1) ≤ n → ∃ c, 1 ≤ c ∧ c ≤ 8 ∧ (∀ i, i < c → n / pw i > 0) ∧ n / pw c = 0 := by
    intro c h2 h3 h4 h5
    refine ⟨c, h2, h3, fun i hi => ?_, Int.ediv_eq_zero_of_lt (by omega) h4⟩
    have mono : ∀ a b : Nat, a ≤ b → pw a ≤ pw b := by
      intro a b hab
      induction hab with
      | refl => exact Int.le_refl _
      | step _ ih => have := pw_pos a; simp only [pw]; omega
    have := mono i (c - 1) (by omega)
    have hp := pw_pos i
    have := Int.le_ediv_of_mul_le hp (show 1 * pw i ≤ n by omega)
    omega
  by_cases c1 : n < 256
  · exact go 1 (by omega) (by omega) (by rw [p1]; omega) (by show pw 0 ≤ n; omega)
  by_cases c2 : n < 65536
  · exact go 2 (by omega) (by omega) (by rw [p2]; omega) (by show pw 1 ≤ n; omega)
  by_cases c3 : n < 16777216
  · exact go 3 (by omega) (by omega) (by rw [p3]; omega) (by show pw 2 ≤ n; omega)
  by_cases c4 : n < 4294967296
  · exact go 4 (by omega) (by omega) (by rw [p4]; omega) (by show pw 3 ≤ n; omega)
  by_cases c5 : n < 1099511627776
  · exact go 5 (by omega) (by omega) (by rw [p5]; omega) (by show pw 4 ≤ n; omega)
  by_cases c6 : n < 281474976710656
  · exact go 6 (by omega) (by omega) (by rw [p6]; omega) (by show pw 5 ≤ n; omega)
  by_cases c7 : n < 72057594037927936
  · exact go 7 (by omega) (by omega) (by rw [p7]; omega) (by show pw 6 ≤ n; omega)
  · exact go 8 (by omega) (by omega) (by rw [p8]; omega) (by show pw 7 ≤ n; omega)

theorem awake03 (k : Nat) (hk : 20 ≤ k) : vinculumlaw03_awake.f k = some true := at_rounds vinculumlaw03_awake.mono hk (by decide +kernel)
def numI (a : Int) : Int := if a < 0 then -2 * a - 1 else 2 * a
theorem numI_range {a : Int} (h : -9223372036854775808 ≤ a ∧ a ≤ 9223372036854775807) : 0 ≤ numI a ∧ numI a < 18446744073709551616 := by unfold numI; split <;> omega
theorem conum {a : Int} (h : -9223372036854775808 ≤ a ∧ a ≤ 9223372036854775807) : codec_number.f 1 a ⟨#[]⟩ [] = some (numI a) := by
  unfold codec_number.f numI
  rw [if_pos rfl]
  by_cases c2 : a < 0
  · rw [if_pos c2, if_pos c2, wu, wu, xor_all _ (by omega) (by omega)]
    congr 1
    omega
  · rw [if_neg c2, if_neg c2, wu, wu]
    congr 1
    omega
theorem refnum {a : Int} (h : -9223372036854775808 ≤ a ∧ a ≤ 9223372036854775807) : vinculumref03_Number.f 1 a ⟨#[]⟩ [] = some (numI a) := by
  unfold vinculumref03_Number.f numI
  rw [if_neg (by decide), if_neg (by decide)]
  by_cases c3 : a < 0
  · rw [if_pos c3, if_pos c3]
    simp only [wu]
    unfold wrap64
    congr 1
    omega
  · rw [if_neg c3, if_neg c3]
    simp only [wu]
    congr 1
    omega
theorem and1 (x : Int) (h0 : 0 ≤ x) (h1 : x < 18446744073709551616) : Go.bits .and .u64 x 1 = x % 2 := by
  have hk : ∀ n : Int, 0 ≤ n → n < 2 ^ 64 → IntKind.u64.wrap n = n := fun n h h' => by
    have e : (2 : Int) ^ 64 = 18446744073709551616 := by decide
    rw [e] at h'
    rw [wu]
    omega
  exact bits_mask .u64 64 (by decide) hk 1 (by decide) x h0 (by have e : (2 : Int) ^ 64 = 18446744073709551616 := by decide
                                                                rw [e]; exact h1)
theorem int_back {a : Int} (h : -9223372036854775808 ≤ a ∧ a ≤ 9223372036854775807) : codec_integer.f (numI a) = some a := by
  have hr := numI_range h
  unfold codec_integer.f
  rw [and1 _ hr.1 hr.2]
  by_cases c : a < 0
  · have e : numI a = -2 * a - 1 := if_pos c
    rw [e, if_pos (by omega), xor_all _ (by omega) (by omega)]
    congr 1
    unfold wrap64
    omega
  · have e : numI a = 2 * a := if_neg c
    rw [e, if_neg (by omega)]
    congr 1
    unfold wrap64
    omega
theorem fold_dn : ∀ (c : Nat) (n : Int), 0 ≤ n → n / pw c = 0 → foldB (dn n c) = n
  | 0, n, h0, h => by
    simp only [pw] at h
    rw [Int.ediv_one] at h
    subst h
    rfl
  | c + 1, n, h0, h => by
    have e : n / 256 / pw c = 0 := by
      simp only [pw] at h
      rw [← h, Int.ediv_ediv_of_nonneg (by omega)]
    have ih := fold_dn c (n / 256) (by omega) e
    rw [dn_succ]
    unfold foldB at ih ⊢
    rw [List.foldl_append, ih]
    simp only [List.foldl_cons, List.foldl_nil]
    omega
theorem dn_bytes (n : Int) : ∀ c, (dn n c).all (fun x => decide (0 ≤ x ∧ x < 256)) = true
  | 0 => rfl
  | c + 1 => by
    simp only [dn, List.all_cons, dn_bytes n c, Bool.and_true]
    exact decide_eq_true (by omega)
/-- What Encode makes of a number. -/
theorem enc_int (a : Int) (h : -9223372036854775808 ≤ a ∧ a ≤ 9223372036854775807) : ∃ bs : List Int, bs.length ≤ 9 ∧ (∀ k, 60 ≤ k → codec_Encode.f k 1 a ⟨#[]⟩ [] = some (bs, 0)) ∧ codec_Decode.f bs = some (1, a, ⟨#[]⟩, [], 0) ∧
    ((numI a < 56 ∧ bs.length = 1) ∨ (56 ≤ numI a ∧ ∃ c, bs.length = c + 1 ∧ (∀ i, i < c → numI a / pw i > 0) ∧ numI a / pw c = 0)) := by
  have hr := numI_range h
  have hv : ∀ k, 60 ≤ k → codec_Valid.f k 1 a ⟨#[]⟩ [] = some true := fun k hk => by
    obtain ⟨k, rfl⟩ : ∃ m, k = m + 1 := ⟨k - 1, by omega⟩
    unfold codec_Valid.f
    simp only [codec_proper.f]
    rw [if_neg (by decide), if_pos trivial, if_pos (by decide +kernel)]
    rfl
  have hbo : bytesOf (⟨#[]⟩ : ByteArray) = [] := rfl
  have he : ∀ (bs : List Int), bs.length ≤ 9 → (∀ k, 40 ≤ k → codec_head.f k [] 1 a ⟨#[]⟩ [] = some bs) → ∀ k, 60 ≤ k → codec_Encode.f k 1 a ⟨#[]⟩ [] = some (bs, 0) := fun bs hb hh k hk => by
    unfold codec_Encode.f
    rw [hv k hk, Option.bind_some, if_pos rfl]
    obtain ⟨k, rfl⟩ : ∃ m, k = m + 1 + 1 := ⟨k - 2, by omega⟩
    simp only [codec_encode.f]
    rw [hh (k + 1) (by omega), Option.bind_some, if_pos (by show bs.length + 0 < _; omega), hbo, List.append_nil]
    simp only [codec_encode.l0]
    rw [if_neg (by decide), Option.bind_some, if_neg (by omega)]
  by_cases c : numI a < 56
  · refine ⟨[64 * 1 + numI a], by simp, he _ (by simp) (fun k _ => ?_), ?_, .inl ⟨c, rfl⟩⟩
    · unfold codec_head.f
      rw [conum h, Option.bind_some, if_pos c, if_pos (by simp), show numI a % 256 = numI a from by omega, or_kind 1 _ (by omega) (by omega) (by omega)]
      rfl
    · have hh : rheadS [64 * 1 + numI a] = (1, numI a, true, []) := by
        simp only [rheadS]
        rw [if_pos (by omega), show (64 * 1 + numI a) / 64 = 1 from by omega, show (64 * 1 + numI a) % 64 = numI a from by omega]
      unfold codec_Decode.f
      rw [hh, if_pos ⟨by simp only [List.all_cons, List.all_nil, Bool.and_true]; exact decide_eq_true (by omega), by simp, rfl, rfl, rfl⟩, int_back h]
      rfl
  · obtain ⟨n, h1, h2, h3, h4⟩ := cnt_ex (numI a) (by omega) hr.2
    have hlen : ((64 * 1 + (55 + (n : Int))) :: dn (numI a) n).length = n + 1 := by rw [List.length_cons, dn_length]
    refine ⟨(64 * 1 + (55 + (n : Int))) :: dn (numI a) n, by rw [hlen]; omega, he _ (by rw [hlen]; omega) (fun k hkk => ?_), ?_, .inr ⟨by omega, n, hlen, h3, h4⟩⟩
    · unfold codec_head.f
      rw [conum h, Option.bind_some, if_neg c, show (1 : Int) = ((1 : Nat) : Int) from rfl, cofirst (numI a) _ n h2 (by omega) (n - 1) 1 k [] (by omega) h1 rfl (fun i _ hi => h3 i hi) (by omega) (by simp), show (55 + (n : Int)) % 256 = 55 + (n : Int) from by omega, or_kind ((1 : Nat) : Int) _ (by omega) (by omega) (by omega)]
      rfl
    · obtain ⟨q, rfl⟩ : ∃ q, n = q + 1 := ⟨n - 1, by omega⟩
      have hd : rd (dn (numI a) (q + 1)) 0 = numI a / pw q % 256 := rfl
      have hq := h3 q (by omega)
      have hq2 : numI a / pw q < 256 := by
        have e : numI a / pw q / 256 = 0 := by
          rw [Int.ediv_ediv_of_nonneg (by have := pw_pos q; omega), Int.mul_comm, ← h4]
          rfl
        omega
      have hh : rheadS ((64 * 1 + (55 + ((q + 1 : Nat) : Int))) :: dn (numI a) (q + 1)) = (1, numI a, true, []) := by
        simp only [rheadS]
        rw [show (64 * 1 + (55 + ((q + 1 : Nat) : Int))) % 64 = 55 + ((q + 1 : Nat) : Int) from by omega, show (64 * 1 + (55 + ((q + 1 : Nat) : Int))) / 64 = 1 from by omega, if_neg (by omega), show 55 + ((q + 1 : Nat) : Int) - 55 = ((q + 1 : Nat) : Int) from by omega, dn_length, if_neg (by omega), hd, if_neg (by
          rintro (e | ⟨e1, e2⟩)
          · omega
          · obtain rfl : q = 0 := by omega
            simp only [pw] at e2
            rw [Int.ediv_one] at e2
            simp only [pw] at hq2
            rw [Int.ediv_one] at hq2
            omega), Int.toNat_natCast, List.take_of_length_le (by rw [dn_length]; omega), List.drop_of_length_le (by rw [dn_length]; omega), fold_dn _ _ hr.1 h4]
      unfold codec_Decode.f
      rw [hh, if_pos ⟨by rw [List.all_cons, dn_bytes, Bool.and_true]; exact decide_eq_true (by omega), by rw [hlen]; omega, rfl, rfl, rfl⟩, int_back h]
      rfl
theorem len_mono {a b : Int} (ha : 0 ≤ numI a) (hab : numI a ≤ numI b) {la lb : Nat} (h1 : (numI a < 56 ∧ la = 1) ∨ (56 ≤ numI a ∧ ∃ c, la = c + 1 ∧ (∀ i, i < c → numI a / pw i > 0) ∧ numI a / pw c = 0))
    (h2 : (numI b < 56 ∧ lb = 1) ∨ (56 ≤ numI b ∧ ∃ c, lb = c + 1 ∧ (∀ i, i < c → numI b / pw i > 0) ∧ numI b / pw c = 0)) : la ≤ lb := by
  rcases h1 with ⟨_, rfl⟩ | ⟨ga, c, rfl, hp, hz⟩
  · rcases h2 with ⟨_, rfl⟩ | ⟨_, d, rfl, _, _⟩ <;> omega
  · rcases h2 with ⟨gb, _⟩ | ⟨_, d, rfl, hp', hz'⟩
    · omega
    · by_cases hcd : c ≤ d
      · omega
      · exfalso
        have e1 := hp d (by omega)
        have hd := pw_pos d
        have e2 : numI a / pw d ≤ numI b / pw d := Int.ediv_le_ediv hd hab
        omega
theorem CodecIntegers (a b : Int) (wa : (Lit.int .i64 a).wf = true) (wb : (Lit.int .i64 b).wf = true) : ∃ k, vinculumlaw03_CodecIntegers.f k a b = some true := by
  have ra := wf64.1 wa
  have rb := wf64.1 wb
  obtain ⟨p, p1, p2, p3, p4⟩ := enc_int a ra
  obtain ⟨q, q1, q2, q3, q4⟩ := enc_int b rb
  refine ⟨100, ?_⟩
  unfold vinculumlaw03_CodecIntegers.f
  rw [awake03 _ (by omega), Option.bind_some, if_pos rfl, p2 100 (by omega), Option.bind_some, q2 100 (by omega), Option.bind_some, p3, Option.bind_some]
  simp only [if_true]
  rw [if_neg (by omega), decide_eq_false (p := (q.length : Int) > 9) (by omega)]
  simp only [vinculumlaw03_CodecIntegers.j0]
  rw [if_neg (by simp), refnum ra, Option.bind_some, refnum rb, Option.bind_some]
  by_cases c : numI a ≤ numI b
  · have := len_mono (numI_range ra).1 c p4 q4
    rw [if_pos c, decide_eq_true (p := (p.length : Int) ≤ (q.length : Int)) (by omega)]
  · rw [if_neg c]
end Go.Proofs.Ytploigkfnkgjiaa.Pure
