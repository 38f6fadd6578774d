-- Written by a program of this place (wip/gen.py) with the kit's print; not trusted: Lean checks it.
import Derived.Test.YtploigkfnkgjiaaPIx0
import Derived.Test.YtploigkfnkgjiaaPIx2
namespace Go.Proofs.Ytploigkfnkgjiaa.PI
open Go.RowKit Go.Proofs.YtploigkfnkgjiaaW.PrintWords Go.Proofs.YtploigkfnkgjiaaW.PrintLast Go.Proofs.YtploigkfnkgjiaaW.PrintMore
attribute [local go_sem] max2_int min2_int max_two min_two max_three min_three max_four min_four   -- for this text's walks alone
set_option linter.unusedVariables false
set_option linter.unusedSimpArgs false

/-! ### codec_Decode: function 22, by hand -/
/-- The reader's state: the block g holds a slice of what lay there ahead of the call. -/
def RdS (w0 w : World) (g : Nat) (l : List Int) : Prop := ∃ A c, w.heap[g]? = some (.cells #[.slice A l.length c] 64 (0, 0)) ∧ (Kd.int .u8).C w0 A l.length l ∧ l.length ≤ c
/-- take: what is taken, whether there was enough, what is left. -/
def takeS (n : Int) (l : List Int) : List Int × Bool × List Int := if n > (l.length : Int) then ([], false, l) else (l.take n.toNat, true, l.drop n.toNat)
theorem wuE (n : Int) : IntKind.u64.wrap n = n % 18446744073709551616 := by simp [IntKind.wrap, IntKind.bits, IntKind.signed]
theorem RdS.len {w0 w : World} {g : Nat} {l : List Int} (h : RdS w0 w g l) : l.length ≤ 9223372036854775807 := by
  obtain ⟨A, c, _, h, _⟩ := h
  have := h.2.1
  omega
theorem RdS.kept {w0 w w' : World} {g : Nat} {l : List Int} (h : RdS w0 w g l) {S : Nat → Prop} (hk : Kept w w' S) (hg : ¬ S g) : RdS w0 w' g l := by
  obtain ⟨A, c, h1, h2⟩ := h
  exact ⟨A, c, blk_kept h1 hk hg, h2⟩
theorem Kept.transE {w w' w'' : World} {S : Nat → Prop} (h : Kept w w' S) (k : Kept w' w'' S) : Kept w w'' S := h.then_ k (fun _ hk => .inl hk)
set_option maxHeartbeats 1600000 in
set_option maxRecDepth 100000 in
theorem reader_take.calls (w0 w : World) (g : Nat) (l : List Int) (n : Int) (hn : 0 ≤ n) (hg : w0.heap.size ≤ g) (hB : Below w0.heap.size w0 w) (hs : RdS w0 w g l) :
    Calls Try.prog 38 #[.pointer (some ⟨g, 0, none⟩), .int .u64 n] w fun e w' => ∃ A c, e = .returned (.tuple #[.slice A (takeS n l).1.length c, .bool (takeS n l).2.1]) ∧ (Kd.int .u8).C w0 A (takeS n l).1.length (takeS n l).1 ∧ (takeS n l).1.length ≤ c ∧ RdS w0 w' g (takeS n l).2.2 ∧ Below w0.heap.size w0 w' ∧ Kept w w' (fun k => k = g) := by
  have hlen := hs.len
  have hs' := Aside0.mk hs
  obtain ⟨A, c, hblk, hC, hc⟩ := hs
  have hcell : w.cell? ⟨g, 0, none⟩ = some (.slice A l.length c) := (blk_cell hblk 0).trans rfl
  have hfz := blk_frozen hblk 0
  have hw : IntKind.u64.wrap (l.length : Int) = (l.length : Int) := by rw [wuE]; omega
  have HBK := Aside0.mk hblk
  have HC := Aside0.mk hC
  have HB := Aside0.mk hB
  have HG := Aside0.mk hg
  have HL := Aside0.mk hlen
  have HCC := Aside0.mk hc
  clear hblk hC hB hg hlen hc
  by_cases h : n > (l.length : Int)
  · rw [show takeS n l = ([], false, l) from if_pos h]
    have b0 : decide (n > (l.length : Int)) = true := decide_eq_true h
    have b1 : decide ((l.length : Int) < n) = true := decide_eq_true h
    clear h
    go_enter Try.func38, Try.ntmps38
    go_wp2
    go_ret2
    exact ⟨none, 0, rfl, Kd.C_nil _ _, Nat.le_refl _, hs'.out, HB.out, Kept.refl _ _⟩
  · rw [show takeS n l = (l.take n.toNat, true, l.drop n.toNat) from if_neg h]
    obtain ⟨m, rfl⟩ : ∃ m : Nat, n = m := ⟨n.toNat, by omega⟩
    have hm : m ≤ l.length := by omega
    have b0 : decide ((m : Int) > (l.length : Int)) = false := decide_eq_false h
    have b1 : decide ((l.length : Int) < (m : Int)) = false := decide_eq_false h
    have b2 : decide (l.length < m) = false := decide_eq_false (by omega)
    have b3 : (l.length < m) = False := eq_false (by omega)
    have hto := cut_to (P := Try.prog) 31 5 .u64 (i := (Try.prog.info? 5).getD default) Try.underlying31 (by kernel_rfl) A l.length c m hn (by omega) HCC.out
    have hfrom := cut_from (P := Try.prog) 31 5 .u64 (i := (Try.prog.info? 5).getD default) Try.underlying31 (by kernel_rfl) 1 (by kernel_rfl) A l.length c m hn (by omega)
    have hC1 := Kd.C_take HC.out hm
    have hC2 := Kd.C_drop HC.out hm HCC.out
    simp only [Int.toNat_natCast] at hto hfrom ⊢
    rw [show m * (Kd.int .u8).sz = m * 1 from rfl] at hC2
    obtain ⟨A2, hA2⟩ : ∃ A2, (if c = m then A else A.map (·.add (m * 1))) = A2 := ⟨_, rfl⟩
    simp only [hA2] at hfrom
    rw [hA2] at hC2
    clear hA2
    obtain ⟨o, ho⟩ : ∃ o, l.take m = o := ⟨_, rfl⟩
    obtain ⟨r, hr⟩ : ∃ r, l.drop m = r := ⟨_, rfl⟩
    have hol : o.length = m := by rw [← ho, List.length_take]; omega
    have hrl : r.length = l.length - m := by rw [← hr, List.length_drop]
    rw [ho] at hC1
    rw [hr] at hC2
    simp only [ho, hr]
    clear ho hr h hn
    have HO := Aside0.mk hol
    have HR := Aside0.mk hrl
    have HC1 := Aside0.mk hC1
    have HC2 := Aside0.mk hC2
    have HM := Aside0.mk hm
    clear hol hrl hC1 hC2 hm
    go_enter Try.func38, Try.ntmps38
    go_wp2
    go_ret2
    refine ⟨A, c, by rw [HO.out]; rfl, HC1.out, by have := HO.out; have := HM.out; have := HCC.out; omega, ⟨A2, c - m, ?_, HC2.out, by have := HR.out; have := HCC.out; have := HM.out; omega⟩, HB.out.setCell (p := ⟨g, 0, none⟩) HG.out _, (Kept.refl w (fun k => k = g)).setCell (p := ⟨g, 0, none⟩) (.inl rfl) _⟩
    rw [HR.out]
    exact blk_set HBK.out 0 _
/-- The number that more bytes tell. -/
def foldB (l : List Int) : Int := l.foldl (fun n x => n * 256 + x) 0
/-- head: the kind, the number, whether there was one, what is left. -/
def rheadS : List Int → Int × Int × Bool × List Int
  | [] => (0, 0, false, [])
  | x :: r => if x % 64 < 56 then (x / 64, x % 64, true, r) else
      if x % 64 - 55 > (r.length : Int) then (0, 0, false, r) else
        if rd r 0 = 0 ∨ (x % 64 - 55 = 1 ∧ rd r 0 < 56) then (0, 0, false, r.drop (x % 64 - 55).toNat) else (x / 64, foldB (r.take (x % 64 - 55).toNat), true, r.drop (x % 64 - 55).toNat)
def Bytes (l : List Int) : Prop := ∀ x ∈ l, 0 ≤ x ∧ x < 256
theorem and63 (x : Int) (h : 0 ≤ x ∧ x < 256) : IntKind.u64.wrap (Go.bits .and .u8 x 63) = x % 64 := by rw [u8_and63 x h.1 h.2, wuE]; omega
theorem foldB_range : ∀ (l : List Int), Bytes l → ∀ a : Int, 0 ≤ a → 0 ≤ l.foldl (fun n x => n * 256 + x) a
  | [], _, a, h => h
  | x :: r, hb, a, h => by
    have h1 := hb x List.mem_cons_self
    exact foldB_range r (fun y hy => hb y (List.mem_cons_of_mem _ hy)) (a * 256 + x) (by omega)
theorem foldB_bound : ∀ (l : List Int), Bytes l → ∀ a b : Int, 0 ≤ a → a < b → l.foldl (fun n x => n * 256 + x) a < b * 256 ^ l.length
  | [], _, a, b, _, h => by simpa using h
  | x :: r, hb, a, b, h0, h => by
    have h1 := hb x List.mem_cons_self
    have := foldB_bound r (fun y hy => hb y (List.mem_cons_of_mem _ hy)) (a * 256 + x) (b * 256) (by omega) (by omega)
    rw [List.foldl_cons, List.length_cons, Int.pow_succ]
    rw [show b * (256 ^ r.length * 256) = b * 256 * 256 ^ r.length by rw [Int.mul_comm (256 ^ r.length) 256, Int.mul_assoc]]
    exact this
theorem foldB_small (l : List Int) (hb : Bytes l) (h : l.length ≤ 7) : 0 ≤ foldB l ∧ foldB l < 72057594037927936 := by
  refine ⟨foldB_range l hb 0 (Int.le_refl _), ?_⟩
  have h1 := foldB_bound l hb 0 1 (Int.le_refl _) (by omega)
  rw [Int.one_mul] at h1
  have h2 : (256 : Int) ^ l.length ≤ 72057594037927936 := by
    have : l.length = 0 ∨ l.length = 1 ∨ l.length = 2 ∨ l.length = 3 ∨ l.length = 4 ∨ l.length = 5 ∨ l.length = 6 ∨ l.length = 7 := by omega
    rcases this with e | e | e | e | e | e | e | e <;> rw [e] <;> decide
  exact Int.lt_of_lt_of_le h1 h2
theorem foldB_succ (o : List Int) (j : Nat) (h : j < o.length) : foldB (o.take (j + 1)) = foldB (o.take j) * 256 + rd o (j : Int) := by
  unfold foldB
  rw [List.take_succ_eq_append_getElem h, List.foldl_append]
  simp [rd, h]
theorem or_byte (a z : Int) (h0 : 0 ≤ a) (h1 : a < 72057594037927936) (z0 : 0 ≤ z ∧ z < 256) : Go.bits .or .u64 (IntKind.u64.wrap (a * 256)) (IntKind.u64.wrap z) = a * 256 + z := by
  obtain ⟨p, rfl⟩ : ∃ p : Nat, a = p := ⟨a.toNat, by omega⟩
  obtain ⟨q, rfl⟩ : ∃ q : Nat, z = q := ⟨z.toNat, by omega⟩
  have e1 : IntKind.u64.wrap ((p : Int) * 256) = ((p * 256 : Nat) : Int) := by rw [wuE]; omega
  have e2 : IntKind.u64.wrap (q : Int) = ((q : Nat) : Int) := by rw [wuE]; omega
  have hk : ∀ n : Int, 0 ≤ n → n < 2 ^ 64 → IntKind.u64.wrap n = n := fun n h h' => by
    have e : (2 : Int) ^ 64 = 18446744073709551616 := by decide
    rw [e] at h'
    rw [wuE]
    omega
  rw [e1, e2, (bits_nat .u64 64 (by decide) hk (p * 256) q (by omega) (by omega)).2]
  have h3 := Nat.two_pow_add_eq_or_of_lt (i := 8) (b := q) (by omega) p
  rw [show p * 256 = 2 ^ 8 * p by omega, ← h3]
  omega
set_option maxHeartbeats 3200000 in
set_option maxRecDepth 100000 in
theorem reader_head.calls (w0 w : World) (g : Nat) (l : List Int) (hb : Bytes l) (hg : w0.heap.size ≤ g) (hB : Below w0.heap.size w0 w) (hs : RdS w0 w g l) :
    Calls Try.prog 36 #[.pointer (some ⟨g, 0, none⟩)] w fun e w' => e = .returned (.tuple #[.int .i64 (rheadS l).1, .int .u64 (rheadS l).2.1, .bool (rheadS l).2.2.1]) ∧ RdS w0 w' g (rheadS l).2.2.2 ∧ Below w0.heap.size w0 w' ∧ Kept w w' (fun k => k = g) := by
  have HS := Aside0.mk hs
  have HB := Aside0.mk hB
  clear hs hB
  cases l with
  | nil =>
    have HT : Aside0 (takeS 1 [] = ([], false, [])) := ⟨by rw [takeS, if_pos (by simp)]⟩
    go_enter Try.func36, Try.ntmps36
    go_wp2_with (first | (go_at_call 38; (refine (reader_take.calls w0 _ g [] 1 (by omega) hg HB.out HS.out).mono ?_); rintro e w1 ⟨A1, c1, rfl, p1, p2, p3, p4, p5⟩; rw [HT.out] at p1 p2 p3 ⊢; dsimp only at p1 p2 p3 ⊢; (have P3 := Aside0.mk p3); (have P4 := Aside0.mk p4); (have P5 := Aside0.mk p5); clear p1 p2 p3 p4 p5))
    go_ret3
    exact ⟨rfl, P3.out, P4.out, P5.out⟩
  | cons x r =>
    have hx0 := hb x List.mem_cons_self
    have HT : Aside0 (takeS 1 (x :: r) = ([x], true, r)) := ⟨by rw [takeS, if_neg (by simp only [List.length_cons]; omega)]; simp⟩
    have e1 : wrap64 (x / 64) = x / 64 := by unfold wrap64; omega
    have e1' : IntKind.i64.wrap (x / 64) = x / 64 := by rw [IntKind.wrap_i64]; omega
    have e2 := and63 x hx0
    have hr : Bytes r := fun y hy => hb y (List.mem_cons_of_mem _ hy)
    simp only [rheadS]
    obtain ⟨kd, hkd⟩ : ∃ kd, x / 64 = kd := ⟨_, rfl⟩
    obtain ⟨n, hn⟩ : ∃ n, x % 64 = n := ⟨_, rfl⟩
    rw [hn] at e2 ⊢
    rw [hkd] at e1 e1' ⊢
    have E1 := Aside0.mk e1
    have hn0 : 0 ≤ n ∧ n < 64 := by omega
    have HX := Aside0.mk hx0
    have HRB := Aside0.mk hr
    clear hn hx0 hr hb
    by_cases c1 : n < 56
    · rw [if_pos c1]
      have b1 : decide (n < 56) = true := decide_eq_true c1
      clear c1
      go_enter Try.func36, Try.ntmps36
      go_wp2_with (first | (go_at_call 38; (refine (reader_take.calls w0 _ g (x :: r) 1 (by omega) hg HB.out HS.out).mono ?_); rintro e w1 ⟨A1, c1, rfl, p1, p2, p3, p4, p5⟩; rw [HT.out] at p1 p2 p3 ⊢; dsimp only at p1 p2 p3 ⊢; obtain ⟨ad, rfl, hx⟩ := Kd.at_int p1 0 (by omega) (by simp); replace hx := (p4.cell (World.block_lt_of_cell? w0 _ hx)).trans hx; rw [show rd [x] 0 = x from rfl, show Int.toNat 0 = 0 from rfl, Addr.add_zero'] at hx; (have P3 := Aside0.mk p3); (have P4 := Aside0.mk p4); (have P5 := Aside0.mk p5); clear p1 p2 p3 p4 p5))
      go_quiet (fail)
      go_wp2
      go_ret3
      exact ⟨by first | rfl | (rw [E1.out]; rfl) | (simp only [E1.out]; rfl), P3.out, pw_below_drewN P4.out _, P5.out⟩
    · rw [if_neg c1]
      have b1 : decide (n < 56) = false := decide_eq_false c1
      have e3 : IntKind.u64.wrap (IntKind.u64.wrap (n - 56) + 1) = n - 55 := by rw [wuE, wuE]; omega
      have e4 : IntKind.u64.wrap (n - 56) = n - 56 := by rw [wuE]; omega
      have e5 : IntKind.u64.wrap (n - 56 + 1) = n - 55 := by rw [wuE]; omega
      have hm0 : 1 ≤ n - 55 ∧ n - 55 ≤ 8 := by omega
      obtain ⟨m, hm⟩ : ∃ m, n - 55 = m := ⟨_, rfl⟩
      rw [hm] at e3 e5 hm0 ⊢
      have HM0 := Aside0.mk hm0
      clear c1 hm hn0 hm0
      by_cases c2 : m > (r.length : Int)
      · rw [if_pos c2]
        have HT2 : Aside0 (takeS m r = ([], false, r)) := ⟨if_pos c2⟩
        clear c2
        go_enter Try.func36, Try.ntmps36
        go_wp2_with (first | (go_at_call 38; (refine (reader_take.calls w0 _ g (x :: r) 1 (by omega) hg HB.out HS.out).mono ?_); rintro e w1 ⟨A1, c1, rfl, p1, p2, p3, p4, p5⟩; rw [HT.out] at p1 p2 p3 ⊢; dsimp only at p1 p2 p3 ⊢; obtain ⟨ad, rfl, hx⟩ := Kd.at_int p1 0 (by omega) (by simp); replace hx := (p4.cell (World.block_lt_of_cell? w0 _ hx)).trans hx; rw [show rd [x] 0 = x from rfl, show Int.toNat 0 = 0 from rfl, Addr.add_zero'] at hx; (have P3 := Aside0.mk p3); (have P4 := Aside0.mk p4); (have P5 := Aside0.mk p5); clear p1 p2 p3 p4 p5))
        go_quiet (fail)
        go_wp2_with (first | (go_at_call 38; (refine (reader_take.calls w0 _ g r m (by have := HM0.out; omega) hg (pw_below_drewN P4.out _) (show RdS w0 (w1.drewN _) g r from P3.out)).mono ?_); rintro e w2 ⟨A2, c2, rfl, q1, q2, q3, q4, q5⟩; rw [HT2.out] at q1 q2 q3 ⊢; dsimp only at q1 q2 q3 ⊢; (have Q3 := Aside0.mk q3); (have Q4 := Aside0.mk q4); (have Q5 := Aside0.mk (Kept.transE P5.out q5)); clear q1 q2 q3 q4 q5))
        go_ret3
        exact ⟨rfl, Q3.out, Q4.out, Q5.out⟩
      · rw [if_neg c2]
        obtain ⟨mm, rfl⟩ : ∃ mm : Nat, m = mm := ⟨m.toNat, by have := HM0.out; omega⟩
        rw [Int.toNat_natCast]
        have HT2 : Aside0 (takeS (mm : Int) r = (r.take mm, true, r.drop mm)) := ⟨by rw [takeS, if_neg c2, Int.toNat_natCast]⟩
        have hol : (r.take mm).length = mm := by rw [List.length_take]; omega
        have hy0 : rd (r.take mm) 0 = rd r 0 := by
          have h1 := HM0.out
          cases r with
          | nil => simp at c2; omega
          | cons y r' =>
            cases mm with
            | zero => omega
            | succ q => rfl
        have hob : Bytes (r.take mm) := fun y hy => HRB.out y (List.mem_of_mem_take hy)
        obtain ⟨o, ho⟩ : ∃ o, r.take mm = o := ⟨_, rfl⟩
        obtain ⟨rest, hrest⟩ : ∃ rest, r.drop mm = rest := ⟨_, rfl⟩
        obtain ⟨y, hy⟩ : ∃ y, rd r 0 = y := ⟨_, rfl⟩
        rw [ho] at HT2 hol hy0 hob
        rw [hrest] at HT2
        rw [hy] at hy0
        simp only [ho, hrest, hy]
        have HOL := Aside0.mk hol
        have HY := Aside0.mk hy0
        have HOB := Aside0.mk hob
        have f0 : (0 < o.length) = True := eq_true (by have := HM0.out; omega)
        have f0' : ((0 : Int) < (o.length : Int)) = True := eq_true (by have := HM0.out; omega)
        clear c2 ho hrest hy hol hy0 hob
        by_cases d1 : y = 0
        · rw [if_pos (.inl d1)]
          have f1 : (y == 0) = true := beq_iff_eq.2 d1
          clear d1
          go_enter Try.func36, Try.ntmps36
          go_wp2_with (first | (go_at_call 38; (refine (reader_take.calls w0 _ g (x :: r) 1 (by omega) hg HB.out HS.out).mono ?_); rintro e w1 ⟨A1, c1, rfl, p1, p2, p3, p4, p5⟩; rw [HT.out] at p1 p2 p3 ⊢; dsimp only at p1 p2 p3 ⊢; obtain ⟨ad, rfl, hx⟩ := Kd.at_int p1 0 (by omega) (by simp); replace hx := (p4.cell (World.block_lt_of_cell? w0 _ hx)).trans hx; rw [show rd [x] 0 = x from rfl, show Int.toNat 0 = 0 from rfl, Addr.add_zero'] at hx; (have P3 := Aside0.mk p3); (have P4 := Aside0.mk p4); (have P5 := Aside0.mk p5); clear p1 p2 p3 p4 p5))
          go_quiet (fail)
          go_wp2_with (first | (go_at_call 38; (refine (reader_take.calls w0 _ g r mm (by omega) hg (pw_below_drewN P4.out _) (show RdS w0 (w1.drewN _) g r from P3.out)).mono ?_); rintro e w2 ⟨A2, c2, rfl, q1, q2, q3, q4, q5⟩; rw [HT2.out] at q1 q2 q3 ⊢; dsimp only at q1 q2 q3 ⊢; obtain ⟨ad2, rfl, hy2⟩ := Kd.at_int q1 0 (by omega) (by have := HOL.out; have := HM0.out; omega); replace hy2 := (q4.cell (World.block_lt_of_cell? w0 _ hy2)).trans hy2; rw [HY.out, show Int.toNat 0 = 0 from rfl, Addr.add_zero'] at hy2; (have Q1 := Aside0.mk q1); (have Q3 := Aside0.mk q3); (have Q4 := Aside0.mk q4); (have Q5 := Aside0.mk (Kept.transE P5.out q5)); clear q1 q2 q3 q4 q5))
          go_ret3
          exact ⟨rfl, Q3.out, Q4.out, Q5.out⟩
        have f1 : (y == 0) = false := beq_eq_false_iff_ne.2 d1
        by_cases d2 : mm = 1
        · have f2 : ((o.length : Int) == 1) = true := beq_iff_eq.2 (by have := HOL.out; omega)
          have f2' : (o.length == 1) = true := beq_iff_eq.2 (by have := HOL.out; omega)
          have f2'' : o.length = 1 := by have := HOL.out; omega
          by_cases d3 : y < 56
          · rw [if_pos (.inr ⟨by omega, d3⟩)]
            have f3 : decide (y < 56) = true := decide_eq_true d3
            clear d1 d2 d3
            go_enter Try.func36, Try.ntmps36
            go_wp2_with (first | (go_at_call 38; (refine (reader_take.calls w0 _ g (x :: r) 1 (by omega) hg HB.out HS.out).mono ?_); rintro e w1 ⟨A1, c1, rfl, p1, p2, p3, p4, p5⟩; rw [HT.out] at p1 p2 p3 ⊢; dsimp only at p1 p2 p3 ⊢; obtain ⟨ad, rfl, hx⟩ := Kd.at_int p1 0 (by omega) (by simp); replace hx := (p4.cell (World.block_lt_of_cell? w0 _ hx)).trans hx; rw [show rd [x] 0 = x from rfl, show Int.toNat 0 = 0 from rfl, Addr.add_zero'] at hx; (have P3 := Aside0.mk p3); (have P4 := Aside0.mk p4); (have P5 := Aside0.mk p5); clear p1 p2 p3 p4 p5))
            go_quiet (fail)
            go_wp2_with (first | (go_at_call 38; (refine (reader_take.calls w0 _ g r mm (by omega) hg (pw_below_drewN P4.out _) (show RdS w0 (w1.drewN _) g r from P3.out)).mono ?_); rintro e w2 ⟨A2, c2, rfl, q1, q2, q3, q4, q5⟩; rw [HT2.out] at q1 q2 q3 ⊢; dsimp only at q1 q2 q3 ⊢; obtain ⟨ad2, rfl, hy2⟩ := Kd.at_int q1 0 (by omega) (by have := HOL.out; have := HM0.out; omega); replace hy2 := (q4.cell (World.block_lt_of_cell? w0 _ hy2)).trans hy2; rw [HY.out, show Int.toNat 0 = 0 from rfl, Addr.add_zero'] at hy2; (have Q1 := Aside0.mk q1); (have Q3 := Aside0.mk q3); (have Q4 := Aside0.mk q4); (have Q5 := Aside0.mk (Kept.transE P5.out q5)); clear q1 q2 q3 q4 q5))
            go_ret3
            exact ⟨rfl, Q3.out, Q4.out, Q5.out⟩
          · rw [if_neg (by rintro (h | ⟨_, h⟩); exact d1 h; exact d3 h)]
            have f3 : decide (y < 56) = false := decide_eq_false d3
            clear d1 d2 d3
            go_enter Try.func36, Try.ntmps36
            go_wp2_with (first | (go_at_call 38; (refine (reader_take.calls w0 _ g (x :: r) 1 (by omega) hg HB.out HS.out).mono ?_); rintro e w1 ⟨A1, c1, rfl, p1, p2, p3, p4, p5⟩; rw [HT.out] at p1 p2 p3 ⊢; dsimp only at p1 p2 p3 ⊢; obtain ⟨ad, rfl, hx⟩ := Kd.at_int p1 0 (by omega) (by simp); replace hx := (p4.cell (World.block_lt_of_cell? w0 _ hx)).trans hx; rw [show rd [x] 0 = x from rfl, show Int.toNat 0 = 0 from rfl, Addr.add_zero'] at hx; (have P3 := Aside0.mk p3); (have P4 := Aside0.mk p4); (have P5 := Aside0.mk p5); clear p1 p2 p3 p4 p5))
            go_quiet (fail)
            go_wp2_with (first | (go_at_call 38; (refine (reader_take.calls w0 _ g r mm (by omega) hg (pw_below_drewN P4.out _) (show RdS w0 (w1.drewN _) g r from P3.out)).mono ?_); rintro e w2 ⟨A2, c2, rfl, q1, q2, q3, q4, q5⟩; rw [HT2.out] at q1 q2 q3 ⊢; dsimp only at q1 q2 q3 ⊢; obtain ⟨ad2, rfl, hy2⟩ := Kd.at_int q1 0 (by omega) (by have := HOL.out; have := HM0.out; omega); replace hy2 := (q4.cell (World.block_lt_of_cell? w0 _ hy2)).trans hy2; rw [HY.out, show Int.toNat 0 = 0 from rfl, Addr.add_zero'] at hy2; (have Q1 := Aside0.mk q1); (have Q3 := Aside0.mk q3); (have Q4 := Aside0.mk q4); (have Q5 := Aside0.mk (Kept.transE P5.out q5)); clear q1 q2 q3 q4 q5))
            go_loopw [8, 62] (fun v i wr => ∃ j : Nat, j ≤ o.length ∧ i = .int .i64 j ∧ v = .int .u64 (foldB (o.take j)) ∧ wr = w2) (fun _ i _ => o.length - (intOf i).toNat)
            case atStart => exact ⟨0, Nat.zero_le _, rfl, by rw [List.take_zero]; rfl, rfl⟩
            case round =>
              obtain ⟨j, hj, rfl, rfl, rfl⟩ := hrel
              by_cases hlt : j < o.length
              · obtain ⟨ad3, e3_, hz⟩ := Kd.at_int Q1.out (j : Int) (by omega) (by omega)
                injection e3_ with e3_
                subst e3_
                replace hz := (Q4.out.cell (World.block_lt_of_cell? w0 _ hz)).trans hz
                rw [Int.toNat_natCast] at hz
                have hsucc := foldB_succ o j hlt
                have hzr : 0 ≤ rd o (j : Int) ∧ rd o (j : Int) < 256 := by
                  have := HOB.out o[j] (List.getElem_mem hlt)
                  simpa [rd, hlt] using this
                have har := foldB_small (o.take j) (fun y hy => HOB.out y (List.mem_of_mem_take hy)) (by rw [List.length_take]; have := HOL.out; have := HM0.out; omega)
                obtain ⟨z, hz2⟩ : ∃ z, rd o (j : Int) = z := ⟨_, rfl⟩
                obtain ⟨a, ha⟩ : ∃ a, foldB (o.take j) = a := ⟨_, rfl⟩
                rw [hz2] at hz hsucc hzr
                rw [ha] at hsucc har
                simp only [ha]
                have hor := or_byte a z har.1 har.2 hzr
                have HSU := Aside0.mk hsucc
                have HOR := Aside0.mk hor
                have hj8 : j < 9223372036854775807 := by have := HOL.out; have := HM0.out; omega
                clear hz2 ha hsucc hzr har hor
                go_wp2
                all_goals first
                  | (go_roundw
                     case rel => exact ⟨j + 1, hlt, by go_num, by rw [HOR.out, HSU.out], rfl⟩
                     case measure => simp [intOf]; omega)
                  | exact ⟨⟨j + 1, hlt, by go_num, by rw [HOR.out, HSU.out], trivial⟩, by simp [intOf]; omega⟩
              · obtain rfl : j = o.length := by omega
                simp only [List.take_length]
                go_wp2
                go_ret3
                exact ⟨by first | rfl | (rw [E1.out]; rfl) | (simp only [E1.out]; rfl), Q3.out, Q4.out, Q5.out⟩
        · rw [if_neg (by rintro (h | ⟨h, _⟩); exact d1 h; exact d2 (by omega))]
          have f2 : ((o.length : Int) == 1) = false := beq_eq_false_iff_ne.2 (by have := HOL.out; omega)
          have f2' : (o.length == 1) = false := beq_eq_false_iff_ne.2 (by have := HOL.out; omega)
          have f2'' : (o.length = 1) = False := eq_false (by have := HOL.out; omega)
          clear d1 d2
          go_enter Try.func36, Try.ntmps36
          go_wp2_with (first | (go_at_call 38; (refine (reader_take.calls w0 _ g (x :: r) 1 (by omega) hg HB.out HS.out).mono ?_); rintro e w1 ⟨A1, c1, rfl, p1, p2, p3, p4, p5⟩; rw [HT.out] at p1 p2 p3 ⊢; dsimp only at p1 p2 p3 ⊢; obtain ⟨ad, rfl, hx⟩ := Kd.at_int p1 0 (by omega) (by simp); replace hx := (p4.cell (World.block_lt_of_cell? w0 _ hx)).trans hx; rw [show rd [x] 0 = x from rfl, show Int.toNat 0 = 0 from rfl, Addr.add_zero'] at hx; (have P3 := Aside0.mk p3); (have P4 := Aside0.mk p4); (have P5 := Aside0.mk p5); clear p1 p2 p3 p4 p5))
          go_quiet (fail)
          go_wp2_with (first | (go_at_call 38; (refine (reader_take.calls w0 _ g r mm (by omega) hg (pw_below_drewN P4.out _) (show RdS w0 (w1.drewN _) g r from P3.out)).mono ?_); rintro e w2 ⟨A2, c2, rfl, q1, q2, q3, q4, q5⟩; rw [HT2.out] at q1 q2 q3 ⊢; dsimp only at q1 q2 q3 ⊢; obtain ⟨ad2, rfl, hy2⟩ := Kd.at_int q1 0 (by omega) (by have := HOL.out; have := HM0.out; omega); replace hy2 := (q4.cell (World.block_lt_of_cell? w0 _ hy2)).trans hy2; rw [HY.out, show Int.toNat 0 = 0 from rfl, Addr.add_zero'] at hy2; (have Q1 := Aside0.mk q1); (have Q3 := Aside0.mk q3); (have Q4 := Aside0.mk q4); (have Q5 := Aside0.mk (Kept.transE P5.out q5)); clear q1 q2 q3 q4 q5))
          go_loopw [8, 62] (fun v i wr => ∃ j : Nat, j ≤ o.length ∧ i = .int .i64 j ∧ v = .int .u64 (foldB (o.take j)) ∧ wr = w2) (fun _ i _ => o.length - (intOf i).toNat)
          case atStart => exact ⟨0, Nat.zero_le _, rfl, by rw [List.take_zero]; rfl, rfl⟩
          case round =>
            obtain ⟨j, hj, rfl, rfl, rfl⟩ := hrel
            by_cases hlt : j < o.length
            · obtain ⟨ad3, e3_, hz⟩ := Kd.at_int Q1.out (j : Int) (by omega) (by omega)
              injection e3_ with e3_
              subst e3_
              replace hz := (Q4.out.cell (World.block_lt_of_cell? w0 _ hz)).trans hz
              rw [Int.toNat_natCast] at hz
              have hsucc := foldB_succ o j hlt
              have hzr : 0 ≤ rd o (j : Int) ∧ rd o (j : Int) < 256 := by
                have := HOB.out o[j] (List.getElem_mem hlt)
                simpa [rd, hlt] using this
              have har := foldB_small (o.take j) (fun y hy => HOB.out y (List.mem_of_mem_take hy)) (by rw [List.length_take]; have := HOL.out; have := HM0.out; omega)
              obtain ⟨z, hz2⟩ : ∃ z, rd o (j : Int) = z := ⟨_, rfl⟩
              obtain ⟨a, ha⟩ : ∃ a, foldB (o.take j) = a := ⟨_, rfl⟩
              rw [hz2] at hz hsucc hzr
              rw [ha] at hsucc har
              simp only [ha]
              have hor := or_byte a z har.1 har.2 hzr
              have HSU := Aside0.mk hsucc
              have HOR := Aside0.mk hor
              have hj8 : j < 9223372036854775807 := by have := HOL.out; have := HM0.out; omega
              clear hz2 ha hsucc hzr har hor
              go_wp2
              all_goals first
                | (go_roundw
                   case rel => exact ⟨j + 1, hlt, by go_num, by rw [HOR.out, HSU.out], rfl⟩
                   case measure => simp [intOf]; omega)
                | exact ⟨⟨j + 1, hlt, by go_num, by rw [HOR.out, HSU.out], trivial⟩, by simp [intOf]; omega⟩
            · obtain rfl : j = o.length := by omega
              simp only [List.take_length]
              go_wp2
              go_ret3
              exact ⟨by first | rfl | (rw [E1.out]; rfl) | (simp only [E1.out]; rfl), Q3.out, Q4.out, Q5.out⟩

/-- Four stores into a box. -/
def st4 (W : World) (b : Nat) (v0 v1 v2 v3 : Value) : World := (((W.setCell ⟨b, 0, none⟩ v0).setCell ⟨b, 1, none⟩ v1).setCell ⟨b, 2, none⟩ v2).setCell ⟨b, 3, none⟩ v3
theorem st4_blk {W : World} {b t : Nat} {c0 c1 c2 c3 : Value} (h : W.heap[b]? = some (.cells #[c0, c1, c2, c3] t (0, 0))) (v0 v1 v2 v3 : Value) : (st4 W b v0 v1 v2 v3).heap[b]? = some (.cells #[v0, v1, v2, v3] t (0, 0)) := blk_put (blk_put (blk_put (blk_put h 0 v0 rfl) 1 v1 rfl) 2 v2 rfl) 3 v3 rfl
theorem st4_kept {w W : World} {S : Nat → Prop} {b : Nat} (h : Kept w W S) (hb : S b ∨ w.heap.size ≤ b) (v0 v1 v2 v3 : Value) : Kept w (st4 W b v0 v1 v2 v3) S := (((h.setCell (p := ⟨b, 0, none⟩) hb v0).setCell (p := ⟨b, 1, none⟩) hb v1).setCell (p := ⟨b, 2, none⟩) hb v2).setCell (p := ⟨b, 3, none⟩) hb v3
theorem st4_below {w W : World} {B b : Nat} (h : Below B w W) (hb : B ≤ b) (v0 v1 v2 v3 : Value) : Below B w (st4 W b v0 v1 v2 v3) := (((h.setCell (p := ⟨b, 0, none⟩) hb v0).setCell (p := ⟨b, 1, none⟩) hb v1).setCell (p := ⟨b, 2, none⟩) hb v2).setCell (p := ⟨b, 3, none⟩) hb v3
/-- The end of value: what was stored into the result's box is what comes back. -/
theorem value_end {w W : World} {v0 v1 v2 v3 : Value} {ok : Bool} {tm : Array Value} {R : Ending → World → Prop} (ht : tm[4]? = some (.pointer (some ⟨w.heap.size, 0, none⟩))) (ht5 : tm[5]? = some (.bool ok)) (hb : W.heap[w.heap.size]? = some (.cells #[v0, v1, v2, v3] 29 (0, 0)))
    (h : R (.returned (.tuple #[.agg #[v0, v1, v2, v3], .bool ok])) W) : bodyPost Try.prog Try.f34 R .ret { tmps := tm, defers := [] } W := by
  have g0 : W.cell? ⟨w.heap.size, 0, none⟩ = some v0 := (blk_cell hb 0).trans rfl
  have g1 : W.cell? ⟨w.heap.size, 1, none⟩ = some v1 := (blk_cell hb 1).trans rfl
  have g2 : W.cell? ⟨w.heap.size, 2, none⟩ = some v2 := (blk_cell hb 2).trans rfl
  have g3 : W.cell? ⟨w.heap.size, 3, none⟩ = some v3 := (blk_cell hb 3).trans rfl
  refine bodyPost_ret (v := .tuple #[.agg #[v0, v1, v2, v3], .bool ok]) ?hv rfl h
  case hv =>
    simp [results, Try.f34, go_sem, g0, g1, g2, g3, ht, ht5]
set_option maxHeartbeats 3200000 in
set_option maxRecDepth 100000 in
theorem value_fail0 (w0 w : World) (g : Nat) (l : List Int) (m : Int) (hb : Bytes l) (hg : w0.heap.size ≤ g) (hB : Below w0.heap.size w0 w) (hs : RdS w0 w g l) (kd n : Int) (l1 : List Int) (hh : Aside0 (rheadS l = (kd, n, false, l1))) :
    Calls Try.prog 34 #[.pointer (some ⟨g, 0, none⟩), .int .i64 m] w fun e w' => ∃ v, e = .returned (.tuple #[.agg #[.int .i64 0, .int .i64 0, .string ⟨#[]⟩, v], .bool false]) ∧ Kd.R k29 29 w' w.heap.size (fun k => w.heap.size ≤ k) v [] ∧ RdS w0 w' g l1 ∧ Below w0.heap.size w0 w' ∧ Kept w w' (fun k => k = g) := by
  have HS := Aside0.mk hs
  have HB := Aside0.mk hB
  have hgl : g < w.heap.size := by obtain ⟨A, c, h, _⟩ := hs; exact blk_lt h
  have HGL := Aside0.mk hgl
  clear hs hB hgl
  have HK0 := Aside0.mk ((Kept.refl w (fun k => k = g)).alloc (.cells #[.int .i64 0, .int .i64 0, .string ⟨#[]⟩, .slice none 0 0] 29))
  have HB0 := Aside0.mk (HB.out.alloc HB.out.size (.cells #[.int .i64 0, .int .i64 0, .string ⟨#[]⟩, .slice none 0 0] 29))
  have HS0 : Aside0 (RdS w0 (w.alloc (.cells #[.int .i64 0, .int .i64 0, .string ⟨#[]⟩, .slice none 0 0] 29)) g l) := ⟨by obtain ⟨A, c, h, h2⟩ := HS.out; exact ⟨A, c, blk_alloc h _, h2⟩⟩
  go_enter Try.func34, Try.ntmps34
  go_wp2_with (first | (go_at_call 36; (refine (reader_head.calls w0 _ g l hb hg HB0.out HS0.out).mono ?_); rintro e w1 ⟨rfl, p3, p4, p5⟩; rw [hh.out] at p3 ⊢; dsimp only at p3 ⊢; (have P3 := Aside0.mk p3); (have P4 := Aside0.mk p4); (have P5 := Aside0.mk p5); clear p3 p4 p5; (have B4 := Aside0.mk (blk_kept (blk_new w _) P5.out (fun e_ => Nat.ne_of_gt HGL.out e_))); (have hc0 : w1.cell? ⟨w.heap.size, 0, none⟩ = some (.int .i64 0) := (blk_cell B4.out 0).trans rfl); (have hc1 : w1.cell? ⟨w.heap.size, 1, none⟩ = some (.int .i64 0) := (blk_cell B4.out 1).trans rfl); (have hc2 : w1.cell? ⟨w.heap.size, 2, none⟩ = some (.string ⟨#[]⟩) := (blk_cell B4.out 2).trans rfl); (have hc3 : w1.cell? ⟨w.heap.size, 3, none⟩ = some (.slice none 0 0) := (blk_cell B4.out 3).trans rfl); (have hf0 := blk_frozen B4.out 0); (have hf1 := blk_frozen B4.out 1); (have hf2 := blk_frozen B4.out 2); (have hf3 := blk_frozen B4.out 3)))
  refine value_end (w := w) (ok := false) ?_ ?_ (st4_blk B4.out (.int .i64 0) (.int .i64 0) (.string ⟨#[]⟩) (.slice none 0 0)) ?_
  · rfl
  · rfl
  exact ⟨.slice none 0 0, rfl, Kd.R_nil _ _ _ _ _, RdS.kept P3.out (st4_kept (Kept.refl w1 (fun k => k = w.heap.size)) (.inl rfl) _ _ _ _) (fun e_ => Nat.ne_of_lt HGL.out e_), st4_below P4.out HB.out.size _ _ _ _, st4_kept (Kept.transE HK0.out P5.out) (.inr (Nat.le_refl _)) _ _ _ _⟩
set_option maxHeartbeats 3200000 in
set_option maxRecDepth 100000 in
theorem value_fail1 (w0 w : World) (g : Nat) (l : List Int) (m : Int) (hb : Bytes l) (hg : w0.heap.size ≤ g) (hB : Below w0.heap.size w0 w) (hs : RdS w0 w g l) (kd n : Int) (l1 : List Int) (hh : Aside0 (rheadS l = (kd, n, true, l1))) (hm : m = 0) :
    Calls Try.prog 34 #[.pointer (some ⟨g, 0, none⟩), .int .i64 m] w fun e w' => ∃ v, e = .returned (.tuple #[.agg #[.int .i64 0, .int .i64 0, .string ⟨#[]⟩, v], .bool false]) ∧ Kd.R k29 29 w' w.heap.size (fun k => w.heap.size ≤ k) v [] ∧ RdS w0 w' g l1 ∧ Below w0.heap.size w0 w' ∧ Kept w w' (fun k => k = g) := by
  have HS := Aside0.mk hs
  have HB := Aside0.mk hB
  have hgl : g < w.heap.size := by obtain ⟨A, c, h, _⟩ := hs; exact blk_lt h
  have HGL := Aside0.mk hgl
  clear hs hB hgl
  have HK0 := Aside0.mk ((Kept.refl w (fun k => k = g)).alloc (.cells #[.int .i64 0, .int .i64 0, .string ⟨#[]⟩, .slice none 0 0] 29))
  have HB0 := Aside0.mk (HB.out.alloc HB.out.size (.cells #[.int .i64 0, .int .i64 0, .string ⟨#[]⟩, .slice none 0 0] 29))
  have HS0 : Aside0 (RdS w0 (w.alloc (.cells #[.int .i64 0, .int .i64 0, .string ⟨#[]⟩, .slice none 0 0] 29)) g l) := ⟨by obtain ⟨A, c, h, h2⟩ := HS.out; exact ⟨A, c, blk_alloc h _, h2⟩⟩
  subst hm
  go_enter Try.func34, Try.ntmps34
  go_wp2_with (first | (go_at_call 36; (refine (reader_head.calls w0 _ g l hb hg HB0.out HS0.out).mono ?_); rintro e w1 ⟨rfl, p3, p4, p5⟩; rw [hh.out] at p3 ⊢; dsimp only at p3 ⊢; (have P3 := Aside0.mk p3); (have P4 := Aside0.mk p4); (have P5 := Aside0.mk p5); clear p3 p4 p5; (have B4 := Aside0.mk (blk_kept (blk_new w _) P5.out (fun e_ => Nat.ne_of_gt HGL.out e_))); (have hc0 : w1.cell? ⟨w.heap.size, 0, none⟩ = some (.int .i64 0) := (blk_cell B4.out 0).trans rfl); (have hc1 : w1.cell? ⟨w.heap.size, 1, none⟩ = some (.int .i64 0) := (blk_cell B4.out 1).trans rfl); (have hc2 : w1.cell? ⟨w.heap.size, 2, none⟩ = some (.string ⟨#[]⟩) := (blk_cell B4.out 2).trans rfl); (have hc3 : w1.cell? ⟨w.heap.size, 3, none⟩ = some (.slice none 0 0) := (blk_cell B4.out 3).trans rfl); (have hf0 := blk_frozen B4.out 0); (have hf1 := blk_frozen B4.out 1); (have hf2 := blk_frozen B4.out 2); (have hf3 := blk_frozen B4.out 3)))
  refine value_end (w := w) (ok := false) ?_ ?_ (st4_blk B4.out (.int .i64 0) (.int .i64 0) (.string ⟨#[]⟩) (.slice none 0 0)) ?_
  · rfl
  · rfl
  exact ⟨.slice none 0 0, rfl, Kd.R_nil _ _ _ _ _, RdS.kept P3.out (st4_kept (Kept.refl w1 (fun k => k = w.heap.size)) (.inl rfl) _ _ _ _) (fun e_ => Nat.ne_of_lt HGL.out e_), st4_below P4.out HB.out.size _ _ _ _, st4_kept (Kept.transE HK0.out P5.out) (.inr (Nat.le_refl _)) _ _ _ _⟩
set_option maxHeartbeats 3200000 in
set_option maxRecDepth 100000 in
theorem value_int (w0 w : World) (g : Nat) (l : List Int) (m : Int) (hb : Bytes l) (hg : w0.heap.size ≤ g) (hB : Below w0.heap.size w0 w) (hs : RdS w0 w g l) (n : Int) (l1 : List Int) (i : Int) (hh : Aside0 (rheadS l = (1, n, true, l1))) (hm : ¬ m = 0) (hi : Aside0 (codec_integer.f n = some i)) :
    Calls Try.prog 34 #[.pointer (some ⟨g, 0, none⟩), .int .i64 m] w fun e w' => ∃ v, (e = .returned (.tuple #[.agg #[.int .i64 1, .int .i64 i, .string ⟨#[]⟩, v], .bool true]) ∧ v = .slice none 0 0) ∧ Kd.R k29 29 w' w.heap.size (fun k => w.heap.size ≤ k) v [] ∧ RdS w0 w' g l1 ∧ Below w0.heap.size w0 w' ∧ Kept w w' (fun k => k = g) := by
  have HS := Aside0.mk hs
  have HB := Aside0.mk hB
  have hgl : g < w.heap.size := by obtain ⟨A, c, h, _⟩ := hs; exact blk_lt h
  have HGL := Aside0.mk hgl
  clear hs hB hgl
  have HK0 := Aside0.mk ((Kept.refl w (fun k => k = g)).alloc (.cells #[.int .i64 0, .int .i64 0, .string ⟨#[]⟩, .slice none 0 0] 29))
  have HB0 := Aside0.mk (HB.out.alloc HB.out.size (.cells #[.int .i64 0, .int .i64 0, .string ⟨#[]⟩, .slice none 0 0] 29))
  have HS0 : Aside0 (RdS w0 (w.alloc (.cells #[.int .i64 0, .int .i64 0, .string ⟨#[]⟩, .slice none 0 0] 29)) g l) := ⟨by obtain ⟨A, c, h, h2⟩ := HS.out; exact ⟨A, c, blk_alloc h _, h2⟩⟩
  have b0 : (m == 0) = false := beq_eq_false_iff_ne.2 hm
  clear hm
  go_enter Try.func34, Try.ntmps34
  go_wp2_with (first | (go_at_call 36; (refine (reader_head.calls w0 _ g l hb hg HB0.out HS0.out).mono ?_); rintro e w1 ⟨rfl, p3, p4, p5⟩; rw [hh.out] at p3 ⊢; dsimp only at p3 ⊢; (have P3 := Aside0.mk p3); (have P4 := Aside0.mk p4); (have P5 := Aside0.mk p5); clear p3 p4 p5; (have B4 := Aside0.mk (blk_kept (blk_new w _) P5.out (fun e_ => Nat.ne_of_gt HGL.out e_))); (have hc0 : w1.cell? ⟨w.heap.size, 0, none⟩ = some (.int .i64 0) := (blk_cell B4.out 0).trans rfl); (have hc1 : w1.cell? ⟨w.heap.size, 1, none⟩ = some (.int .i64 0) := (blk_cell B4.out 1).trans rfl); (have hc2 : w1.cell? ⟨w.heap.size, 2, none⟩ = some (.string ⟨#[]⟩) := (blk_cell B4.out 2).trans rfl); (have hc3 : w1.cell? ⟨w.heap.size, 3, none⟩ = some (.slice none 0 0) := (blk_cell B4.out 3).trans rfl); (have hf0 := blk_frozen B4.out 0); (have hf1 := blk_frozen B4.out 1); (have hf2 := blk_frozen B4.out 2); (have hf3 := blk_frozen B4.out 3)) | (go_at_call 37; (refine (codec_integer.calls n i _ hi.out).mono ?_); rintro e w2 ⟨rfl, ⟨nd, rfl⟩⟩; (have B9 := Aside0.mk (blk_drewN (blk_new w1 (.cells #[.int .i64 1, .int .i64 0, .string ⟨#[]⟩, .slice none 0 0] 29)) nd)); (have B4' := Aside0.mk (blk_drewN (blk_alloc B4.out (.cells #[.int .i64 1, .int .i64 0, .string ⟨#[]⟩, .slice none 0 0] 29)) nd)); (have S' : Aside0 (RdS w0 ((w1.alloc (.cells #[.int .i64 1, .int .i64 0, .string ⟨#[]⟩, .slice none 0 0] 29)).drewN nd) g l1) := ⟨by obtain ⟨A, c, h, h2⟩ := P3.out; exact ⟨A, c, blk_alloc h _, h2⟩⟩); (have L' := Aside0.mk (pw_below_drewN (P4.out.alloc P4.out.size (.cells #[.int .i64 1, .int .i64 0, .string ⟨#[]⟩, .slice none 0 0] 29)) nd)); (have K' := Aside0.mk (((Kept.transE HK0.out P5.out).alloc (.cells #[.int .i64 1, .int .i64 0, .string ⟨#[]⟩, .slice none 0 0] 29)).drewN nd)); (have N49 := Aside0.mk (Nat.ne_of_lt (blk_lt B4.out))); (have hsz := Aside0.mk (show w.heap.size ≤ w1.heap.size from Nat.le_of_lt (blk_lt B4.out))); clear hc0 hc1 hc2 hc3 hf0 hf1 hf2 hf3; generalize hb9 : w1.heap.size = b9 at B9 N49 hsz ⊢; generalize (w1.alloc (.cells #[.int .i64 1, .int .i64 0, .string ⟨#[]⟩, .slice none 0 0] 29)).drewN nd = W2 at B9 B4' S' L' K' ⊢; clear hb9; (have hc0 : W2.cell? ⟨w.heap.size, 0, none⟩ = some (.int .i64 0) := (blk_cell B4'.out 0).trans rfl); (have hc1 : W2.cell? ⟨w.heap.size, 1, none⟩ = some (.int .i64 0) := (blk_cell B4'.out 1).trans rfl); (have hc2 : W2.cell? ⟨w.heap.size, 2, none⟩ = some (.string ⟨#[]⟩) := (blk_cell B4'.out 2).trans rfl); (have hc3 : W2.cell? ⟨w.heap.size, 3, none⟩ = some (.slice none 0 0) := (blk_cell B4'.out 3).trans rfl); (have hf0 := blk_frozen B4'.out 0); (have hf1 := blk_frozen B4'.out 1); (have hf2 := blk_frozen B4'.out 2); (have hf3 := blk_frozen B4'.out 3); (have hd0 : W2.cell? ⟨b9, 0, none⟩ = some (.int .i64 1) := (blk_cell B9.out 0).trans rfl); (have hd1 : W2.cell? ⟨b9, 1, none⟩ = some (.int .i64 0) := (blk_cell B9.out 1).trans rfl); (have hd2 : W2.cell? ⟨b9, 2, none⟩ = some (.string ⟨#[]⟩) := (blk_cell B9.out 2).trans rfl); (have hd3 : W2.cell? ⟨b9, 3, none⟩ = some (.slice none 0 0) := (blk_cell B9.out 3).trans rfl); (have hg1 := blk_frozen B9.out 1); (have hn1 := N49.out); (have hn2 := N49.out.symm)))
  have B4s := blk_far B4'.out (p := ⟨b9, 1, none⟩) N49.out (.int .i64 i)
  refine value_end (w := w) (ok := true) ?_ ?_ (st4_blk B4s (.int .i64 1) (.int .i64 i) (.string ⟨#[]⟩) (.slice none 0 0)) ?_
  · rfl
  · rfl
  exact ⟨.slice none 0 0, ⟨rfl, rfl⟩, Kd.R_nil _ _ _ _ _, RdS.kept S'.out (st4_kept ((Kept.refl W2 (fun k => k = w.heap.size ∨ k = b9)).setCell (p := ⟨b9, 1, none⟩) (.inl (.inr rfl)) _) (.inl (.inl rfl)) _ _ _ _) (fun e_ => by have := HGL.out; have := hsz.out; rcases e_ with e_ | e_ <;> omega), st4_below (L'.out.setCell (p := ⟨b9, 1, none⟩) (Nat.le_trans HB.out.size hsz.out) _) HB.out.size _ _ _ _, st4_kept (K'.out.setCell (p := ⟨b9, 1, none⟩) (.inr hsz.out) _) (.inr (Nat.le_refl _)) _ _ _ _⟩
theorem st4_far {W : World} {b g t : Nat} {cs : Array Value} (h : W.heap[g]? = some (.cells cs t (0, 0))) (hne : g ≠ b) (v0 v1 v2 v3 : Value) : (st4 W b v0 v1 v2 v3).heap[g]? = some (.cells cs t (0, 0)) := blk_far (blk_far (blk_far (blk_far h (p := ⟨b, 0, none⟩) hne v0) (p := ⟨b, 1, none⟩) hne v1) (p := ⟨b, 2, none⟩) hne v2) (p := ⟨b, 3, none⟩) hne v3
theorem next_end {w W : World} {v0 v1 v2 v3 v4 : Value} {e : Int} {tm : Array Value} {R : Ending → World → Prop} (ht : tm[2]? = some (.pointer (some ⟨w.heap.size, 0, none⟩))) (ht5 : tm[3]? = some v4) (ht6 : tm[4]? = some (.int .i64 e)) (hb : W.heap[w.heap.size]? = some (.cells #[v0, v1, v2, v3] 29 (0, 0)))
    (h : R (.returned (.tuple #[.agg #[v0, v1, v2, v3], v4, .int .i64 e])) W) : bodyPost Try.prog Try.f26 R .ret { tmps := tm, defers := [] } W := by
  have g0 : W.cell? ⟨w.heap.size, 0, none⟩ = some v0 := (blk_cell hb 0).trans rfl
  have g1 : W.cell? ⟨w.heap.size, 1, none⟩ = some v1 := (blk_cell hb 1).trans rfl
  have g2 : W.cell? ⟨w.heap.size, 2, none⟩ = some v2 := (blk_cell hb 2).trans rfl
  have g3 : W.cell? ⟨w.heap.size, 3, none⟩ = some v3 := (blk_cell hb 3).trans rfl
  refine bodyPost_ret (v := .tuple #[.agg #[v0, v1, v2, v3], v4, .int .i64 e]) ?hv rfl h
  case hv =>
    simp [results, Try.f26, go_sem, g0, g1, g2, g3, ht, ht5, ht6]
set_option maxHeartbeats 3200000 in
set_option maxRecDepth 100000 in
theorem next_int (w : World) (A : Option Addr) (c : Nat) (l : List Int) (hr : (Kd.int .u8).C w A l.length l) (hc : l.length ≤ c) (hb : Bytes l) (n : Int) (i : Int) (l1 : List Int) (hlen : l1.length ≤ 1048576) (hh : Aside0 (rheadS l = (1, n, true, l1))) (hi : Aside0 (codec_integer.f n = some i)) :
    Calls Try.prog 26 #[.slice A l.length c] w fun e w' => ∃ v4, e = .returned (.tuple #[.agg #[.int .i64 1, .int .i64 i, .string ⟨#[]⟩, .slice none 0 0], v4, .int .i64 0]) ∧ Kd.R (Kd.int .u8) 5 w' w.heap.size (fun _ => True) v4 l1 ∧ Below w.heap.size w w' := by
  have HR := Aside0.mk hr
  have HC := Aside0.mk hc
  have HLEN := Aside0.mk hlen
  clear hlen
  clear hr hc
  have W1 := Aside0.mk (show Below w.heap.size w ((w.alloc (.cells #[.int .i64 0, .int .i64 0, .string ⟨#[]⟩, .slice none 0 0] 29)).alloc (.cells #[.slice A l.length c] 64)) from ((Below.refl _ w).alloc (Nat.le_refl _) _).alloc (by simp) _)
  have S1 : Aside0 (RdS w ((w.alloc (.cells #[.int .i64 0, .int .i64 0, .string ⟨#[]⟩, .slice none 0 0] 29)).alloc (.cells #[.slice A l.length c] 64)) (w.heap.size + 1) l) := ⟨⟨A, c, by have h := blk_new (w.alloc (.cells #[.int .i64 0, .int .i64 0, .string ⟨#[]⟩, .slice none 0 0] 29)) (.cells #[.slice A l.length c] 64); rw [World.size_alloc] at h; exact h, HR.out, HC.out⟩⟩
  have B2 := Aside0.mk (blk_alloc (blk_new w (.cells #[.int .i64 0, .int .i64 0, .string ⟨#[]⟩, .slice none 0 0] 29)) (.cells #[.slice A l.length c] 64))
  go_enter Try.func26, Try.ntmps26
  go_wp2_with (first | (go_at_call 34; (refine (value_int w _ (w.heap.size + 1) l 64 hb (by omega) W1.out S1.out n l1 i hh (by omega) hi).mono ?_); rintro e w2 ⟨v, ⟨rfl, rfl⟩, hv, p1, p2, p3⟩; clear hv; (have P1 := Aside0.mk p1); (have P2 := Aside0.mk p2); (have P3 := Aside0.mk p3)))
  obtain ⟨A2, c2, hbg, hCg, hcg⟩ := P1.out
  have B6 := Aside0.mk (blk_new w2 (.cells #[.int .i64 1, .int .i64 i, .string ⟨#[]⟩, .slice none 0 0] 29))
  have BG := Aside0.mk (blk_alloc hbg (.cells #[.int .i64 1, .int .i64 i, .string ⟨#[]⟩, .slice none 0 0] 29))
  have BZ := Aside0.mk (blk_alloc (blk_kept B2.out P3.out (fun e_ => by omega)) (.cells #[.int .i64 1, .int .i64 i, .string ⟨#[]⟩, .slice none 0 0] 29))
  have HB3 := Aside0.mk (P2.out.alloc P2.out.size (.cells #[.int .i64 1, .int .i64 i, .string ⟨#[]⟩, .slice none 0 0] 29))
  have N6 := Aside0.mk (show w.heap.size ≠ w2.heap.size from by have := blk_lt hbg; omega)
  have HCG := Aside0.mk hCg
  clear hbg hcg hCg
  generalize hb6 : w2.heap.size = b6 at B6 N6 ⊢
  generalize w2.alloc (.cells #[.int .i64 1, .int .i64 i, .string ⟨#[]⟩, .slice none 0 0] 29) = W3 at B6 BG BZ HB3 ⊢
  clear hb6
  have n0_ := Aside0.mk (blk_drew B6.out)
  have n1_ := Aside0.mk (blk_drew BG.out)
  have n2_ := Aside0.mk (blk_drew BZ.out)
  have n3_ := Aside0.mk (below_drew1 HB3.out)
  clear B6 BG BZ HB3
  have B6 := n0_
  have BG := n1_
  have BZ := n2_
  have HB3 := n3_
  clear n0_ n1_ n2_ n3_
  refine start_ (n := 10) (S := fun w' => w'.cell? ⟨w.heap.size + 1, 0, none⟩ = some (.slice A2 l1.length c2) ∧ w'.cell? ⟨b6, 0, none⟩ = some (.int .i64 1) ∧ w'.cell? ⟨b6, 1, none⟩ = some (.int .i64 i) ∧ w'.cell? ⟨b6, 2, none⟩ = some (.string ⟨#[]⟩) ∧ w'.cell? ⟨b6, 3, none⟩ = some (.slice none 0 0)) (ds := []) #[false, false, false, false, false, false, false, false, false, false] (by kernel_rfl) rfl rfl ⟨(blk_cell BG.out 0).trans rfl, (blk_cell B6.out 0).trans rfl, (blk_cell B6.out 1).trans rfl, (blk_cell B6.out 2).trans rfl, (blk_cell B6.out 3).trans rfl⟩ (fun hHeld => ?_)
  generalize W3.drew = W4 at B6 BG BZ HB3 hHeld ⊢
  refine pure_ (i := 2) (N := some 21) (v := ?_) (a' := ?_) #[false, false, true, false, false, false, false, false, false, false] rfl rfl (by kernel_rfl) (fun _ _ _ h => h) (Or.inl ⟨by rfl, ?_⟩) ?_ ?_
  rotate_left
  · intro w'
    go_simp
    with_reducible rfl
  rotate_left
  · simp only [Act.put, List.setIfInBounds_toArray, List.set_cons_zero, List.set_cons_succ, i64_w, i32_w]
    rfl
  refine pure_ (i := 3) (N := some 22) (v := ?_) (a' := ?_) #[false, false, true, true, false, false, false, false, false, false] rfl rfl (by kernel_rfl) (fun _ _ _ h => h) (Or.inl ⟨by rfl, ?_⟩) ?_ ?_
  rotate_left
  · intro w'
    go_simp
    with_reducible rfl
  rotate_left
  · simp only [Act.put, List.setIfInBounds_toArray, List.set_cons_zero, List.set_cons_succ, i64_w, i32_w]
    rfl
  refine pure_ (i := 4) (N := some 23) (v := ?_) (a' := ?_) #[false, false, true, true, true, false, false, false, false, false] rfl rfl (by kernel_rfl) (fun _ _ _ h => h) (Or.inl ⟨by rfl, ?_⟩) ?_ ?_
  rotate_left
  · intro w'
    go_simp
    with_reducible rfl
  rotate_left
  · simp only [Act.put, List.setIfInBounds_toArray, List.set_cons_zero, List.set_cons_succ, i64_w, i32_w]
    rfl
  refine take_ (i := 0) (N := some 19) (v := ?_) (a' := ?_) #[true, false, true, true, true, false, false, false, false, false] rfl rfl (by kernel_rfl) (fun _ _ _ h => h) (Or.inl ⟨by rfl, ?_⟩) hHeld ?_ ?_
  rotate_left
  · rintro w' ⟨s0, s1, s2, s3, s4⟩
    go_simp
    with_reducible rfl
  rotate_left
  · simp only [Act.put, List.setIfInBounds_toArray, List.set_cons_zero, List.set_cons_succ, i64_w, i32_w]
    rfl
  refine take_ (i := 5) (N := some 24) (v := ?_) (a' := ?_) #[true, false, true, true, true, true, false, false, false, false] rfl rfl (by kernel_rfl) (fun _ _ _ h => h) (Or.inl ⟨by rfl, ?_⟩) hHeld ?_ ?_
  rotate_left
  · rintro w' ⟨s0, s1, s2, s3, s4⟩
    go_simp
    with_reducible rfl
  rotate_left
  · simp only [Act.put, List.setIfInBounds_toArray, List.set_cons_zero, List.set_cons_succ, i64_w, i32_w]
    rfl
  refine one_ (i := 1) (N := some 20) #[true, true, true, true, true, true, false, false, false, false] rfl rfl (by kernel_rfl) (by decide) (fun K hK => ?_)
  refine Kd.R_lit_step (Kd.int .u8) (w0 := w) w.heap.size 5 (by rfl) (N := 20) rfl (xs := ([] : List Int)) (inner := []) (ok := fun k => k ≠ w.heap.size ∧ k ≠ w.heap.size + 1 ∧ k ≠ b6) (okp := fun k => k ≠ w.heap.size ∧ k ≠ w.heap.size + 1 ∧ k ≠ b6) ?hr ?hp (fun _ hk => hk) ?hf HB3.out HB3.out.size (by simp) ?_
  (case hr => first | (go_simp; done) | (go_simp; rfl))
  (case hp => exact (Reps.none _ _))
  (case hf => have h1 := blk_lt B6.out; have h2 := blk_lt BG.out; have h3 := blk_lt BZ.out; exact ⟨by omega, by omega, by omega⟩)
  intro v20 W5 ho hb hgr _
  have n0_ := Aside0.mk (blk_grown B6.out hgr (by simp))
  have n1_ := Aside0.mk (blk_grown BG.out hgr (by simp))
  have n2_ := Aside0.mk (blk_grown BZ.out hgr (by simp))
  have n3_ := Aside0.mk hb
  have HO := Aside0.mk ho
  clear B6 BG BZ HB3 ho hb hgr
  have B6 := n0_
  have BG := n1_
  have BZ := n2_
  have HB3 := n3_
  clear n0_ n1_ n2_ n3_
  refine hK.out _ _ ⟨(blk_cell BG.out 0).trans rfl, (blk_cell B6.out 0).trans rfl, (blk_cell B6.out 1).trans rfl, (blk_cell B6.out 2).trans rfl, (blk_cell B6.out 3).trans rfl⟩ (fun hHeld => ?_)
  clear hK K
  refine norm_ (a' := ?_) ?_ ?_
  rotate_left
  · show Act.put _ (some 20) _ = _
    simp only [Act.put, List.setIfInBounds_toArray, List.set_cons_zero, List.set_cons_succ, i64_w, i32_w]
    rfl
  refine one_ (i := 6) (N := some 25) #[true, true, true, true, true, true, true, false, false, false] rfl rfl (by kernel_rfl) (by decide) (fun K hK => ?_)
  refine Kd.R_append_rows_step (Kd.int .u8) (w0 := w) w.heap.size (by rfl) (.tmp 20) (.tmp 24) 31 5 (.int .u8 0) 1 rfl Try.underlying31 info5 rfl (by decide) (by omega) v20 [] l1 A2 l1.length c2 (fun k => k ≠ w.heap.size ∧ k ≠ w.heap.size + 1 ∧ k ≠ b6) (fun _ => False) rfl rfl HO.out ?aR (fun _ _ h => h) (fun _ h => h.elim) ?aF HB3.out HB3.out.size ?aL ?_
  (case aR => exact Kd.C_below HCG.out HB3.out)
  (case aF => intro k hk; have h1 := blk_lt B6.out; have h2 := blk_lt BG.out; have h3 := blk_lt BZ.out; exact ⟨by omega, by omega, by omega⟩)
  (case aL => have := HLEN.out; simp only [List.length_nil]; omega)
  intro v25 W6 ho hb hgr hat
  have n0_ := Aside0.mk (blk_grown B6.out hgr (Kd.R_away HO.out (fun _ hk => hk.2.2)))
  have n1_ := Aside0.mk (blk_grown BG.out hgr (Kd.R_away HO.out (fun _ hk => hk.2.1)))
  have n2_ := Aside0.mk (blk_grown BZ.out hgr (Kd.R_away HO.out (fun _ hk => hk.1)))
  have n3_ := Aside0.mk hb
  rw [List.nil_append] at ho
  have n4_ := Aside0.mk ho
  clear B6 BG BZ HB3 HO ho hb hgr hat
  have B6 := n0_
  have BG := n1_
  have BZ := n2_
  have HB3 := n3_
  have HO := n4_
  clear n0_ n1_ n2_ n3_ n4_
  refine hK.out _ _ ⟨(blk_cell BG.out 0).trans rfl, (blk_cell B6.out 0).trans rfl, (blk_cell B6.out 1).trans rfl, (blk_cell B6.out 2).trans rfl, (blk_cell B6.out 3).trans rfl⟩ (fun hHeld => ?_)
  clear hK K
  refine norm_ (a' := ?_) ?_ ?_
  rotate_left
  · show Act.put _ (some 25) _ = _
    simp only [Act.put, List.setIfInBounds_toArray, List.set_cons_zero, List.set_cons_succ, i64_w, i32_w]
    rfl
  refine one_ (i := 7) (N := none) #[true, true, true, true, true, true, true, true, false, false] rfl rfl (by kernel_rfl) (by decide) (fun K hK => ?_)
  have hz0 : W6.cell? ⟨w.heap.size, 0, none⟩ = some (.int .i64 0) := (blk_cell BZ.out 0).trans rfl
  have hz1 : W6.cell? ⟨w.heap.size, 1, none⟩ = some (.int .i64 0) := (blk_cell BZ.out 1).trans rfl
  have hz2 : W6.cell? ⟨w.heap.size, 2, none⟩ = some (.string ⟨#[]⟩) := (blk_cell BZ.out 2).trans rfl
  have hz3 : W6.cell? ⟨w.heap.size, 3, none⟩ = some (.slice none 0 0) := (blk_cell BZ.out 3).trans rfl
  have hf0 := blk_frozen BZ.out 0
  have hf1 := blk_frozen BZ.out 1
  have hf2 := blk_frozen BZ.out 2
  have hf3 := blk_frozen BZ.out 3
  refine skip_ (w1 := st4 W6 w.heap.size (.int .i64 1) (.int .i64 i) (.string ⟨#[]⟩) (.slice none 0 0)) (by rfl) rfl ?_ ?_
  · unfold st4
    go_simp
  have n0_ := Aside0.mk (st4_far B6.out N6.out.symm (.int .i64 1) (.int .i64 i) (.string ⟨#[]⟩) (.slice none 0 0))
  have n1_ := Aside0.mk (st4_far BG.out (show w.heap.size + 1 ≠ w.heap.size by omega) (.int .i64 1) (.int .i64 i) (.string ⟨#[]⟩) (.slice none 0 0))
  have n2_ := Aside0.mk (st4_blk BZ.out (.int .i64 1) (.int .i64 i) (.string ⟨#[]⟩) (.slice none 0 0))
  have n3_ := Aside0.mk (st4_below HB3.out (Nat.le_refl _) (.int .i64 1) (.int .i64 i) (.string ⟨#[]⟩) (.slice none 0 0))
  have n4_ := Aside0.mk (Kd.R_kept HO.out (st4_kept (Kept.refl W6 (fun k => k = w.heap.size)) (.inl rfl) (.int .i64 1) (.int .i64 i) (.string ⟨#[]⟩) (.slice none 0 0)) (fun k hk e_ => hk.1 e_))
  clear hz0 hz1 hz2 hz3 hf0 hf1 hf2 hf3 B6 BG BZ HB3 HO
  have B6 := n0_
  have BG := n1_
  have BZ := n2_
  have HB3 := n3_
  have HO := n4_
  clear n0_ n1_ n2_ n3_ n4_
  refine hK.out _ _ ⟨(blk_cell BG.out 0).trans rfl, (blk_cell B6.out 0).trans rfl, (blk_cell B6.out 1).trans rfl, (blk_cell B6.out 2).trans rfl, (blk_cell B6.out 3).trans rfl⟩ (fun hHeld => ?_)
  clear hK K
  generalize st4 W6 w.heap.size (.int .i64 1) (.int .i64 i) (.string ⟨#[]⟩) (.slice none 0 0) = W7 at B6 BG BZ HB3 HO hHeld ⊢
  refine pure_ (i := 8) (N := some 3) (v := ?_) (a' := ?_) #[true, true, true, true, true, true, true, true, true, false] rfl rfl (by kernel_rfl) (fun _ _ _ h => h) (Or.inl ⟨by rfl, ?_⟩) ?_ ?_
  rotate_left
  · intro w'
    go_simp
    with_reducible rfl
  rotate_left
  · simp only [Act.put, List.setIfInBounds_toArray, List.set_cons_zero, List.set_cons_succ, i64_w, i32_w]
    rfl
  refine pure_ (i := 9) (N := some 4) (v := ?_) (a' := ?_) #[true, true, true, true, true, true, true, true, true, true] rfl rfl (by kernel_rfl) (fun _ _ _ h => h) (Or.inl ⟨by rfl, ?_⟩) ?_ ?_
  rotate_left
  · intro w'
    go_simp
    with_reducible rfl
  rotate_left
  · simp only [Act.put, List.setIfInBounds_toArray, List.set_cons_zero, List.set_cons_succ, i64_w, i32_w]
    rfl
  refine done_ (by kernel_rfl) ?_
  try go_wp2
  refine next_end (w := w) (v4 := v25) (e := 0) ?_ ?_ ?_ BZ.out ?_
  · rfl
  · rfl
  · rfl
  exact ⟨v25, rfl, Kd.R_mono HO.out (fun _ _ => trivial), HB3.out⟩
theorem decode_end {w W : World} {v0 v1 v2 v3 : Value} {e : Int} {tm : Array Value} {R : Ending → World → Prop} (ht : tm[2]? = some (.pointer (some ⟨w.heap.size, 0, none⟩))) (ht5 : tm[3]? = some (.int .i64 e)) (hb : W.heap[w.heap.size]? = some (.cells #[v0, v1, v2, v3] 29 (0, 0)))
    (h : R (.returned (.tuple #[.agg #[v0, v1, v2, v3], .int .i64 e])) W) : bodyPost Try.prog Try.f22 R .ret { tmps := tm, defers := [] } W := by
  have g0 : W.cell? ⟨w.heap.size, 0, none⟩ = some v0 := (blk_cell hb 0).trans rfl
  have g1 : W.cell? ⟨w.heap.size, 1, none⟩ = some v1 := (blk_cell hb 1).trans rfl
  have g2 : W.cell? ⟨w.heap.size, 2, none⟩ = some v2 := (blk_cell hb 2).trans rfl
  have g3 : W.cell? ⟨w.heap.size, 3, none⟩ = some v3 := (blk_cell hb 3).trans rfl
  refine bodyPost_ret (v := .tuple #[.agg #[v0, v1, v2, v3], .int .i64 e]) ?hv rfl h
  case hv =>
    simp [results, Try.f22, go_sem, g0, g1, g2, g3, ht, ht5]
/-- Decode, where the bytes are those of an integer and nothing is left. -/
def codec_Decode.f (l0 : List Int) : Option (Int × Int × ByteArray × List S29 × Int) :=
  if l0.all (fun x => decide (0 ≤ x ∧ x < 256)) = true ∧ l0.length ≤ 1048576 ∧ (rheadS l0).1 = 1 ∧ (rheadS l0).2.2.1 = true ∧ (rheadS l0).2.2.2 = [] then (codec_integer.f (rheadS l0).2.1).bind fun i => some (1, i, ⟨#[]⟩, [], 0) else none
set_option maxHeartbeats 3200000 in
set_option maxRecDepth 100000 in
theorem codec_Decode.calls (A0 : Option Addr) (c0 : Nat) (l0 : List Int) (r1 : Int) (r2 : Int) (r3 : ByteArray) (r4 : List (S29)) (r5 : Int) (w : World) (hr0 : Kd.C (Kd.int .u8) w A0 l0.length l0) (hc0 : l0.length ≤ c0) (h : codec_Decode.f l0 = some (r1, r2, r3, r4, r5)) :
    Calls Try.prog 22 #[.slice A0 l0.length c0] w fun e w' => ∃ v3_ : Value, e = .returned (.tuple #[.agg #[.int .i64 r1, .int .i64 r2, .string r3, v3_], .int .i64 r5]) ∧ Kd.R k29 29 w' w.heap.size (fun _ => True) v3_ r4 ∧ Below w.heap.size w w' := by
  unfold codec_Decode.f at h
  split at h
  case isFalse => cases h
  case isTrue hcond =>
    obtain ⟨hall, hlen, h1, h2, h3⟩ := hcond
    obtain ⟨i, hi, hret⟩ := Option.bind_eq_some_iff.1 h
    simp only [Option.some.injEq, Prod.mk.injEq] at hret
    obtain ⟨rfl, rfl, rfl, rfl, rfl⟩ := hret
    have hb : Bytes l0 := fun x hx => of_decide_eq_true (List.all_eq_true.1 hall x hx)
    have hh : Aside0 (rheadS l0 = (1, (rheadS l0).2.1, true, [])) := ⟨by rw [← h3, ← h2, ← h1]⟩
    have HI := Aside0.mk hi
    have HR := Aside0.mk hr0
    have HC := Aside0.mk hc0
    have b0 : decide ((l0.length : Int) > 1048576) = false := decide_eq_false (by omega)
    have b1 : decide ((1048576 : Int) < (l0.length : Int)) = false := decide_eq_false (by omega)
    have b2 : ((1048576 : Int) < (l0.length : Int)) = False := eq_false (by omega)
    clear h hall h1 h2 h3 hi hr0 hc0 hlen
    go_enter Try.func22, Try.ntmps22
    go_wp2_with (first | (go_at_call 26; (refine (next_int _ A0 c0 l0 (Kd.C_below HR.out ((Below.refl _ w).alloc (Nat.le_refl _) _)) HC.out hb (rheadS l0).2.1 i [] (by simp) hh HI).mono ?_); rintro e w2 ⟨v4, rfl, hv, p1⟩; obtain ⟨A4, c4, rfl⟩ := Kd.R_slice hv; (have P1 := Aside0.mk p1); clear hv p1; (have BZ := Aside0.mk (blk_below (blk_new w (.cells #[.int .i64 0, .int .i64 0, .string ⟨#[]⟩, .slice none 0 0] 29)) P1.out)); (have N2 := Aside0.mk (Nat.ne_of_lt (blk_lt BZ.out))); (have BY := Aside0.mk (blk_alloc BZ.out (.cells #[.int .i64 1, .int .i64 i, .string ⟨#[]⟩, .slice none 0 0] 29))); (have hz0 : (w2.alloc (.cells #[.int .i64 1, .int .i64 i, .string ⟨#[]⟩, .slice none 0 0] 29)).cell? ⟨w.heap.size, 0, none⟩ = some (.int .i64 0) := (blk_cell BY.out 0).trans rfl); (have hz1 : (w2.alloc (.cells #[.int .i64 1, .int .i64 i, .string ⟨#[]⟩, .slice none 0 0] 29)).cell? ⟨w.heap.size, 1, none⟩ = some (.int .i64 0) := (blk_cell BY.out 1).trans rfl); (have hz2 : (w2.alloc (.cells #[.int .i64 1, .int .i64 i, .string ⟨#[]⟩, .slice none 0 0] 29)).cell? ⟨w.heap.size, 2, none⟩ = some (.string ⟨#[]⟩) := (blk_cell BY.out 2).trans rfl); (have hz3 : (w2.alloc (.cells #[.int .i64 1, .int .i64 i, .string ⟨#[]⟩, .slice none 0 0] 29)).cell? ⟨w.heap.size, 3, none⟩ = some (.slice none 0 0) := (blk_cell BY.out 3).trans rfl); (have hf0 := blk_frozen BY.out 0); (have hf1 := blk_frozen BY.out 1); (have hf2 := blk_frozen BY.out 2); (have hf3 := blk_frozen BY.out 3); (have hlt_ := Aside0.mk (blk_lt BZ.out))))
    refine decode_end (w := w) (e := 0) ?_ ?_ (st4_blk BY.out (.int .i64 1) (.int .i64 i) (.string ⟨#[]⟩) (.slice none 0 0)) ?_
    · rfl
    · rfl
    exact ⟨.slice none 0 0, rfl, Kd.R_nil _ _ _ _ _, st4_below ((((Below.refl _ w).alloc (Nat.le_refl _) _).trans (P1.out.mono (by simp))).alloc (Nat.le_of_lt hlt_.out) _) (Nat.le_refl _) _ _ _ _⟩

/-! ### vinculumref03_Number: function 25 -/
def vinculumref03_Number.f (a0_0 : Int) (a0_1 : Int) (a0_2 : ByteArray) (l0_3 : List (S24)) : Option (Int) := if a0_0 = 2 then (some (IntKind.u64.wrap ((a0_2.size : Int)))) else (if a0_0 = 3 then (some (IntKind.u64.wrap ((l0_3.length : Int)))) else (if a0_1 < 0 then (some (IntKind.u64.wrap ((IntKind.u64.wrap (2 * (IntKind.u64.wrap (wrap64 (-(wrap64 (a0_1 + 1))))))) + 1))) else (some (IntKind.u64.wrap (2 * (IntKind.u64.wrap (a0_1)))))))
set_option maxHeartbeats 8000000 in
set_option maxRecDepth 100000 in
theorem vinculumref03_Number.calls (a0_0 : Int) (a0_1 : Int) (a0_2 : ByteArray) (A0_3 : Option Addr) (c0_3 : Nat) (l0_3 : List (S24)) (r : Int) (w : World) (hr0_3 : Kd.C k24 w A0_3 l0_3.length l0_3) (hc0_3 : l0_3.length ≤ c0_3) (h : vinculumref03_Number.f a0_0 a0_1 a0_2 l0_3 = some r) :
    Calls Try.prog 25 #[.agg #[.int .i64 a0_0, .int .i64 a0_1, .string a0_2, .slice A0_3 l0_3.length c0_3]] w fun e w' => e = .returned (.int .u64 r) ∧ Below w.heap.size w w' := by
  have hu24 := Try.underlying24
  have HR0_3 := Aside0.mk hr0_3
  have HC0_3 := Aside0.mk hc0_3
  clear hr0_3 hc0_3
  have HB := Aside0.mk (Below.refl w.heap.size w)
  have H : (if a0_0 = 2 then (some (IntKind.u64.wrap ((a0_2.size : Int)))) else (if a0_0 = 3 then (some (IntKind.u64.wrap ((l0_3.length : Int)))) else (if a0_1 < 0 then (some (IntKind.u64.wrap ((IntKind.u64.wrap (2 * (IntKind.u64.wrap (wrap64 (-(wrap64 (a0_1 + 1))))))) + 1))) else (some (IntKind.u64.wrap (2 * (IntKind.u64.wrap (a0_1)))))))) = some r := h
  clear h
  by_cases c2 : a0_0 = 2
  · rw [if_pos c2] at H
    have c2b0 : (a0_0 == 2) = true := beq_iff_eq.mpr c2
    have c2b1 : (a0_0 != 2) = false := bne_eq_false_iff_eq.mpr c2
    clear c2
    obtain rfl := Option.some.inj H
    go_enter Try.func25, Try.ntmps25
    go_wp2_with (first | ((with_reducible refine gate_dst (N := 1) rfl ?_); refine box_event ?hg (N := 1) ?hd (cs := #[.int .i64 a0_0, .int .i64 a0_1, .string a0_2, .slice A0_3 l0_3.length c0_3]) (t := 24) ?hr ?_; (case hd => rfl); (case hg => rfl); (case hr => first | (go_simp; done) | (go_simp; rfl)); intro gb126 hg w3 hbox hb; have n0_ := Aside0.mk (below_step (by repeat (first | (with_reducible first | exact HB.out | apply below_alloc | apply pw_below_drewN | apply below_drew1) | exact HB.out)) hb); have n1_ := Aside0.mk (hbox); have n2_ := Aside0.mk ((by rw [hg]; exact (below_size (by repeat (first | (with_reducible first | exact HB.out | apply below_alloc | apply pw_below_drewN | apply below_drew1) | exact HB.out))) : w.heap.size ≤ gb126)); have n3_ := Aside0.mk ((by rw [hg]; exact (below_size (by repeat (first | (with_reducible first | exact HB.out | apply below_alloc | apply pw_below_drewN | apply below_drew1) | exact HB.out))) : w.heap.size ≤ gb126)); clear HB; have HB := n0_; have BK126 := n1_; have GW126 := n2_; have GE126 := n3_; clear n0_ n1_ n2_ n3_; clear hb hbox hg; have hcz4_0 : w3.cell? ⟨gb126, 0, none⟩ = some (.int .i64 a0_0) := (blk_cell BK126.out 0).trans rfl; have hcz4_1 : w3.cell? ⟨gb126, 1, none⟩ = some (.int .i64 a0_1) := (blk_cell BK126.out 1).trans rfl; have hcz4_2 : w3.cell? ⟨gb126, 2, none⟩ = some (.string a0_2) := (blk_cell BK126.out 2).trans rfl; have hcz4_3 : w3.cell? ⟨gb126, 3, none⟩ = some (.slice A0_3 l0_3.length c0_3) := (blk_cell BK126.out 3).trans rfl; have hfz4_0 := blk_frozen BK126.out 0; have hfz4_1 := blk_frozen BK126.out 1; have hfz4_2 := blk_frozen BK126.out 2; have hfz4_3 := blk_frozen BK126.out 3))
    go_ret
    exact ⟨by first | rfl | (simp [errW_none, errW_some] <;> rfl) | (simp [*, errW_none, errW_some] <;> rfl), by repeat (first | (with_reducible first | exact HB.out | apply below_alloc | apply pw_below_drewN | apply below_drew1 | refine below_set ?_ GE126.out) | exact HB.out)⟩
  · rw [if_neg c2] at H
    have c2b0 : (a0_0 == 2) = false := beq_eq_false_iff_ne.mpr c2
    have c2b1 : (a0_0 != 2) = true := bne_iff_ne.mpr c2
    by_cases c5 : a0_0 = 3
    · rw [if_pos c5] at H
      have c5b0 : (a0_0 == 3) = true := beq_iff_eq.mpr c5
      have c5b1 : (a0_0 != 3) = false := bne_eq_false_iff_eq.mpr c5
      clear c5
      obtain rfl := Option.some.inj H
      go_enter Try.func25, Try.ntmps25
      go_wp2_with (first | ((with_reducible refine gate_dst (N := 1) rfl ?_); refine box_event ?hg (N := 1) ?hd (cs := #[.int .i64 a0_0, .int .i64 a0_1, .string a0_2, .slice A0_3 l0_3.length c0_3]) (t := 24) ?hr ?_; (case hd => rfl); (case hg => rfl); (case hr => first | (go_simp; done) | (go_simp; rfl)); intro gb126 hg w6 hbox hb; have n0_ := Aside0.mk (below_step (by repeat (first | (with_reducible first | exact HB.out | apply below_alloc | apply pw_below_drewN | apply below_drew1) | exact HB.out)) hb); have n1_ := Aside0.mk (hbox); have n2_ := Aside0.mk ((by rw [hg]; exact (below_size (by repeat (first | (with_reducible first | exact HB.out | apply below_alloc | apply pw_below_drewN | apply below_drew1) | exact HB.out))) : w.heap.size ≤ gb126)); have n3_ := Aside0.mk ((by rw [hg]; exact (below_size (by repeat (first | (with_reducible first | exact HB.out | apply below_alloc | apply pw_below_drewN | apply below_drew1) | exact HB.out))) : w.heap.size ≤ gb126)); clear HB; have HB := n0_; have BK126 := n1_; have GW126 := n2_; have GE126 := n3_; clear n0_ n1_ n2_ n3_; clear hb hbox hg; have hcz7_0 : w6.cell? ⟨gb126, 0, none⟩ = some (.int .i64 a0_0) := (blk_cell BK126.out 0).trans rfl; have hcz7_1 : w6.cell? ⟨gb126, 1, none⟩ = some (.int .i64 a0_1) := (blk_cell BK126.out 1).trans rfl; have hcz7_2 : w6.cell? ⟨gb126, 2, none⟩ = some (.string a0_2) := (blk_cell BK126.out 2).trans rfl; have hcz7_3 : w6.cell? ⟨gb126, 3, none⟩ = some (.slice A0_3 l0_3.length c0_3) := (blk_cell BK126.out 3).trans rfl; have hfz7_0 := blk_frozen BK126.out 0; have hfz7_1 := blk_frozen BK126.out 1; have hfz7_2 := blk_frozen BK126.out 2; have hfz7_3 := blk_frozen BK126.out 3))
      go_ret
      exact ⟨by first | rfl | (simp [errW_none, errW_some] <;> rfl) | (simp [*, errW_none, errW_some] <;> rfl), by repeat (first | (with_reducible first | exact HB.out | apply below_alloc | apply pw_below_drewN | apply below_drew1 | refine below_set ?_ GE126.out) | exact HB.out)⟩
    · rw [if_neg c5] at H
      have c5b0 : (a0_0 == 3) = false := beq_eq_false_iff_ne.mpr c5
      have c5b1 : (a0_0 != 3) = true := bne_iff_ne.mpr c5
      by_cases c8 : a0_1 < 0
      · rw [if_pos c8] at H
        have c8b0 : decide (a0_1 < 0) = true := decide_eq_true c8
        clear c8
        obtain rfl := Option.some.inj H
        go_enter Try.func25, Try.ntmps25
        go_wp2_with (first | ((with_reducible refine gate_dst (N := 1) rfl ?_); refine box_event ?hg (N := 1) ?hd (cs := #[.int .i64 a0_0, .int .i64 a0_1, .string a0_2, .slice A0_3 l0_3.length c0_3]) (t := 24) ?hr ?_; (case hd => rfl); (case hg => rfl); (case hr => first | (go_simp; done) | (go_simp; rfl)); intro gb126 hg w9 hbox hb; have n0_ := Aside0.mk (below_step (by repeat (first | (with_reducible first | exact HB.out | apply below_alloc | apply pw_below_drewN | apply below_drew1) | exact HB.out)) hb); have n1_ := Aside0.mk (hbox); have n2_ := Aside0.mk ((by rw [hg]; exact (below_size (by repeat (first | (with_reducible first | exact HB.out | apply below_alloc | apply pw_below_drewN | apply below_drew1) | exact HB.out))) : w.heap.size ≤ gb126)); have n3_ := Aside0.mk ((by rw [hg]; exact (below_size (by repeat (first | (with_reducible first | exact HB.out | apply below_alloc | apply pw_below_drewN | apply below_drew1) | exact HB.out))) : w.heap.size ≤ gb126)); clear HB; have HB := n0_; have BK126 := n1_; have GW126 := n2_; have GE126 := n3_; clear n0_ n1_ n2_ n3_; clear hb hbox hg; have hcz10_0 : w9.cell? ⟨gb126, 0, none⟩ = some (.int .i64 a0_0) := (blk_cell BK126.out 0).trans rfl; have hcz10_1 : w9.cell? ⟨gb126, 1, none⟩ = some (.int .i64 a0_1) := (blk_cell BK126.out 1).trans rfl; have hcz10_2 : w9.cell? ⟨gb126, 2, none⟩ = some (.string a0_2) := (blk_cell BK126.out 2).trans rfl; have hcz10_3 : w9.cell? ⟨gb126, 3, none⟩ = some (.slice A0_3 l0_3.length c0_3) := (blk_cell BK126.out 3).trans rfl; have hfz10_0 := blk_frozen BK126.out 0; have hfz10_1 := blk_frozen BK126.out 1; have hfz10_2 := blk_frozen BK126.out 2; have hfz10_3 := blk_frozen BK126.out 3))
        go_ret
        exact ⟨by first | rfl | (simp [errW_none, errW_some] <;> rfl) | (simp [*, errW_none, errW_some] <;> rfl), by repeat (first | (with_reducible first | exact HB.out | apply below_alloc | apply pw_below_drewN | apply below_drew1 | refine below_set ?_ GE126.out) | exact HB.out)⟩
      · rw [if_neg c8] at H
        have c8b0 : decide (a0_1 < 0) = false := decide_eq_false c8
        clear c8
        obtain rfl := Option.some.inj H
        go_enter Try.func25, Try.ntmps25
        go_wp2_with (first | ((with_reducible refine gate_dst (N := 1) rfl ?_); refine box_event ?hg (N := 1) ?hd (cs := #[.int .i64 a0_0, .int .i64 a0_1, .string a0_2, .slice A0_3 l0_3.length c0_3]) (t := 24) ?hr ?_; (case hd => rfl); (case hg => rfl); (case hr => first | (go_simp; done) | (go_simp; rfl)); intro gb126 hg w11 hbox hb; have n0_ := Aside0.mk (below_step (by repeat (first | (with_reducible first | exact HB.out | apply below_alloc | apply pw_below_drewN | apply below_drew1) | exact HB.out)) hb); have n1_ := Aside0.mk (hbox); have n2_ := Aside0.mk ((by rw [hg]; exact (below_size (by repeat (first | (with_reducible first | exact HB.out | apply below_alloc | apply pw_below_drewN | apply below_drew1) | exact HB.out))) : w.heap.size ≤ gb126)); have n3_ := Aside0.mk ((by rw [hg]; exact (below_size (by repeat (first | (with_reducible first | exact HB.out | apply below_alloc | apply pw_below_drewN | apply below_drew1) | exact HB.out))) : w.heap.size ≤ gb126)); clear HB; have HB := n0_; have BK126 := n1_; have GW126 := n2_; have GE126 := n3_; clear n0_ n1_ n2_ n3_; clear hb hbox hg; have hcz12_0 : w11.cell? ⟨gb126, 0, none⟩ = some (.int .i64 a0_0) := (blk_cell BK126.out 0).trans rfl; have hcz12_1 : w11.cell? ⟨gb126, 1, none⟩ = some (.int .i64 a0_1) := (blk_cell BK126.out 1).trans rfl; have hcz12_2 : w11.cell? ⟨gb126, 2, none⟩ = some (.string a0_2) := (blk_cell BK126.out 2).trans rfl; have hcz12_3 : w11.cell? ⟨gb126, 3, none⟩ = some (.slice A0_3 l0_3.length c0_3) := (blk_cell BK126.out 3).trans rfl; have hfz12_0 := blk_frozen BK126.out 0; have hfz12_1 := blk_frozen BK126.out 1; have hfz12_2 := blk_frozen BK126.out 2; have hfz12_3 := blk_frozen BK126.out 3))
        go_ret
        exact ⟨by first | rfl | (simp [errW_none, errW_some] <;> rfl) | (simp [*, errW_none, errW_some] <;> rfl), by repeat (first | (with_reducible first | exact HB.out | apply below_alloc | apply pw_below_drewN | apply below_drew1 | refine below_set ?_ GE126.out) | exact HB.out)⟩

end Go.Proofs.Ytploigkfnkgjiaa.PI
