/- The plain law of layer 4's functions, as they are printed: numbers in eight bytes, digests of bytes and nodes. Lemmas only. -/
import Derived.Test.YtojanhinfgjjiaaPKx0
import Derived.Test.YtojanhinfgjjiaaPKx1
import Derived.Test.YtojanhinfgjjiaaPKx2
namespace Go.Proofs.Ytojanhinfgjjiaa.J04
set_option linter.unusedVariables false
set_option linter.unusedSimpArgs false
open Go.RowKit Go.Proofs.Ytojanhinfgjjiaa.PK Go.Proofs.YtojanhinfgjjiaaW.PrintWords Go.Proofs.YtojanhinfgjjiaaW.PrintMore

theorem awake04 (k : Nat) (hk : 2 ≤ k) : vinculumlaw04_awake.f k = some true := at_rounds vinculumlaw04_awake.mono hk (by decide +kernel)
theorem len_succ {i : Nat} {n : Nat} (h : i < n) (hn : n ≤ 9223372036854775807) : wrap64 ((i : Int) + 1) = ((i + 1 : Nat) : Int) := by unfold wrap64; omega
theorem rd_int {l : List Int} {i : Nat} (h : i < l.length) : rd l (i : Int) = l[i] := by simp [rd, h]
/-- One step of the digest. -/
def step (h x : Int) : Int := IntKind.u64.wrap (Go.bits .xor .u64 h (IntKind.u64.wrap x) * 1099511628211)
def dig (h : Int) (l : List Int) : Int := l.foldl step h
theorem update_loop (l : List Int) (hn : l.length ≤ 281474976710656) (d : Nat) : ∀ (k i : Nat) (h : Int), i ≤ l.length → l.length - i = d → d < k →
    digest_Update.l0 k h l (l.length : Int) (i : Int) = some (dig h (l.drop i)) := by
  induction d with
  | zero =>
    intro k i h hi hd hk
    obtain ⟨k, rfl⟩ : ∃ m, k = m + 1 := ⟨k - 1, by omega⟩
    simp only [digest_Update.l0]
    rw [if_neg (by omega), List.drop_of_length_le (by omega)]
    rfl
  | succ d ih =>
    intro k i h hi hd hk
    obtain ⟨k, rfl⟩ : ∃ m, k = m + 1 := ⟨k - 1, by omega⟩
    have hlt : i < l.length := by omega
    simp only [digest_Update.l0]
    rw [if_pos (by omega), if_pos (by omega), if_pos (by omega), len_succ hlt (by omega), rd_int hlt, ih k (i + 1) _ (by omega) (by omega) (by omega), List.drop_eq_getElem_cons hlt]
    rfl
theorem bytes_f (l : List Int) (hn : l.length ≤ 281474976710656) (k : Nat) (hk : l.length < k) : digest_Bytes.f k l = some (dig 14695981039346656037 l) := by
  have := update_loop l hn l.length k 0 14695981039346656037 (by omega) (by omega) hk
  unfold digest_Bytes.f digest_Update.f
  rw [show ((0 : Nat) : Int) = 0 from rfl] at this
  rw [this, List.drop_zero]
  rfl
theorem refupdate_loop (l : List Int) (hn : l.length ≤ 281474976710656) (d : Nat) : ∀ (k i : Nat) (h : Int), i ≤ l.length → l.length - i = d → d < k →
    vinculumref04_Update.l0 k h l (i : Int) = some (dig h (l.drop i)) := by
  induction d with
  | zero =>
    intro k i h hi hd hk
    obtain ⟨k, rfl⟩ : ∃ m, k = m + 1 := ⟨k - 1, by omega⟩
    simp only [vinculumref04_Update.l0]
    rw [if_neg (by omega), List.drop_of_length_le (by omega)]
    rfl
  | succ d ih =>
    intro k i h hi hd hk
    obtain ⟨k, rfl⟩ : ∃ m, k = m + 1 := ⟨k - 1, by omega⟩
    have hlt : i < l.length := by omega
    simp only [vinculumref04_Update.l0]
    rw [if_pos (by omega), if_pos (by omega), len_succ hlt (by omega), rd_int hlt, ih k (i + 1) _ (by omega) (by omega) (by omega), List.drop_eq_getElem_cons hlt]
    rfl
theorem refbytes_f (l : List Int) (hn : l.length ≤ 281474976710656) (k : Nat) (hk : l.length < k) : vinculumref04_Bytes.f k l = some (dig 14695981039346656037 l) := by
  have := refupdate_loop l hn l.length k 0 14695981039346656037 (by omega) (by omega) hk
  unfold vinculumref04_Bytes.f vinculumref04_Update.f
  rw [show ((0 : Nat) : Int) = 0 from rfl] at this
  rw [this, List.drop_zero]
  rfl

/-- A number in eight bytes. -/
def eight (n : Int) : List Int := [shr .u64 n 56 % 256, shr .u64 n 48 % 256, shr .u64 n 40 % 256, shr .u64 n 32 % 256, shr .u64 n 24 % 256, shr .u64 n 16 % 256, shr .u64 n 8 % 256, shr .u64 n 0 % 256]
theorem eight_length (n : Int) : (eight n).length = 8 := rfl
theorem number_step (k : Nat) (x : List Int) (n s t : Int) (h0 : 0 ≤ s) (hs : s ≤ 56) (hx : x.length < 140737488355328) (ht : s - 8 = t) : digest_number.l0 (k + 1) x n s = digest_number.l0 k (x ++ [shr .u64 n s % 256]) n t := by
  simp only [digest_number.l0]
  rw [if_pos (by omega), if_pos h0, if_pos hx, show wrap64 (s - 8) = t from by unfold wrap64; omega]
theorem number_f (k : Nat) (hk : 10 ≤ k) (l : List Int) (hl : l.length + 8 ≤ 140737488355328) (n : Int) : digest_number.f k l n = some (l ++ eight n) := by
  obtain ⟨k, rfl⟩ : ∃ m, k = m + 1 + 1 + 1 + 1 + 1 + 1 + 1 + 1 + 1 := ⟨k - 9, by omega⟩
  unfold digest_number.f
  rw [number_step _ _ n 56 48 (by omega) (by omega) (by omega) (by omega), number_step _ _ n 48 40 (by omega) (by omega) (by simp; omega) (by omega), number_step _ _ n 40 32 (by omega) (by omega) (by simp; omega) (by omega), number_step _ _ n 32 24 (by omega) (by omega) (by simp; omega) (by omega),
    number_step _ _ n 24 16 (by omega) (by omega) (by simp; omega) (by omega), number_step _ _ n 16 8 (by omega) (by omega) (by simp; omega) (by omega), number_step _ _ n 8 0 (by omega) (by omega) (by simp; omega) (by omega), number_step _ _ n 0 (-8) (by omega) (by omega) (by simp; omega) (by omega)]
  simp only [digest_number.l0]
  rw [if_neg (by omega)]
  simp [eight]
theorem eight_step (k : Nat) (x : List Int) (n j t s : Int) (h0 : 0 ≤ j) (hs : j < 8) (hx : x.length < 140737488355328) (ht : 56 - 8 * j = s) (hj : j + 1 = t) : vinculumref04_Eight.l0 (k + 1) n x j = vinculumref04_Eight.l0 k n (x ++ [shr .u64 n s % 256]) t := by
  simp only [vinculumref04_Eight.l0]
  rw [if_pos hs, show wrap64 (56 - wrap64 (8 * j)) = s from by unfold wrap64; omega, if_pos (by omega), if_pos hx, show wrap64 (j + 1) = t from by unfold wrap64; omega]
theorem eight_f (k : Nat) (hk : 10 ≤ k) (n : Int) : vinculumref04_Eight.f k n = some (eight n) := by
  obtain ⟨k, rfl⟩ : ∃ m, k = m + 1 + 1 + 1 + 1 + 1 + 1 + 1 + 1 + 1 := ⟨k - 9, by omega⟩
  unfold vinculumref04_Eight.f
  rw [eight_step _ _ n 0 1 56 (by omega) (by omega) (by simp) (by omega) (by omega), eight_step _ _ n 1 2 48 (by omega) (by omega) (by simp) (by omega) (by omega), eight_step _ _ n 2 3 40 (by omega) (by omega) (by simp) (by omega) (by omega), eight_step _ _ n 3 4 32 (by omega) (by omega) (by simp) (by omega) (by omega),
    eight_step _ _ n 4 5 24 (by omega) (by omega) (by simp) (by omega) (by omega), eight_step _ _ n 5 6 16 (by omega) (by omega) (by simp) (by omega) (by omega), eight_step _ _ n 6 7 8 (by omega) (by omega) (by simp) (by omega) (by omega), eight_step _ _ n 7 8 0 (by omega) (by omega) (by simp) (by omega) (by omega)]
  simp only [vinculumref04_Eight.l0]
  rw [if_neg (by omega)]
  simp [eight]

/-- The bytes of a node. -/
def nodeBytes (kind : Int) (text : ByteArray) (cols : Int) (kids : List Int) : List Int :=
  eight (IntKind.u64.wrap kind) ++ eight (IntKind.u64.wrap (text.size : Int)) ++ bytesOf text ++ eight (IntKind.u64.wrap cols) ++ eight (IntKind.u64.wrap (kids.length : Int)) ++ kids.flatMap eight
def joinS (kind : Int) (text : ByteArray) (cols : Int) (kids : List Int) : Int := dig 14695981039346656037 (nodeBytes kind text cols kids)
theorem flat_length : ∀ l : List Int, (l.flatMap eight).length = 8 * l.length
  | [] => rfl
  | x :: r => by rw [List.flatMap_cons, List.length_append, flat_length r, eight_length, List.length_cons]; omega

theorem join_loop (l : List Int) (hl : l.length ≤ 140737488355328) (d : Nat) : ∀ (k i : Nat) (b : List Int), i ≤ l.length → l.length - i = d → b.length + 8 * d ≤ 140737488355328 → b.length + 9 * d + 20 < k →
    digest_Join.l0 k b l (l.length : Int) (i : Int) = some (dig 14695981039346656037 (b ++ (l.drop i).flatMap eight)) := by
  induction d with
  | zero =>
    intro k i b hi hd hb hk
    obtain ⟨k, rfl⟩ : ∃ m, k = m + 1 := ⟨k - 1, by omega⟩
    simp only [digest_Join.l0]
    rw [if_neg (by omega), bytes_f b (by omega) k (by omega), List.drop_of_length_le (by omega)]
    simp
  | succ d ih =>
    intro k i b hi hd hb hk
    obtain ⟨k, rfl⟩ : ∃ m, k = m + 1 := ⟨k - 1, by omega⟩
    have hlt : i < l.length := by omega
    simp only [digest_Join.l0]
    rw [if_pos (by omega), if_pos (by omega), if_pos (by omega), rd_int hlt, number_f k (by omega) b (by omega), len_succ hlt (by omega)]
    simp only [Option.bind_some]
    rw [ih k (i + 1) _ (by omega) (by omega) (by rw [List.length_append, eight_length]; omega) (by rw [List.length_append, eight_length]; omega), List.drop_eq_getElem_cons hlt, List.flatMap_cons, List.append_assoc]

theorem join_f (kind : Int) (text : ByteArray) (cols : Int) (kids : List Int) (hb : text.size + 8 * kids.length + 32 < 140737488355328) (k : Nat) (hk : text.size + 9 * kids.length + 60 < k) : digest_Join.f k kind text cols kids = some (joinS kind text cols kids) := by
  unfold digest_Join.f
  rw [number_f k (by omega) [] (by simp)]
  simp only [Option.bind_some, List.nil_append]
  rw [number_f k (by omega) _ (by rw [eight_length]; omega)]
  simp only [Option.bind_some]
  rw [if_pos (by simp only [List.length_append, eight_length]; omega), number_f k (by omega) _ (by simp only [List.length_append, eight_length, bytesOf_length]; omega)]
  simp only [Option.bind_some]
  rw [number_f k (by omega) _ (by simp only [List.length_append, eight_length, bytesOf_length]; omega)]
  simp only [Option.bind_some]
  have e := join_loop kids (by omega) kids.length k 0 (eight (IntKind.u64.wrap kind) ++ eight (IntKind.u64.wrap (text.size : Int)) ++ bytesOf text ++ eight (IntKind.u64.wrap cols) ++ eight (IntKind.u64.wrap (kids.length : Int))) (by omega) (by omega) (by simp only [List.length_append, eight_length, bytesOf_length]; omega) (by simp only [List.length_append, eight_length, bytesOf_length]; omega)
  rw [show ((0 : Nat) : Int) = 0 from rfl] at e
  rw [e]
  rfl
theorem refjoin_loop (l : List Int) (hl : l.length ≤ 140737488355328) (d : Nat) : ∀ (k i : Nat) (b : List Int), i ≤ l.length → l.length - i = d → b.length + 8 * d < 140737488355328 → b.length + 9 * d + 20 < k →
    vinculumref04_Join.l0 k l b (i : Int) = some (dig 14695981039346656037 (b ++ (l.drop i).flatMap eight)) := by
  induction d with
  | zero =>
    intro k i b hi hd hb hk
    obtain ⟨k, rfl⟩ : ∃ m, k = m + 1 := ⟨k - 1, by omega⟩
    simp only [vinculumref04_Join.l0]
    rw [if_neg (by omega), refbytes_f b (by omega) k (by omega), List.drop_of_length_le (by omega)]
    simp
  | succ d ih =>
    intro k i b hi hd hb hk
    obtain ⟨k, rfl⟩ : ∃ m, k = m + 1 := ⟨k - 1, by omega⟩
    have hlt : i < l.length := by omega
    simp only [vinculumref04_Join.l0]
    rw [if_pos (by omega), if_pos (by omega), rd_int hlt, eight_f k (by omega), len_succ hlt (by omega)]
    simp only [Option.bind_some]
    rw [if_pos (by rw [eight_length]; omega), ih k (i + 1) _ (by omega) (by omega) (by rw [List.length_append, eight_length]; omega) (by rw [List.length_append, eight_length]; omega), List.drop_eq_getElem_cons hlt, List.flatMap_cons, List.append_assoc]

theorem refjoin_f (kind : Int) (text : ByteArray) (cols : Int) (kids : List Int) (hb : text.size + 8 * kids.length + 32 < 140737488355328) (k : Nat) (hk : text.size + 9 * kids.length + 60 < k) : vinculumref04_Join.f k kind text cols kids = some (joinS kind text cols kids) := by
  unfold vinculumref04_Join.f
  rw [eight_f k (by omega), eight_f k (by omega), eight_f k (by omega), eight_f k (by omega)]
  simp only [Option.bind_some]
  rw [if_pos (by simp only [eight_length]; omega), if_pos (by simp only [List.length_append, eight_length]; omega), if_pos (by simp only [List.length_append, eight_length, bytesOf_length]; omega), if_pos (by simp only [List.length_append, eight_length, bytesOf_length]; omega)]
  have e := refjoin_loop kids (by omega) kids.length k 0 (eight (IntKind.u64.wrap kind) ++ eight (IntKind.u64.wrap (text.size : Int)) ++ bytesOf text ++ eight (IntKind.u64.wrap cols) ++ eight (IntKind.u64.wrap (kids.length : Int))) (by omega) (by omega) (by simp only [List.length_append, eight_length, bytesOf_length]; omega) (by simp only [List.length_append, eight_length, bytesOf_length]; omega)
  rw [show ((0 : Nat) : Int) = 0 from rfl] at e
  rw [e]
  rfl
end Go.Proofs.Ytojanhinfgjjiaa.J04
