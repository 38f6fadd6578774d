-- Written by a program of this place (wip/gen.py) with the kit's print; not trusted: Lean checks it.
import Derived.Test.YtgickognjlapmaaPRx0
import Derived.Test.YtgickognjlapmaaPRx4
import Derived.Test.YtgickognjlapmaaPRx6
namespace Go.Proofs.Ytgickognjlapmaa.PR
open Go.RowKit Go.Proofs.YtgickognjlapmaaW.PrintWords Go.Proofs.YtgickognjlapmaaW.PrintLast Go.Proofs.YtgickognjlapmaaW.PrintMore
attribute [local go_sem] max2_int min2_int max_two min_two max_three min_three max_four min_four   -- for this text's walks alone
set_option linter.unusedVariables false
set_option linter.unusedSimpArgs false

/-! ### vinculumref45_All: function 31, by hand -/
/-! ### try: a result is brought in -/
def vinculumref45_try.u (k : Nat) (starts : List Int) (n : Int) (j : Nat) (st : List S61) : Option (List S61) :=
  if j < st.length then (if (rd_T61 st (j : Int)).f2 = false then some (st.set j ⟨starts, n, true⟩) else (if n < (rd_T61 st (j : Int)).f1 then some (st.set j ⟨starts, n, true⟩) else (if n = (rd_T61 st (j : Int)).f1 then (vinculumref45_before.f k starts (rd_T61 st (j : Int)).f0).bind fun b => some (if b = true then st.set j ⟨starts, n, true⟩ else st) else some st))) else none
def vinculumref45_try.l (k : Nat) (starts : List Int) (n : Int) : Nat → List S61 → Option (List S61)
  | 0, st => some st
  | m + 1, st => (vinculumref45_try.u k starts n (if m = 1 then 0 else starts.length) st).bind fun st' => vinculumref45_try.l k starts n m st'
def vinculumref45_try.f (k : Nat) (l0 : List S34) (starts : List Int) (a1 a2 : Int) (st : List S61) : Option (List S61) :=
  (vinculumref44_Total.f k l0 starts a1 a2).bind fun r => if r.2 = 0 then (if starts.length ≤ 1000 then vinculumref45_try.l k starts r.1 2 st else none) else some st
section
variable {α : Type} {d : Kd α} {e base g n cap N : Nat} {ok : Nat → Prop} {W : World} {xs : List α}
theorem zip_set (xs : List α) (i : Nat) (x : α) : (xs.set i x).zipIdx = xs.zipIdx.set i (x, i) := by
  apply List.ext_getElem?
  intro j
  rw [List.getElem?_zipIdx, List.getElem?_set, List.getElem?_set, List.length_zipIdx, Nat.zero_add]
  by_cases h : i = j
  · subst h
    rw [if_pos rfl, if_pos rfl]
    split <;> rfl
  · rw [if_neg h, if_neg h, List.getElem?_zipIdx, Nat.zero_add]
/-- An element of a row, no two of which lead to one block, is written; it leads to what is new. -/
theorem S_seg (h : Kd.S d e W base (fun k => k < N) (.slice (some ⟨g, 0, none⟩) n cap) xs) (i : Nat) (h1 : i < n) {seg : List Value} (hs : seg.length = d.sz) {x' : α} (hM : d.M W base (fun k => N ≤ k) x' seg) :
    Kd.S d e (W.setCells g (i * d.sz + 0) seg) base (fun _ => True) (.slice (some ⟨g, 0, none⟩) n cap) (xs.set i x') := by
  have hgN : g < N := (Kd.S_R h).1 g (by simp [Value.ownBlock])
  obtain ⟨f, h⟩ := h
  have h' := Kd.R_mono (Kd.R_tag (f' := fun k => if N ≤ k then i else f k) h (fun k hk _ => by rw [if_neg (by omega)])) (ok' := fun _ => True) (fun _ _ => trivial)
  obtain ⟨c, hcl, _, hcc, _⟩ := Kd.R_elem h' (x', i) (i : Int) (by omega) (by omega)
  have hcl' : c.length = d.sz := hcl
  refine ⟨fun k => if N ≤ k then i else f k, ?_⟩
  rw [zip_set]
  have := (Kd.R_seg (d := Kd.tag (fun k => if N ≤ k then i else f k) d) h' (i : Int) (by omega) (by omega) (seg := seg) (j := 0) (x' := (x', i)) (okp := fun k => N ≤ k) hcl hcc (by show 0 + seg.length ≤ d.sz; omega) ?_ (fun k hk => ⟨trivial, by omega⟩)).1
  · rw [Int.toNat_natCast] at this
    exact this
  · show d.M W base (fun k => _ ∧ (if N ≤ k then i else f k) = i) x' _
    rw [List.take_zero, List.nil_append, Nat.zero_add, hs, List.drop_of_length_le (by omega), List.append_nil]
    exact d.M_mono (fun k hk => ⟨hk, if_pos hk⟩) hM
end
theorem grown_any {A B : World} (h : Below A.heap.size A B) (r : Option Nat) : A.grownBy B r := ⟨h.os, h.tape, h.output, h.size, fun k hk _ => h.block k hk⟩
theorem grown_set (W : World) (g j : Nat) (v : Value) : W.grownBy (W.setCell ⟨g, j, none⟩ v) (some g) := ⟨rfl, rfl, rfl, Nat.le_of_eq (by simp), fun k _ hk => Below.heap_setCell _ _ _ _ (fun e => hk (by rw [e]))⟩
theorem keep_of {A B : World} {g : Nat} (h : A.grownBy B (some g)) : KeepBut A B g none := ⟨h.size, fun k hk hne _ => h.block k hk (fun e => hne (by injection e))⟩
theorem try_u_len {k : Nat} {starts : List Int} {n : Int} {j : Nat} {st st' : List S61} (h : vinculumref45_try.u k starts n j st = some st') : st'.length = st.length := by
  unfold vinculumref45_try.u at h
  by_cases c : j < st.length
  · rw [if_pos c] at h
    split at h
    · rw [← Option.some.inj h, List.length_set]
    · split at h
      · rw [← Option.some.inj h, List.length_set]
      · split at h
        · obtain ⟨b, _, h⟩ := Option.bind_eq_some_iff.1 h
          rw [← Option.some.inj h]
          split
          · rw [List.length_set]
          · rfl
        · rw [← Option.some.inj h]
  · rw [if_neg c] at h
    cases h
set_option maxRecDepth 100000 in
set_option maxHeartbeats 4000000 in
theorem vinculumref45_try.calls (k : Nat) (A0 : Option Addr) (c0 : Nat) (l0 : List S34) (a1 a2 : Int) (As : Option Addr) (cs : Nat) (starts : List Int) (g n cap base : Nat) (st st' : List S61) (w : World) (hr0 : Kd.C k34 w A0 l0.length l0) (hc0 : l0.length ≤ c0)
    (hst : ∀ W', KeepBut w W' g none → Kd.C (Kd.int .i64) W' As starts.length starts) (hcs : starts.length ≤ cs) (hbase : base ≤ w.heap.size) (HO : Kd.S k61 61 w base (fun _ => True) (.slice (some ⟨g, 0, none⟩) n cap) st) (h : vinculumref45_try.f k l0 starts a1 a2 st = some st') :
    Calls Try.prog 38 #[.slice (some ⟨g, 0, none⟩) n cap, .slice A0 l0.length c0, .slice As starts.length cs, .int .i64 a1, .int .i64 a2] w fun e w' => (∃ v, e = .returned v) ∧ Kd.S k61 61 w' base (fun _ => True) (.slice (some ⟨g, 0, none⟩) n cap) st' ∧ w.grownBy w' (some g) := by
  have HR := Aside0.mk hr0
  have HC := Aside0.mk hc0
  have HST := Aside0.mk hst
  have HCS := Aside0.mk hcs
  have HO0 := Aside0.mk HO
  have HGW : Aside0 (g < w.heap.size) := ⟨Kd.S_lt HO g rfl⟩
  have HBG : Aside0 (base ≤ g) := ⟨Kd.S_base HO g rfl⟩
  clear hr0 hc0 hst hcs HO
  unfold vinculumref45_try.f at h
  obtain ⟨⟨tot, er⟩, hT, h⟩ := Option.bind_eq_some_iff.1 h
  have HT := Aside0.mk hT
  clear hT
  dsimp only at h
  go_enter Try.func38, Try.ntmps38
  go_wp2_with (go_at_fn 40)
  refine (vinculumref44_Total.calls k A0 c0 l0 As cs starts a1 a2 tot er _ ?s1 ?s2 ?s3 ?s4 HT.out).mono ?_
  case s1 => exact HR.out
  case s2 => exact HC.out
  case s3 => exact HST.out w (KeepBut.refl _ _ _)
  case s4 => exact HCS.out
  rintro e w5 ⟨rfl, hb5⟩
  have HB5 := Aside0.mk hb5
  clear hb5
  by_cases her : er = 0
  case neg =>
    rw [if_neg her] at h
    obtain rfl := Option.some.inj h
    have e1 : (er == 0) = false := beq_eq_false_iff_ne.2 her
    have e2 : decide (er = 0) = false := decide_eq_false her
    have e3 : (er != 0) = true := by simp [her]
    go_wp2
    refine bodyPost_ret (results_none rfl _ _ _) rfl ?_
    exact ⟨⟨_, rfl⟩, Kd.S_below HO0.out HB5.out, HB5.out.os, HB5.out.tape, HB5.out.output, HB5.out.size, fun k hk _ => HB5.out.block k hk⟩
  case pos =>
    subst her
    rw [if_pos rfl] at h
    by_cases hlen : starts.length ≤ 1000
    case neg => rw [if_neg hlen] at h; cases h
    rw [if_pos hlen] at h
    have HLEN := Aside0.mk hlen
    have HH := Aside0.mk h
    clear h hlen
    have hu68 := Try.underlying68
    go_wp2
    have hpl := blk_new w5 (.cells #[.int .i64 0, .int .i64 (starts.length : Int)] 68)
    have HS0 := Aside0.mk (Kd.S_alloc (Kd.S_below HO0.out HB5.out) (.cells #[.int .i64 0, .int .i64 (starts.length : Int)] 68))
    have HG0 := Aside0.mk (grown_any (below_alloc HB5.out (.cells #[.int .i64 0, .int .i64 (starts.length : Int)] 68)) (some g))
    have HPG : Aside0 (w5.heap.size ≠ g) := ⟨by have := HB5.out.size; have := HGW.out; omega⟩
    obtain ⟨pl, hple⟩ : ∃ pl, w5.heap.size = pl := ⟨_, rfl⟩
    rw [hple] at hpl HPG ⊢
    generalize w5.alloc (.cells #[.int .i64 0, .int .i64 (starts.length : Int)] 68) = w6 at hpl HS0 HG0 ⊢
    have HP0 := Aside0.mk hpl
    clear hpl hple
    go_loopg [13] 2 (fun kq v13 w' => ∃ (i : Nat) (st1 : List S61), v13 = .int .i64 (i : Int) ∧ Aside0 (i + kq = 2) ∧ Aside0 (vinculumref45_try.l k starts tot kq st1 = some st') ∧ Aside0 (Kd.S k61 61 w' base (fun _ => True) (.slice (some ⟨g, 0, none⟩) n cap) st1) ∧ Aside0 (w.grownBy w' (some g)) ∧ Aside0 (w'.heap[pl]? = some (.cells #[.int .i64 0, .int .i64 (starts.length : Int)] 68 (0, 0))))
    case atStart => exact ⟨0, st, rfl, ⟨rfl⟩, HH, HS0, HG0, HP0⟩
    case round =>
      clear HH HS0 HG0 HP0
      obtain ⟨i, st1, rfl, HI, HQ, HS5, HGR5, HP5⟩ := hrel
      cases gk with
      | zero =>
        have e1 : decide ((i : Int) < 2) = false := decide_eq_false (by have := HI.out; omega)
        go_wp2
        have := HQ.out
        simp only [vinculumref45_try.l] at this
        obtain rfl := Option.some.inj this
        go_end0
        exact ⟨⟨_, rfl⟩, HS5.out, HGR5.out⟩
      | succ m =>
        have e1 : decide ((i : Int) < 2) = true := decide_eq_true (by have := HI.out; omega)
        have e2 : ((i : Int) < 2) = True := eq_true (by have := HI.out; omega)
        have hq := HQ.out
        simp only [vinculumref45_try.l] at hq
        obtain ⟨st2, hu, hq2⟩ := Option.bind_eq_some_iff.1 hq
        obtain ⟨idx, hidx⟩ : ∃ idx : Nat, (if m = 1 then 0 else starts.length) = idx := ⟨_, rfl⟩
        rw [hidx] at hu
        have cp : wr.cell? ⟨pl, i, none⟩ = some (.int .i64 (idx : Int)) := by
          have h1 := HI.out
          by_cases hm : m = 1
          · rw [if_pos hm] at hidx
            obtain rfl : i = 0 := by omega
            subst hidx
            exact (blk_cell HP5.out 0).trans rfl
          · rw [if_neg hm] at hidx
            obtain rfl : i = 1 := by omega
            subst hidx
            exact (blk_cell HP5.out 1).trans rfl
        have HIDX := Aside0.mk hidx
        clear hq HQ hidx
        unfold vinculumref45_try.u at hu
        by_cases hix : idx < st1.length
        case neg => rw [if_neg hix] at hu; cases hu
        rw [if_pos hix] at hu
        have hn1 : n = st1.length := (Kd.S_reads' HS5.out).1
        have qi : (idx : Int) < (n : Int) := by omega
        obtain ⟨ce, hcl, hM, hcc, hfz⟩ := Kd.R_elem (Kd.S_R HS5.out) z61 (idx : Int) (by omega) (by omega)
        obtain ⟨v0, rfl, hx0⟩ := k61_openM hM
        have hrd : st1.getD (idx : Int).toNat z61 = rd_T61 st1 (idx : Int) := rfl
        rw [hrd] at hx0 hcc
        have HE0 : Aside0 (wr.cell? ⟨g, idx * 3, none⟩ = some v0) := ⟨hcc 0 _ rfl⟩
        have HE1 : Aside0 (wr.cell? ⟨g, idx * 3 + 1, none⟩ = some (.int .i64 (rd_T61 st1 (idx : Int)).f1)) := ⟨hcc 1 _ rfl⟩
        have HE2 : Aside0 (wr.cell? ⟨g, idx * 3 + 2, none⟩ = some (.bool (rd_T61 st1 (idx : Int)).f2)) := ⟨hcc 2 _ rfl⟩
        have HX0 := Aside0.mk hx0
        obtain ⟨gcs, hgcs⟩ := Kd.S_typed HS5.out g (by simp [Value.ownBlock])
        have HBK := Aside0.mk hgcs
        have HG5 : Aside0 (g < wr.heap.size) := ⟨blk_lt hgcs⟩
        have HST5 : Aside0 (Kd.C (Kd.int .i64) wr As starts.length starts) := ⟨HST.out wr (keep_of HGR5.out)⟩
        have hpg := HPG.out
        have HN1 := Aside0.mk hn1
        clear hcl hM hcc hfz hrd hx0 hgcs hn1
        have ce0 := HE0.out
        have ce1 := HE1.out
        have ce2 := HE2.out
        obtain ⟨A0s, c0s, e0s⟩ := Kd.R_slice HX0.out
        subst e0s
        obtain ⟨f1, hf1⟩ : ∃ f1, (rd_T61 st1 (idx : Int)).f1 = f1 := ⟨_, rfl⟩
        obtain ⟨f2, hf2⟩ : ∃ f2, (rd_T61 st1 (idx : Int)).f2 = f2 := ⟨_, rfl⟩
        rw [hf1] at hu ce1
        rw [hf2] at hu ce2
        clear hf1 hf2
        have nwi : wrap64 ((i : Int) + 1) = (i : Int) + 1 := by have := HI.out; unfold wrap64; omega
        cases f2 with
        | false =>
          rw [if_pos rfl] at hu
          obtain rfl := Option.some.inj hu
          have HQ2 := Aside0.mk hq2
          clear hq2 hu
          go_wp2_with (first | ((with_reducible refine gate_dst (N := 67) rfl ?_); refine Kd.R_lit (Kd.int .i64) _ 3 ?hg (N := 67) ?hd (xs := ([] : List Int)) (inner := []) (ok := fun _ => True) (okp := fun _ => True) ?hr ?hp (fun _ hk => hk) trivial (Below.refl _ _) (Nat.le_refl _) (by simp) ?_; (case hd => rfl); (case hg => rfl); (case hr => first | (go_simp; done) | (go_simp; rfl)); (case hp => exact (Reps.none _ _)); intro v67 w12 ho13 hb13 hg_ hnew_; have HO67 := Aside0.mk ho13; have HB67 := Aside0.mk hb13; clear ho13 hb13 hg_ hnew_) | ((with_reducible refine gate_builtin (b := .append) (xs := #[.tmp 67, .tmp 68]) rfl ?_); at_builtin; refine Kd.R_append_row (fun x : Int => Value.int .i64 x) 0 (h1 := fun _ => rfl) (w0 := wr) (World.heap wr).size rfl (.tmp 67) (.tmp 68) 27 3 (.int .i64 0) 8 rfl Try.underlying27 info3 rfl (by decide) v67 [] starts As starts.length cs (fun _ => True) rfl rfl (fun _ _ => trivial) HO67.out (Kd.C_below HST5.out HB67.out) HB67.out HB67.out.size (by have := HLEN.out; simp; omega) ?_; intro v69 w13 ho hb hg hat; have HO69 := Aside0.mk ho; have HB69 := Aside0.mk hb; have cz0 := (World.cell?_of_block (a := ⟨g, idx * 3, none⟩) (hb.block _ HG5.out)).trans HE0.out; have cz1 := (World.cell?_of_block (a := ⟨g, idx * 3 + 1, none⟩) (hb.block _ HG5.out)).trans HE1.out; have cz2 := (World.cell?_of_block (a := ⟨g, idx * 3 + 2, none⟩) (hb.block _ HG5.out)).trans HE2.out; have hgb := (hb.block _ HG5.out).trans HBK.out; have fz0 := blk_frozen hgb (idx * 3); have fz1 := blk_frozen hgb (idx * 3 + 1); have fz2 := blk_frozen hgb (idx * 3 + 2); obtain ⟨A69, c69, e69⟩ := Kd.R_slice ho; subst e69; clear ho hb hg hat hgb))
          have hseg := S_seg (N := (World.heap wr).size) (Kd.S_mono (Kd.S_old HS5.out HB69.out) (fun k hk => hk.2)) idx (by omega) (seg := [.slice A69 starts.length c69, .int .i64 tot, .bool true]) rfl (k61_mkM w13 base (fun k => (World.heap wr).size ≤ k) ⟨starts, tot, true⟩ (Kd.R_lower (Kd.R_mono (Kd.R_bound HO69.out) (fun k hk => hk.2.1)) (by have := HBG.out; have := HG5.out; omega)))
          have HGN : Aside0 (w.grownBy (((w13.setCell ⟨g, idx * 3, none⟩ (.slice A69 starts.length c69)).setCell ⟨g, idx * 3 + 1, none⟩ (.int .i64 tot)).setCell ⟨g, idx * 3 + 2, none⟩ (.bool true)) (some g)) := ⟨World.grownBy.trans (World.grownBy.trans (World.grownBy.trans (World.grownBy.trans HGR5.out (grown_any HB69.out (some g))) (grown_set _ _ _ _)) (grown_set _ _ _ _)) (grown_set _ _ _ _)⟩
          have HPN : Aside0 ((((w13.setCell ⟨g, idx * 3, none⟩ (.slice A69 starts.length c69)).setCell ⟨g, idx * 3 + 1, none⟩ (.int .i64 tot)).setCell ⟨g, idx * 3 + 2, none⟩ (.bool true)).heap[pl]? = some (.cells #[.int .i64 0, .int .i64 (starts.length : Int)] 68 (0, 0))) := ⟨blk_far (blk_far (blk_far (blk_below HP5.out HB69.out) (p := ⟨g, idx * 3, none⟩) hpg _) (p := ⟨g, idx * 3 + 1, none⟩) hpg _) (p := ⟨g, idx * 3 + 2, none⟩) hpg _⟩
          go_roundg m
          case measure => omega
          case rel => exact ⟨i + 1, st1.set idx ⟨starts, tot, true⟩, by first | rfl | (rw [nwi]; rfl) | go_num, ⟨by have := HI.out; omega⟩, HQ2, ⟨hseg⟩, HGN, HPN⟩
        | true =>
          rw [if_neg (by decide)] at hu
          by_cases hlt : tot < f1
          · rw [if_pos hlt] at hu
            have hlt' : decide (tot < f1) = true := decide_eq_true hlt
            obtain rfl := Option.some.inj hu
            have HQ2 := Aside0.mk hq2
            clear hq2 hu
            go_wp2_with (first | ((with_reducible refine gate_dst (N := 67) rfl ?_); refine Kd.R_lit (Kd.int .i64) _ 3 ?hg (N := 67) ?hd (xs := ([] : List Int)) (inner := []) (ok := fun _ => True) (okp := fun _ => True) ?hr ?hp (fun _ hk => hk) trivial (Below.refl _ _) (Nat.le_refl _) (by simp) ?_; (case hd => rfl); (case hg => rfl); (case hr => first | (go_simp; done) | (go_simp; rfl)); (case hp => exact (Reps.none _ _)); intro v67 w12 ho13 hb13 hg_ hnew_; have HO67 := Aside0.mk ho13; have HB67 := Aside0.mk hb13; clear ho13 hb13 hg_ hnew_) | ((with_reducible refine gate_builtin (b := .append) (xs := #[.tmp 67, .tmp 68]) rfl ?_); at_builtin; refine Kd.R_append_row (fun x : Int => Value.int .i64 x) 0 (h1 := fun _ => rfl) (w0 := wr) (World.heap wr).size rfl (.tmp 67) (.tmp 68) 27 3 (.int .i64 0) 8 rfl Try.underlying27 info3 rfl (by decide) v67 [] starts As starts.length cs (fun _ => True) rfl rfl (fun _ _ => trivial) HO67.out (Kd.C_below HST5.out HB67.out) HB67.out HB67.out.size (by have := HLEN.out; simp; omega) ?_; intro v69 w13 ho hb hg hat; have HO69 := Aside0.mk ho; have HB69 := Aside0.mk hb; have cz0 := (World.cell?_of_block (a := ⟨g, idx * 3, none⟩) (hb.block _ HG5.out)).trans HE0.out; have cz1 := (World.cell?_of_block (a := ⟨g, idx * 3 + 1, none⟩) (hb.block _ HG5.out)).trans HE1.out; have cz2 := (World.cell?_of_block (a := ⟨g, idx * 3 + 2, none⟩) (hb.block _ HG5.out)).trans HE2.out; have hgb := (hb.block _ HG5.out).trans HBK.out; have fz0 := blk_frozen hgb (idx * 3); have fz1 := blk_frozen hgb (idx * 3 + 1); have fz2 := blk_frozen hgb (idx * 3 + 2); obtain ⟨A69, c69, e69⟩ := Kd.R_slice ho; subst e69; clear ho hb hg hat hgb))
            have hseg := S_seg (N := (World.heap wr).size) (Kd.S_mono (Kd.S_old HS5.out HB69.out) (fun k hk => hk.2)) idx (by omega) (seg := [.slice A69 starts.length c69, .int .i64 tot, .bool true]) rfl (k61_mkM w13 base (fun k => (World.heap wr).size ≤ k) ⟨starts, tot, true⟩ (Kd.R_lower (Kd.R_mono (Kd.R_bound HO69.out) (fun k hk => hk.2.1)) (by have := HBG.out; have := HG5.out; omega)))
            have HGN : Aside0 (w.grownBy (((w13.setCell ⟨g, idx * 3, none⟩ (.slice A69 starts.length c69)).setCell ⟨g, idx * 3 + 1, none⟩ (.int .i64 tot)).setCell ⟨g, idx * 3 + 2, none⟩ (.bool true)) (some g)) := ⟨World.grownBy.trans (World.grownBy.trans (World.grownBy.trans (World.grownBy.trans HGR5.out (grown_any HB69.out (some g))) (grown_set _ _ _ _)) (grown_set _ _ _ _)) (grown_set _ _ _ _)⟩
            have HPN : Aside0 ((((w13.setCell ⟨g, idx * 3, none⟩ (.slice A69 starts.length c69)).setCell ⟨g, idx * 3 + 1, none⟩ (.int .i64 tot)).setCell ⟨g, idx * 3 + 2, none⟩ (.bool true)).heap[pl]? = some (.cells #[.int .i64 0, .int .i64 (starts.length : Int)] 68 (0, 0))) := ⟨blk_far (blk_far (blk_far (blk_below HP5.out HB69.out) (p := ⟨g, idx * 3, none⟩) hpg _) (p := ⟨g, idx * 3 + 1, none⟩) hpg _) (p := ⟨g, idx * 3 + 2, none⟩) hpg _⟩
            go_roundg m
            case measure => omega
            case rel => exact ⟨i + 1, st1.set idx ⟨starts, tot, true⟩, by first | rfl | (rw [nwi]; rfl) | go_num, ⟨by have := HI.out; omega⟩, HQ2, ⟨hseg⟩, HGN, HPN⟩
          · rw [if_neg hlt] at hu
            have hlt' : decide (tot < f1) = false := decide_eq_false hlt
            by_cases heq : tot = f1
            · rw [if_pos heq] at hu
              subst heq
              obtain ⟨bb, hbb, hu⟩ := Option.bind_eq_some_iff.1 hu
              have HBB := Aside0.mk hbb
              have HL0 : Aside0 ((rd_T61 st1 (idx : Int)).f0.length ≤ c0s) := ⟨(Kd.R_reads' HX0.out).2.1⟩
              have HX1 := Aside0.mk (Kd.R_reads' HX0.out).2.2
              clear hbb
              cases bb with
              | true =>
                obtain rfl := Option.some.inj hu
                have HQ2 := Aside0.mk hq2
                clear hq2 hu
                go_wp2_with (first | ((with_reducible refine gate_callee (f := 41) rfl ?_); refine gate_guard (by rfl) ?_; dsimp only; refine goesL_ (some 63) rfl rfl Try.func41 (by kernel_rfl) rfl #[.slice As starts.length cs, .slice A0s (rd_T61 st1 (idx : Int)).f0.length c0s] rfl (by (try simp only [List.map_toArray, List.map_cons, List.map_nil]); first | done | rfl) ?_; (with_reducible refine (vinculumref45_before.calls k As cs starts A0s c0s (rd_T61 st1 (idx : Int)).f0 true _ HST5.out HCS.out HX1.out HL0.out HBB.out).mono ?_); rintro e w8 ⟨rfl, nd, rfl⟩; refine ⟨_, rfl, ?_⟩; replace HS5 := Aside0.mk (Kd.S_drewN HS5.out nd); replace HST5 := Aside0.mk (Kd.C_drewN HST5.out nd); replace HE0 : Aside0 ((wr.drewN nd).cell? ⟨g, idx * 3, none⟩ = some _) := ⟨HE0.out⟩; replace HE1 : Aside0 ((wr.drewN nd).cell? ⟨g, idx * 3 + 1, none⟩ = some _) := ⟨HE1.out⟩; replace HE2 : Aside0 ((wr.drewN nd).cell? ⟨g, idx * 3 + 2, none⟩ = some _) := ⟨HE2.out⟩; replace HBK := Aside0.mk (blk_drewN HBK.out nd); replace HG5 : Aside0 (g < (wr.drewN nd).heap.size) := ⟨HG5.out⟩; replace HGR5 := Aside0.mk (World.grownBy.trans HGR5.out (grown_any (pw_below_drewN (Below.refl _ _) nd) _)); replace HP5 := Aside0.mk (blk_drewN HP5.out nd)) | ((with_reducible refine gate_dst (N := 67) rfl ?_); refine Kd.R_lit (Kd.int .i64) _ 3 ?hg (N := 67) ?hd (xs := ([] : List Int)) (inner := []) (ok := fun _ => True) (okp := fun _ => True) ?hr ?hp (fun _ hk => hk) trivial (Below.refl _ _) (Nat.le_refl _) (by simp) ?_; (case hd => rfl); (case hg => rfl); (case hr => first | (go_simp; done) | (go_simp; rfl)); (case hp => exact (Reps.none _ _)); intro v67 w12 ho13 hb13 hg_ hnew_; have HO67 := Aside0.mk ho13; have HB67 := Aside0.mk hb13; clear ho13 hb13 hg_ hnew_) | ((with_reducible refine gate_builtin (b := .append) (xs := #[.tmp 67, .tmp 68]) rfl ?_); at_builtin; refine Kd.R_append_row (fun x : Int => Value.int .i64 x) 0 (h1 := fun _ => rfl) (w0 := (wr.drewN nd)) (World.heap (wr.drewN nd)).size rfl (.tmp 67) (.tmp 68) 27 3 (.int .i64 0) 8 rfl Try.underlying27 info3 rfl (by decide) v67 [] starts As starts.length cs (fun _ => True) rfl rfl (fun _ _ => trivial) HO67.out (Kd.C_below HST5.out HB67.out) HB67.out HB67.out.size (by have := HLEN.out; simp; omega) ?_; intro v69 w13 ho hb hg hat; have HO69 := Aside0.mk ho; have HB69 := Aside0.mk hb; have cz0 := (World.cell?_of_block (a := ⟨g, idx * 3, none⟩) (hb.block _ HG5.out)).trans HE0.out; have cz1 := (World.cell?_of_block (a := ⟨g, idx * 3 + 1, none⟩) (hb.block _ HG5.out)).trans HE1.out; have cz2 := (World.cell?_of_block (a := ⟨g, idx * 3 + 2, none⟩) (hb.block _ HG5.out)).trans HE2.out; have hgb := (hb.block _ HG5.out).trans HBK.out; have fz0 := blk_frozen hgb (idx * 3); have fz1 := blk_frozen hgb (idx * 3 + 1); have fz2 := blk_frozen hgb (idx * 3 + 2); obtain ⟨A69, c69, e69⟩ := Kd.R_slice ho; subst e69; clear ho hb hg hat hgb))
                have hseg := S_seg (N := (World.heap (wr.drewN nd)).size) (Kd.S_mono (Kd.S_old HS5.out HB69.out) (fun k hk => hk.2)) idx (by omega) (seg := [.slice A69 starts.length c69, .int .i64 tot, .bool true]) rfl (k61_mkM w13 base (fun k => (World.heap (wr.drewN nd)).size ≤ k) ⟨starts, tot, true⟩ (Kd.R_lower (Kd.R_mono (Kd.R_bound HO69.out) (fun k hk => hk.2.1)) (by have := HBG.out; have := HG5.out; omega)))
                have HGN : Aside0 (w.grownBy (((w13.setCell ⟨g, idx * 3, none⟩ (.slice A69 starts.length c69)).setCell ⟨g, idx * 3 + 1, none⟩ (.int .i64 tot)).setCell ⟨g, idx * 3 + 2, none⟩ (.bool true)) (some g)) := ⟨World.grownBy.trans (World.grownBy.trans (World.grownBy.trans (World.grownBy.trans HGR5.out (grown_any HB69.out (some g))) (grown_set _ _ _ _)) (grown_set _ _ _ _)) (grown_set _ _ _ _)⟩
                have HPN : Aside0 ((((w13.setCell ⟨g, idx * 3, none⟩ (.slice A69 starts.length c69)).setCell ⟨g, idx * 3 + 1, none⟩ (.int .i64 tot)).setCell ⟨g, idx * 3 + 2, none⟩ (.bool true)).heap[pl]? = some (.cells #[.int .i64 0, .int .i64 (starts.length : Int)] 68 (0, 0))) := ⟨blk_far (blk_far (blk_far (blk_below HP5.out HB69.out) (p := ⟨g, idx * 3, none⟩) hpg _) (p := ⟨g, idx * 3 + 1, none⟩) hpg _) (p := ⟨g, idx * 3 + 2, none⟩) hpg _⟩
                go_roundg m
                case measure => omega
                case rel => exact ⟨i + 1, st1.set idx ⟨starts, tot, true⟩, by first | rfl | (rw [nwi]; rfl) | go_num, ⟨by have := HI.out; omega⟩, HQ2, ⟨hseg⟩, HGN, HPN⟩
              | false =>
                obtain rfl := Option.some.inj hu
                have HQ2 := Aside0.mk hq2
                clear hq2 hu
                go_wp2_with (first | ((with_reducible refine gate_callee (f := 41) rfl ?_); refine gate_guard (by rfl) ?_; dsimp only; refine goesL_ (some 63) rfl rfl Try.func41 (by kernel_rfl) rfl #[.slice As starts.length cs, .slice A0s (rd_T61 st1 (idx : Int)).f0.length c0s] rfl (by (try simp only [List.map_toArray, List.map_cons, List.map_nil]); first | done | rfl) ?_; (with_reducible refine (vinculumref45_before.calls k As cs starts A0s c0s (rd_T61 st1 (idx : Int)).f0 false _ HST5.out HCS.out HX1.out HL0.out HBB.out).mono ?_); rintro e w8 ⟨rfl, nd, rfl⟩; refine ⟨_, rfl, ?_⟩; replace HS5 := Aside0.mk (Kd.S_drewN HS5.out nd); replace HST5 := Aside0.mk (Kd.C_drewN HST5.out nd); replace HE0 : Aside0 ((wr.drewN nd).cell? ⟨g, idx * 3, none⟩ = some _) := ⟨HE0.out⟩; replace HE1 : Aside0 ((wr.drewN nd).cell? ⟨g, idx * 3 + 1, none⟩ = some _) := ⟨HE1.out⟩; replace HE2 : Aside0 ((wr.drewN nd).cell? ⟨g, idx * 3 + 2, none⟩ = some _) := ⟨HE2.out⟩; replace HBK := Aside0.mk (blk_drewN HBK.out nd); replace HG5 : Aside0 (g < (wr.drewN nd).heap.size) := ⟨HG5.out⟩; replace HGR5 := Aside0.mk (World.grownBy.trans HGR5.out (grown_any (pw_below_drewN (Below.refl _ _) nd) _)); replace HP5 := Aside0.mk (blk_drewN HP5.out nd)))
                go_roundg m
                case measure => omega
                case rel => exact ⟨i + 1, st1, by first | rfl | (rw [nwi]; rfl) | go_num, ⟨by have := HI.out; omega⟩, HQ2, HS5, HGR5, HP5⟩
            · rw [if_neg heq] at hu
              have heq' : decide (tot = f1) = false := decide_eq_false heq
              have heq2 : (tot == f1) = false := beq_eq_false_iff_ne.2 heq
              obtain rfl := Option.some.inj hu
              have HQ2 := Aside0.mk hq2
              clear hq2 hu
              go_wp2
              go_roundg m
              case measure => omega
              case rel => exact ⟨i + 1, st1, by first | rfl | (rw [nwi]; rfl) | go_num, ⟨by have := HI.out; omega⟩, HQ2, HS5, HGR5, HP5⟩
/-! ### All -/
/-- The starts that a set's bits pick, m pieces left, from i on. -/
def vinculumref45_All.s (set : Nat) : Nat → Nat → List Int → List Int
  | 0, _, acc => acc
  | m + 1, i, acc => vinculumref45_All.s set m (i + 1) (if set / 2 ^ (i - 1) % 2 = 1 then acc ++ [(i : Int)] else acc)
def vinculumref45_All.l (k : Nat) (l0 : List S34) (a1 a2 : Int) : Nat → Nat → List S61 → Option (List S61)
  | 0, _, st => some st
  | m + 1, set, st => (vinculumref45_try.f k l0 (vinculumref45_All.s set (l0.length - 1) 1 [0]) a1 a2 st).bind fun st' => vinculumref45_All.l k l0 a1 a2 m (set + 1) st'
def vinculumref45_All.f (k : Nat) (l0 : List S34) (a1 a2 : Int) : Option (List S61 × Int) :=
  (vinculumref44_Valid.f k l0).bind fun v => if v = true then ((vinculumref44_Fits.f a1 a2).bind fun f => if f = true then (if 1 ≤ l0.length ∧ l0.length ≤ 20 then (vinculumref45_All.l k l0 a1 a2 (2 ^ (l0.length - 1)) 0 (List.replicate (l0.length + 1) z61)).bind fun st => some (st, 0) else none) else some ([], 1)) else some ([], 1)
theorem infoResult : (Try.prog.info? 61).map (fun i => (i.zero, i.size, i.bytes)) = some (some (.agg #[.slice none 0 0, .int .i64 0, .bool false]), 3, 40) := by kernel_rfl
theorem all_s_len (set : Nat) : ∀ m i acc, (vinculumref45_All.s set m i acc).length ≤ acc.length + m
  | 0, _, _ => Nat.le_refl _
  | m + 1, i, acc => by
    have := all_s_len set m (i + 1) (if set / 2 ^ (i - 1) % 2 = 1 then acc ++ [(i : Int)] else acc)
    rw [vinculumref45_All.s]
    split at this
    · rename_i h
      rw [if_pos h]
      rw [List.length_append, List.length_singleton] at this
      omega
    · rename_i h
      rw [if_neg h]
      omega
set_option maxRecDepth 100000 in
set_option maxHeartbeats 4000000 in
theorem vinculumref45_All.calls (k : Nat) (A0 : Option Addr) (c0 : Nat) (l0 : List S34) (a1 a2 : Int) (r1 : List S61) (r2 : Int) (w : World) (hr0 : Kd.C k34 w A0 l0.length l0) (hc0 : l0.length ≤ c0) (h : vinculumref45_All.f k l0 a1 a2 = some (r1, r2)) :
    Calls Try.prog 31 #[.slice A0 l0.length c0, .int .i64 a1, .int .i64 a2] w fun e w' => ∃ v0_ : Value, e = .returned (.tuple #[v0_, .int .i64 r2]) ∧ Kd.S k61 61 w' w.heap.size (fun _ => True) v0_ r1 ∧ Below w.heap.size w w' := by
  have HR := Aside0.mk hr0
  have HC := Aside0.mk hc0
  clear hr0 hc0
  unfold vinculumref45_All.f at h
  obtain ⟨v, hv, h⟩ := Option.bind_eq_some_iff.1 h
  have HV := Aside0.mk hv
  clear hv
  go_enter Try.func31, Try.ntmps31
  cases v with
  | false =>
    rw [if_neg (by decide)] at h
    simp only [Option.some.injEq, Prod.mk.injEq] at h
    obtain ⟨rfl, rfl⟩ := h
    go_wp2_with (go_at_fn 22)
    refine (vinculumref44_Valid.calls k A0 c0 l0 false _ ?s1 ?s2 HV.out).mono ?_
    case s1 => exact HR.out
    case s2 => exact HC.out
    rintro e w5 ⟨rfl, nd, rfl⟩
    go_wp2
    go_ret2
    exact ⟨_, rfl, Kd.S_nil _ _ _ _ _, pw_below_drewN (Below.refl _ _) nd⟩
  | true =>
    rw [if_pos rfl] at h
    obtain ⟨f, hf, h⟩ := Option.bind_eq_some_iff.1 h
    have HF := Aside0.mk hf
    clear hf
    cases f with
    | false =>
      rw [if_neg (by decide)] at h
      simp only [Option.some.injEq, Prod.mk.injEq] at h
      obtain ⟨rfl, rfl⟩ := h
      go_wp2_with (first | ((with_reducible refine gate_callee (f := 22) rfl ?_); refine goesL_ (some 13) rfl rfl Try.func22 (by kernel_rfl) rfl #[.slice A0 l0.length c0] rfl (by (try simp only [List.map_toArray, List.map_cons, List.map_nil]); first | done | rfl) ?_; (with_reducible refine (vinculumref44_Valid.calls k A0 c0 l0 true _ HR.out HC.out HV.out).mono ?_); rintro e w5 ⟨rfl, nd, rfl⟩; refine ⟨_, rfl, ?_⟩) | ((with_reducible refine gate_callee (f := 23) rfl ?_); refine gate_guard (by rfl) ?_; dsimp only; refine goesL_ (some 18) rfl rfl Try.func23 (by kernel_rfl) rfl #[.int .i64 a1, .int .i64 a2] rfl (by (try simp only [List.map_toArray, List.map_cons, List.map_nil]); first | done | rfl) ?_; (with_reducible refine (vinculumref44_Fits.calls a1 a2 false _ HF.out).mono ?_); rintro e w6 ⟨rfl, nd2, rfl⟩; refine ⟨_, rfl, ?_⟩))
      go_ret2
      exact ⟨_, rfl, Kd.S_nil _ _ _ _ _, pw_below_drewN (Below.refl _ _) _⟩
    | true =>
      rw [if_pos rfl] at h
      by_cases hn : 1 ≤ l0.length ∧ l0.length ≤ 20
      case neg => rw [if_neg hn] at h; cases h
      rw [if_pos hn] at h
      obtain ⟨st, hst, h⟩ := Option.bind_eq_some_iff.1 h
      simp only [Option.some.injEq, Prod.mk.injEq] at h
      obtain ⟨rfl, rfl⟩ := h
      obtain ⟨hn1, hn2⟩ := hn
      obtain ⟨Pw, hPw⟩ : ∃ Pw : Nat, 2 ^ (l0.length - 1) = Pw := ⟨_, rfl⟩
      have hPl : Pw ≤ 524288 := by rw [← hPw]; exact Nat.pow_le_pow_right (by decide) (show l0.length - 1 ≤ 19 by omega)
      have hpw : wrap64 ((2 : Int) ^ (l0.length - 1)) = (Pw : Int) := by
        rw [← hPw, Int.natCast_pow]
        show wrap64 ((2 : Int) ^ (l0.length - 1)) = (2 : Int) ^ (l0.length - 1)
        have : ((2 : Int) ^ (l0.length - 1)) = (Pw : Int) := by rw [← hPw, Int.natCast_pow]; rfl
        rw [this]
        unfold wrap64
        omega
      rw [hPw] at hst
      have HST := Aside0.mk hst
      clear h hPw
      clear hst
      have nwl : wrap64 ((l0.length : Int) + 1) = (l0.length : Int) + 1 := by unfold wrap64; omega
      go_wp2_with (first | ((with_reducible refine gate_callee (f := 22) rfl ?_); refine goesL_ (some 13) rfl rfl Try.func22 (by kernel_rfl) rfl #[.slice A0 l0.length c0] rfl (by (try simp only [List.map_toArray, List.map_cons, List.map_nil]); first | done | rfl) ?_; (with_reducible refine (vinculumref44_Valid.calls k A0 c0 l0 true _ HR.out HC.out HV.out).mono ?_); rintro e w5 ⟨rfl, nd, rfl⟩; refine ⟨_, rfl, ?_⟩) | ((with_reducible refine gate_callee (f := 23) rfl ?_); refine gate_guard (by rfl) ?_; dsimp only; refine goesL_ (some 18) rfl rfl Try.func23 (by kernel_rfl) rfl #[.int .i64 a1, .int .i64 a2] rfl (by (try simp only [List.map_toArray, List.map_cons, List.map_nil]); first | done | rfl) ?_; (with_reducible refine (vinculumref44_Fits.calls a1 a2 true _ HF.out).mono ?_); rintro e w6 ⟨rfl, nd2, rfl⟩; refine ⟨_, rfl, ?_⟩) | ((with_reducible refine gate_dst (N := 24) rfl ?_); refine Kd.S_make k61 (w0 := w) w.heap.size 61 rfl (N := 24) rfl 57 (.tmp 23) (.tmp 23) rfl ((l0.length : Int) + 1) rfl rfl Try.underlying57 (.agg #[.slice none 0 0, .int .i64 0, .bool false]) 40 infoResult rfl (by decide) (by omega) z61 (ok := fun _ => True) (okp := fun _ => True) (k61_mkM _ _ _ z61 (Kd.R_nil _ _ _ _ _)) (fun _ hk => hk) trivial (by omega) (by omega) (pw_below_drewN (Below.refl _ _) _) (Nat.le_refl _) ?_; intro v24 w7 hs hb hg hnew; have HS7 := Aside0.mk hs; have HB7 := Aside0.mk hb; have HNEW := Aside0.mk hnew; clear hs hb hg hnew))
      obtain ⟨g, cap, e24, hgb, hgl, _⟩ := Kd.S_form HS7.out (by rw [List.length_replicate]; omega)
      subst e24
      rw [List.length_replicate, show ((l0.length : Int) + 1).toNat = l0.length + 1 by omega] at HS7 ⊢
      have HGB := Aside0.mk hgb
      clear hgb hgl
      go_loopg [9] Pw (fun kq v9 w' => ∃ (set : Nat) (st1 : List S61), v9 = .int .i64 (set : Int) ∧ Aside0 (set + kq = Pw) ∧ Aside0 (vinculumref45_All.l k l0 a1 a2 kq set st1 = some st) ∧ Aside0 (Kd.S k61 61 w' w.heap.size (fun _ => True) (.slice (some ⟨g, 0, none⟩) (l0.length + 1) cap) st1) ∧ Aside0 (Below w.heap.size w w'))
      case atStart => exact ⟨0, _, rfl, ⟨by omega⟩, HST, HS7, HB7⟩
      case round =>
        clear HST HS7 HB7
        obtain ⟨set, st1, rfl, HI, HQ, HS5, HB5⟩ := hrel
        cases gk with
        | zero =>
          have e1 : decide (set < Pw) = false := decide_eq_false (by have := HI.out; omega)
          have e1' : (set < Pw) = False := eq_false (by have := HI.out; omega)
          go_wp2
          have := HQ.out
          simp only [vinculumref45_All.l] at this
          obtain rfl := Option.some.inj this
          go_ret2
          exact ⟨_, rfl, HS5.out, HB5.out⟩
        | succ m =>
          have e1 : decide (set < Pw) = true := decide_eq_true (by have := HI.out; omega)
          have e1' : (set < Pw) = True := eq_true (by have := HI.out; omega)
          have hq := HQ.out
          simp only [vinculumref45_All.l] at hq
          obtain ⟨st2, hu, hq2⟩ := Option.bind_eq_some_iff.1 hq
          have HU := Aside0.mk hu
          have HQ2 := Aside0.mk hq2
          clear hq hu hq2 HQ
          go_wp2_with (first | ((with_reducible refine gate_dst (N := 33) rfl ?_); refine Kd.R_lit (Kd.int .i64) _ 3 ?hg (N := 33) ?hd (xs := ([0] : List Int)) (inner := [.int .i64 0]) (ok := fun _ => True) (okp := fun _ => True) ?hr ?hp (fun _ hk => hk) trivial (Below.refl _ _) (Nat.le_refl _) (by simp) ?_; (case hd => rfl); (case hg => rfl); (case hr => first | (go_simp; done) | (go_simp; rfl)); (case hp => exact (Reps.one (show Kd.M (Kd.int .i64) _ _ _ 0 [.int .i64 0] from rfl) (Reps.none _ _))); intro v33 w8 ho8 hb8 hg_ hnew_; have HO8 := Aside0.mk ho8; have HB8 := Aside0.mk hb8; have HS8 := Aside0.mk (Kd.S_below HS5.out hb8); clear ho8 hb8 hg_ hnew_))
          obtain ⟨wr0, hwr0⟩ : ∃ W, wr = W := ⟨_, rfl⟩
          have HWR := Aside0.mk hwr0
          have HS50 : Aside0 (Kd.S k61 61 wr0 w.heap.size (fun _ => True) (.slice (some ⟨g, 0, none⟩) (l0.length + 1) cap) st1) := ⟨by rw [← hwr0]; exact HS5.out⟩
          have HB50 : Aside0 (Below w.heap.size w wr0) := ⟨by rw [← hwr0]; exact HB5.out⟩
          clear hwr0
          have HMM := Aside0.mk (show (l0.length - 1) + 1 = l0.length by omega)
          go_loopg [10, 11] (l0.length - 1) (fun kq v10 v11 w' => ∃ (i : Nat) (acc : List Int), v11 = .int .i64 (i : Int) ∧ Aside0 (i + kq = l0.length) ∧ Aside0 (1 ≤ i) ∧ Aside0 (vinculumref45_All.s set kq i acc = vinculumref45_All.s set (l0.length - 1) 1 [0]) ∧ Aside0 (acc.length ≤ i) ∧ Aside0 (Kd.R (Kd.int .i64) 3 w' wr0.heap.size (fun _ => True) v10 acc) ∧ Aside0 (Below wr0.heap.size wr0 w'))
          case atStart => exact ⟨1, [0], rfl, ⟨by omega⟩, ⟨Nat.le_refl _⟩, ⟨rfl⟩, ⟨Nat.le_refl _⟩, by rw [← HWR.out]; exact HO8, by rw [← HWR.out]; exact HB8⟩
          case round =>
            clear HO8 HB8 HS8
            obtain ⟨i, acc, rfl, HI2, HI1, HA, HAL, HO9, HB9⟩ := hrel
            cases gk with
            | zero =>
              have hil : i = l0.length := by have := HI2.out; omega
              have e2 : decide (i < l0.length) = false := decide_eq_false (by omega)
              have e2' : (i < l0.length) = False := eq_false (by omega)
              have HACC : Aside0 (vinculumref45_All.s set (l0.length - 1) 1 [0] = acc) := ⟨by rw [← HA.out, vinculumref45_All.s]⟩
              obtain ⟨As, ca, ea⟩ := Kd.R_slice HO9.out
              subst ea
              have nws : wrap64 ((set : Int) + 1) = (set : Int) + 1 := by have := HI.out; unfold wrap64; omega
              clear hil HA
              go_wp2_with (go_at_fn 38)
              have hgl := Kd.S_lt HS50.out g (by simp [Value.ownBlock])
              refine (vinculumref45_try.calls k A0 c0 l0 a1 a2 As ca acc g (l0.length + 1) cap w.heap.size st1 st2 _ ?s1 ?s2 ?s3 ?s4 ?s5 ?s6 ?s7).mono ?_
              case s1 => exact Kd.C_below HR.out (HB50.out.trans (HB9.out.mono HB50.out.size))
              case s2 => exact HC.out
              case s3 => exact Kd.C_foot_own (Kd.R_mono (Kd.R_bound HO9.out) (ok' := fun k => k ≠ g) (fun k hk => by have := hk.2.1; omega)) (fun k hk => hk)
              case s4 => exact (Kd.R_reads' HO9.out).2.1
              case s5 => exact Nat.le_trans HB50.out.size HB9.out.size
              case s6 => exact Kd.S_below HS50.out HB9.out
              case s7 => rw [← HACC.out]; exact HU.out
              rintro e w8 ⟨⟨vv, rfl⟩, hS, hG⟩
              have HS10 := Aside0.mk hS
              have HB10 := Aside0.mk ((HB50.out.trans (HB9.out.mono HB50.out.size)).grown hG (Nat.le_trans HB50.out.size HB9.out.size) (fun k hk => by injection hk with hk; have := HGB.out; omega))
              clear hS hG hgl
              go_wp2
              go_roundg m
              case measure => omega
              case rel => exact ⟨set + 1, st2, by first | rfl | (rw [nws]; rfl) | go_num, ⟨by have := HI.out; omega⟩, HQ2, HS10, HB10⟩
            | succ q =>
              have e2 : decide (i < l0.length) = true := decide_eq_true (by have := HI2.out; omega)
              have e2' : (i < l0.length) = True := eq_true (by have := HI2.out; omega)
              have e3 : (1 : Int) ≤ (i : Int) := by have := HI1.out; omega
              obtain ⟨D, hD⟩ : ∃ D : Nat, set / 2 ^ (i - 1) = D := ⟨_, rfl⟩
              have hshr : Op.shift .shr .i64 (set : Int) .i64 (wrap64 ((i : Int) - 1)) = pure (.int .i64 (D : Int)) := by
                have h1 := HI1.out
                have h2 := HI2.out
                rw [show wrap64 ((i : Int) - 1) = ((i - 1 : Nat) : Int) by unfold wrap64; omega]
                have hs := shift_shr_i64 (yk := .i64) (x := (set : Int)) (y := ((i - 1 : Nat) : Int)) (by omega) (by omega)
                rw [hs, Int.toNat_natCast, ← hD, Int.natCast_ediv, Int.natCast_pow]
                rfl
              have hDs : D < 2 ^ 63 := by
                have h1 : D ≤ set := by rw [← hD]; exact Nat.div_le_self _ _
                have h2 := HI.out
                omega
              have hand : bits .and .i64 (D : Int) 1 = ((D % 2 : Nat) : Int) := by
                have := bits_mask .i64 63 (by decide) (fun n h0 h1 => by rw [IntKind.wrap_i64]; omega) 1 (by decide) (D : Int) (by omega) (by omega)
                rw [Int.natCast_emod]
                exact this
              have HD := Aside0.mk hD
              have nwi : wrap64 ((i : Int) + 1) = (i : Int) + 1 := by have := HI2.out; unfold wrap64; omega
              clear hDs e3
              by_cases hb : D % 2 = 1
              · rw [hb] at hand
                have HA2 : Aside0 (vinculumref45_All.s set q (i + 1) (acc ++ [(i : Int)]) = vinculumref45_All.s set (l0.length - 1) 1 [0]) := ⟨by
                  rw [← HA.out, vinculumref45_All.s, if_pos (by rw [HD.out]; exact hb)]⟩
                have HB := Aside0.mk hb
                clear hb hD HA
                go_wp2_with (first | ((with_reducible refine gate_builtin (b := .append) (xs := #[.tmp 46, .tmp 48]) rfl ?_); at_builtin; refine Kd.R_append (Kd.int .i64) (w0 := wr0) wr0.heap.size rfl (.tmp 46) (.tmp 48) 27 3 (.int .i64 0) 8 rfl Try.underlying27 info3 rfl (by decide) (by omega) u10 acc (i : Int) [.int .i64 i] (fun _ => True) (fun _ => False) rfl rfl ?aP (fun _ hk => hk.elim) ?aF ?aO ?aB ?aS ?aL ?_; (case aP => exact rfl); (case aB => exact HB9.out); (case aF => exact (fun _ _ => trivial)); (case aO => exact HO9.out); (case aS => exact HB9.out.size); (case aL => have := HAL.out; have := HI2.out; omega); intro v49 w10 ho hb hg hat; have HO10 := Aside0.mk ho; have HB10 := Aside0.mk hb; clear ho hb hg hat))
                go_roundg q
                case measure => omega
                case rel => exact ⟨i + 1, acc ++ [(i : Int)], by first | rfl | (rw [nwi]; rfl) | go_num, ⟨by have := HI2.out; omega⟩, ⟨by omega⟩, HA2, ⟨by rw [List.length_append, List.length_singleton]; have := HAL.out; omega⟩, HO10, HB10⟩
              · rw [show D % 2 = 0 by omega] at hand
                have HA2 : Aside0 (vinculumref45_All.s set q (i + 1) acc = vinculumref45_All.s set (l0.length - 1) 1 [0]) := ⟨by
                  rw [← HA.out, vinculumref45_All.s, if_neg (by rw [HD.out]; exact hb)]⟩
                clear hb hD HA
                go_wp2
                go_roundg q
                case measure => omega
                case rel => exact ⟨i + 1, acc, by first | rfl | (rw [nwi]; rfl) | go_num, ⟨by have := HI2.out; omega⟩, ⟨by omega⟩, HA2, ⟨by have := HAL.out; omega⟩, HO9, HB9⟩
theorem try_u_mono (k : Nat) (starts : List Int) (n : Int) (j : Nat) (st : List S61) : LeO (vinculumref45_try.u k starts n j st) (vinculumref45_try.u (k + 1) starts n j st) := by
  unfold vinculumref45_try.u
  exact LeO.ite (LeO.ite (LeO.refl _) (LeO.ite (LeO.refl _) (LeO.ite (LeO.bind (vinculumref45_before.mono _ _ _) (fun _ => LeO.refl _)) (LeO.refl _)))) (LeO.refl _)
theorem try_l_mono (k : Nat) (starts : List Int) (n : Int) : ∀ m st, LeO (vinculumref45_try.l k starts n m st) (vinculumref45_try.l (k + 1) starts n m st)
  | 0, _ => LeO.refl _
  | m + 1, st => by
    simp only [vinculumref45_try.l]
    exact LeO.bind (try_u_mono _ _ _ _ _) (fun _ => try_l_mono k starts n m _)
theorem try_f_mono (k : Nat) (l0 : List S34) (starts : List Int) (a1 a2 : Int) (st : List S61) : LeO (vinculumref45_try.f k l0 starts a1 a2 st) (vinculumref45_try.f (k + 1) l0 starts a1 a2 st) := by
  unfold vinculumref45_try.f
  exact LeO.bind (vinculumref44_Total.mono _ _ _ _ _) (fun _ => LeO.ite (LeO.ite (try_l_mono _ _ _ _ _) (LeO.refl _)) (LeO.refl _))
theorem all_l_mono (k : Nat) (l0 : List S34) (a1 a2 : Int) : ∀ m set st, LeO (vinculumref45_All.l k l0 a1 a2 m set st) (vinculumref45_All.l (k + 1) l0 a1 a2 m set st)
  | 0, _, _ => LeO.refl _
  | m + 1, set, st => by
    simp only [vinculumref45_All.l]
    exact LeO.bind (try_f_mono _ _ _ _ _ _) (fun _ => all_l_mono k l0 a1 a2 m _ _)
theorem vinculumref45_All.mono : ∀ a0 a1 a2 k, LeO (vinculumref45_All.f k a0 a1 a2) (vinculumref45_All.f (k + 1) a0 a1 a2) := by
  intro a0 a1 a2 k
  unfold vinculumref45_All.f
  refine LeO.bind (vinculumref44_Valid.mono _ _) (fun _ => LeO.ite (LeO.bind (LeO.refl _) (fun _ => LeO.ite (LeO.ite (LeO.bind (all_l_mono _ _ _ _ _ _ _) (fun _ => LeO.refl _)) (LeO.refl _)) (LeO.refl _))) (LeO.refl _))

/-! ### vinculumref45_Best: function 16 -/
def vinculumref45_Best.f (k : Nat) (l0 : List (S34)) (a1 : Int) (a2 : Int) : Option (List Int × Int × Int) := (vinculumref45_All.f k l0 a1 a2).bind fun bt169 => (if bt169.2 = 0 then (if 0 < (bt169.1.length : Int) then (some ((rd_T61 bt169.1 0).f0, (rd_T61 bt169.1 0).f1, 0)) else (none)) else (some (([] : List Int), 0, bt169.2)))
theorem vinculumref45_Best.mono : ∀ a0 a1 a2 k, LeO (vinculumref45_Best.f k a0 a1 a2) (vinculumref45_Best.f (k + 1) a0 a1 a2) := by
  intro a0 a1 a2 k
  unfold vinculumref45_Best.f
  repeat' first
      | (with_reducible exact vinculumref45_All.mono _ _ _ _)
      | (with_reducible exact LeO.refl _)
      | (with_reducible exact LeO.none _)
      | (with_reducible refine LeO.ite ?_ ?_)
      | (with_reducible refine LeO.bind ?_ (fun _ => ?_))
      | exact vinculumref45_All.mono _ _ _ _
      | exact LeO.none _
      | refine LeO.ite ?_ ?_
      | refine LeO.bind ?_ (fun _ => ?_)
set_option maxHeartbeats 8000000 in
set_option maxRecDepth 100000 in
theorem vinculumref45_Best.calls (k : Nat) (A0 : Option Addr) (c0 : Nat) (l0 : List (S34)) (a1 : Int) (a2 : Int) (r1 : List Int) (r2 : Int) (r3 : Int) (w : World) (hr0 : Kd.C k34 w A0 l0.length l0) (hc0 : l0.length ≤ c0) (h : vinculumref45_Best.f k l0 a1 a2 = some (r1, r2, r3)) :
    Calls Try.prog 16 #[.slice A0 l0.length c0, .int .i64 a1, .int .i64 a2] w fun e w' => ∃ v0_ : Value, e = .returned (.tuple #[v0_, .int .i64 r2, .int .i64 r3]) ∧ Kd.R (Kd.int .i64) 3 w' w.heap.size (fun _ => True) v0_ r1 ∧ Below w.heap.size w w' := by
  have HR0 := Aside0.mk hr0
  have HC0 := Aside0.mk hc0
  clear hr0 hc0
  have HB := Aside0.mk (Below.refl w.heap.size w)
  have H : ((vinculumref45_All.f k l0 a1 a2).bind fun bt169 => (if bt169.2 = 0 then (if 0 < (bt169.1.length : Int) then (some ((rd_T61 bt169.1 0).f0, (rd_T61 bt169.1 0).f1, 0)) else (none)) else (some (([] : List Int), 0, bt169.2)))) = some (r1, r2, r3) := h
  clear h
  replace H := Option.bind_eq_some_iff.mp H
  obtain ⟨⟨t169, t170⟩, A40, H⟩ := H
  replace H : (if t170 = 0 then (if 0 < (t169.length : Int) then (some ((rd_T61 t169 0).f0, (rd_T61 t169 0).f1, 0)) else (none)) else (some (([] : List Int), 0, t170))) = some (r1, r2, r3) := H
  have A4 := Aside0.mk A40
  clear A40
  by_cases c5 : t170 = 0
  · rw [if_pos c5] at H
    have c5b0 : (t170 == 0) = true := beq_iff_eq.mpr c5
    have c5b1 : (t170 != 0) = false := bne_eq_false_iff_eq.mpr c5
    clear c5
    by_cases c6 : 0 < (t169.length : Int)
    · rw [if_pos c6] at H
      have c6b0 : decide (0 < (t169.length : Int)) = true := decide_eq_true c6
      have c6b1 : decide (0 < t169.length) = true := decide_eq_true (by omega)
      clear c6
      simp only [Option.some.injEq, Prod.mk.injEq] at H
      obtain ⟨rfl, rfl, rfl⟩ := H
      go_enter Try.func16, Try.ntmps16
      go_wp2_with (first | (go_at_call 31; (with_reducible refine (vinculumref45_All.calls k _ _ l0 a1 a2 t169 t170 _ ?side1 ?side2 A4.out).mono ?_); (case side1 => repeat (first | exact HR0.out | (with_reducible refine Kd.C_alloc ?_ _) | (with_reducible refine Kd.C_drewN ?_ _) | (with_reducible refine Kd.C_drew ?_))); (case side2 => exact HC0.out); rintro e w7 ⟨v171, rfl, ho0, hb⟩; have n0_ := Aside0.mk (Kd.S_lower ho0 (below_size (by repeat (first | (with_reducible first | exact HB.out | apply below_alloc | apply pw_below_drewN | apply below_drew1) | exact HB.out)))); have n1_ := Aside0.mk (below_step (by repeat (first | (with_reducible first | exact HB.out | apply below_alloc | apply pw_below_drewN | apply below_drew1) | exact HB.out)) hb); clear HB; have HO172 := n0_; have HB := n1_; clear n0_ n1_; (try clear hb); (try clear hb2); (try clear hk); (try clear hi); (try clear ho0); obtain ⟨Ao8, co8, eo8⟩ := Kd.S_slice HO172.out; subst eo8; have p173 : 0 ≤ (0 : Int) := (by omega); have q173 : 0 < (t169.length : Int) := of_decide_eq_true (by first | (with_reducible assumption) | assumption); obtain ⟨ad173, A173_0, c173_0, e173, hx173_0, hx173_1, hx173_2, hl173_0, hi173_0⟩ := at_T61 (Kd.S_reads' HO172.out).2.2 0 p173 q173; cases e173; obtain ⟨ce173, hce173, hMe173, hcc173⟩ := Kd.S_get HO172.out z61 0 p173 (by first | exact q173 | exact of_decide_eq_true (by first | (with_reducible assumption) | assumption) | (have e_ := (Kd.S_reads' HO172.out).1; omega)); obtain ⟨ve173_0, rfl, ge173_0⟩ := k61_openM hMe173; have hv173_0 := hcc173 0 _ rfl; rw [Nat.add_zero] at hv173_0; replace hv173_0 := Option.some.inj (hv173_0.symm.trans hx173_0); rw [hv173_0] at ge173_0; have HL173_0 := Aside0.mk (show Kd.R (Kd.int .i64) 3 _ _ _ _ ((rd_T61 t169 0).f0) from ge173_0); clear hv173_0 ge173_0; clear hcc173 hce173; have qi173 : (0 < t169.length) = True := eq_true (by omega); (try rw [show ((0 : Int)).toNat = 0 from rfl] at hx173_0); (try rw [show 0 * 3 = 0 from rfl] at hx173_0); (try rw [Addr.add_zero'] at hx173_0); (try rw [show ((0 : Int)).toNat = 0 from rfl] at hx173_1); (try rw [show 0 * 3 = 0 from rfl] at hx173_1); (try rw [Addr.add_zero'] at hx173_1); (try rw [show ((0 : Int)).toNat = 0 from rfl] at hx173_2); (try rw [show 0 * 3 = 0 from rfl] at hx173_2); (try rw [Addr.add_zero'] at hx173_2); have HR173_0 := Aside0.mk hi173_0; have HC173_0 := Aside0.mk hl173_0; clear hi173_0 hl173_0; replace p173 := eq_true p173; replace q173 := eq_true q173; have p174 : 0 ≤ (0 : Int) := (by omega); have q174 : 0 < (t169.length : Int) := of_decide_eq_true (by first | (with_reducible assumption) | assumption); obtain ⟨ad174, A174_0, c174_0, e174, hx174_0, hx174_1, hx174_2, hl174_0, hi174_0⟩ := at_T61 (Kd.S_reads' HO172.out).2.2 0 p174 q174; obtain rfl : ad173 = ad174 := (by injection e174); obtain ⟨ce174, hce174, hMe174, hcc174⟩ := Kd.S_get HO172.out z61 0 p174 (by first | exact q174 | exact of_decide_eq_true (by first | (with_reducible assumption) | assumption) | (have e_ := (Kd.S_reads' HO172.out).1; omega)); obtain ⟨ve174_0, rfl, ge174_0⟩ := k61_openM hMe174; have hv174_0 := hcc174 0 _ rfl; rw [Nat.add_zero] at hv174_0; replace hv174_0 := Option.some.inj (hv174_0.symm.trans hx174_0); rw [hv174_0] at ge174_0; have HL174_0 := Aside0.mk (show Kd.R (Kd.int .i64) 3 _ _ _ _ ((rd_T61 t169 0).f0) from ge174_0); clear hv174_0 ge174_0; clear hcc174 hce174; have qi174 : (0 < t169.length) = True := eq_true (by omega); (try rw [show ((0 : Int)).toNat = 0 from rfl] at hx174_0); (try rw [show 0 * 3 = 0 from rfl] at hx174_0); (try rw [Addr.add_zero'] at hx174_0); (try rw [show ((0 : Int)).toNat = 0 from rfl] at hx174_1); (try rw [show 0 * 3 = 0 from rfl] at hx174_1); (try rw [Addr.add_zero'] at hx174_1); (try rw [show ((0 : Int)).toNat = 0 from rfl] at hx174_2); (try rw [show 0 * 3 = 0 from rfl] at hx174_2); (try rw [Addr.add_zero'] at hx174_2); have HR174_0 := Aside0.mk hi174_0; have HC174_0 := Aside0.mk hl174_0; clear hi174_0 hl174_0; replace p174 := eq_true p174; replace q174 := eq_true q174; have ea_ := Option.some.inj (hx173_0.symm.trans hx174_0); injection ea_ with ea_ en_ ec_; subst ea_; subst ec_; clear en_))
      repeat (go_quiet (first | (go_at_call 31; (with_reducible refine (vinculumref45_All.calls k _ _ l0 a1 a2 t169 t170 _ ?side1 ?side2 A4.out).mono ?_); (case side1 => repeat (first | exact HR0.out | (with_reducible refine Kd.C_alloc ?_ _) | (with_reducible refine Kd.C_drewN ?_ _) | (with_reducible refine Kd.C_drew ?_))); (case side2 => exact HC0.out); rintro e w7 ⟨v171, rfl, ho0, hb⟩; have n0_ := Aside0.mk (Kd.S_lower ho0 (below_size (by repeat (first | (with_reducible first | exact HB.out | apply below_alloc | apply pw_below_drewN | apply below_drew1) | exact HB.out)))); have n1_ := Aside0.mk (below_step (by repeat (first | (with_reducible first | exact HB.out | apply below_alloc | apply pw_below_drewN | apply below_drew1) | exact HB.out)) hb); clear HB; have HO172 := n0_; have HB := n1_; clear n0_ n1_; (try clear hb); (try clear hb2); (try clear hk); (try clear hi); (try clear ho0); obtain ⟨Ao8, co8, eo8⟩ := Kd.S_slice HO172.out; subst eo8; have p173 : 0 ≤ (0 : Int) := (by omega); have q173 : 0 < (t169.length : Int) := of_decide_eq_true (by first | (with_reducible assumption) | assumption); obtain ⟨ad173, A173_0, c173_0, e173, hx173_0, hx173_1, hx173_2, hl173_0, hi173_0⟩ := at_T61 (Kd.S_reads' HO172.out).2.2 0 p173 q173; cases e173; obtain ⟨ce173, hce173, hMe173, hcc173⟩ := Kd.S_get HO172.out z61 0 p173 (by first | exact q173 | exact of_decide_eq_true (by first | (with_reducible assumption) | assumption) | (have e_ := (Kd.S_reads' HO172.out).1; omega)); obtain ⟨ve173_0, rfl, ge173_0⟩ := k61_openM hMe173; have hv173_0 := hcc173 0 _ rfl; rw [Nat.add_zero] at hv173_0; replace hv173_0 := Option.some.inj (hv173_0.symm.trans hx173_0); rw [hv173_0] at ge173_0; have HL173_0 := Aside0.mk (show Kd.R (Kd.int .i64) 3 _ _ _ _ ((rd_T61 t169 0).f0) from ge173_0); clear hv173_0 ge173_0; clear hcc173 hce173; have qi173 : (0 < t169.length) = True := eq_true (by omega); (try rw [show ((0 : Int)).toNat = 0 from rfl] at hx173_0); (try rw [show 0 * 3 = 0 from rfl] at hx173_0); (try rw [Addr.add_zero'] at hx173_0); (try rw [show ((0 : Int)).toNat = 0 from rfl] at hx173_1); (try rw [show 0 * 3 = 0 from rfl] at hx173_1); (try rw [Addr.add_zero'] at hx173_1); (try rw [show ((0 : Int)).toNat = 0 from rfl] at hx173_2); (try rw [show 0 * 3 = 0 from rfl] at hx173_2); (try rw [Addr.add_zero'] at hx173_2); have HR173_0 := Aside0.mk hi173_0; have HC173_0 := Aside0.mk hl173_0; clear hi173_0 hl173_0; replace p173 := eq_true p173; replace q173 := eq_true q173; have p174 : 0 ≤ (0 : Int) := (by omega); have q174 : 0 < (t169.length : Int) := of_decide_eq_true (by first | (with_reducible assumption) | assumption); obtain ⟨ad174, A174_0, c174_0, e174, hx174_0, hx174_1, hx174_2, hl174_0, hi174_0⟩ := at_T61 (Kd.S_reads' HO172.out).2.2 0 p174 q174; obtain rfl : ad173 = ad174 := (by injection e174); obtain ⟨ce174, hce174, hMe174, hcc174⟩ := Kd.S_get HO172.out z61 0 p174 (by first | exact q174 | exact of_decide_eq_true (by first | (with_reducible assumption) | assumption) | (have e_ := (Kd.S_reads' HO172.out).1; omega)); obtain ⟨ve174_0, rfl, ge174_0⟩ := k61_openM hMe174; have hv174_0 := hcc174 0 _ rfl; rw [Nat.add_zero] at hv174_0; replace hv174_0 := Option.some.inj (hv174_0.symm.trans hx174_0); rw [hv174_0] at ge174_0; have HL174_0 := Aside0.mk (show Kd.R (Kd.int .i64) 3 _ _ _ _ ((rd_T61 t169 0).f0) from ge174_0); clear hv174_0 ge174_0; clear hcc174 hce174; have qi174 : (0 < t169.length) = True := eq_true (by omega); (try rw [show ((0 : Int)).toNat = 0 from rfl] at hx174_0); (try rw [show 0 * 3 = 0 from rfl] at hx174_0); (try rw [Addr.add_zero'] at hx174_0); (try rw [show ((0 : Int)).toNat = 0 from rfl] at hx174_1); (try rw [show 0 * 3 = 0 from rfl] at hx174_1); (try rw [Addr.add_zero'] at hx174_1); (try rw [show ((0 : Int)).toNat = 0 from rfl] at hx174_2); (try rw [show 0 * 3 = 0 from rfl] at hx174_2); (try rw [Addr.add_zero'] at hx174_2); have HR174_0 := Aside0.mk hi174_0; have HC174_0 := Aside0.mk hl174_0; clear hi174_0 hl174_0; replace p174 := eq_true p174; replace q174 := eq_true q174; have ea_ := Option.some.inj (hx173_0.symm.trans hx174_0); injection ea_ with ea_ en_ ec_; subst ea_; subst ec_; clear en_)); try go_wp2_with (first | (go_at_call 31; (with_reducible refine (vinculumref45_All.calls k _ _ l0 a1 a2 t169 t170 _ ?side1 ?side2 A4.out).mono ?_); (case side1 => repeat (first | exact HR0.out | (with_reducible refine Kd.C_alloc ?_ _) | (with_reducible refine Kd.C_drewN ?_ _) | (with_reducible refine Kd.C_drew ?_))); (case side2 => exact HC0.out); rintro e w7 ⟨v171, rfl, ho0, hb⟩; have n0_ := Aside0.mk (Kd.S_lower ho0 (below_size (by repeat (first | (with_reducible first | exact HB.out | apply below_alloc | apply pw_below_drewN | apply below_drew1) | exact HB.out)))); have n1_ := Aside0.mk (below_step (by repeat (first | (with_reducible first | exact HB.out | apply below_alloc | apply pw_below_drewN | apply below_drew1) | exact HB.out)) hb); clear HB; have HO172 := n0_; have HB := n1_; clear n0_ n1_; (try clear hb); (try clear hb2); (try clear hk); (try clear hi); (try clear ho0); obtain ⟨Ao8, co8, eo8⟩ := Kd.S_slice HO172.out; subst eo8; have p173 : 0 ≤ (0 : Int) := (by omega); have q173 : 0 < (t169.length : Int) := of_decide_eq_true (by first | (with_reducible assumption) | assumption); obtain ⟨ad173, A173_0, c173_0, e173, hx173_0, hx173_1, hx173_2, hl173_0, hi173_0⟩ := at_T61 (Kd.S_reads' HO172.out).2.2 0 p173 q173; cases e173; obtain ⟨ce173, hce173, hMe173, hcc173⟩ := Kd.S_get HO172.out z61 0 p173 (by first | exact q173 | exact of_decide_eq_true (by first | (with_reducible assumption) | assumption) | (have e_ := (Kd.S_reads' HO172.out).1; omega)); obtain ⟨ve173_0, rfl, ge173_0⟩ := k61_openM hMe173; have hv173_0 := hcc173 0 _ rfl; rw [Nat.add_zero] at hv173_0; replace hv173_0 := Option.some.inj (hv173_0.symm.trans hx173_0); rw [hv173_0] at ge173_0; have HL173_0 := Aside0.mk (show Kd.R (Kd.int .i64) 3 _ _ _ _ ((rd_T61 t169 0).f0) from ge173_0); clear hv173_0 ge173_0; clear hcc173 hce173; have qi173 : (0 < t169.length) = True := eq_true (by omega); (try rw [show ((0 : Int)).toNat = 0 from rfl] at hx173_0); (try rw [show 0 * 3 = 0 from rfl] at hx173_0); (try rw [Addr.add_zero'] at hx173_0); (try rw [show ((0 : Int)).toNat = 0 from rfl] at hx173_1); (try rw [show 0 * 3 = 0 from rfl] at hx173_1); (try rw [Addr.add_zero'] at hx173_1); (try rw [show ((0 : Int)).toNat = 0 from rfl] at hx173_2); (try rw [show 0 * 3 = 0 from rfl] at hx173_2); (try rw [Addr.add_zero'] at hx173_2); have HR173_0 := Aside0.mk hi173_0; have HC173_0 := Aside0.mk hl173_0; clear hi173_0 hl173_0; replace p173 := eq_true p173; replace q173 := eq_true q173; have p174 : 0 ≤ (0 : Int) := (by omega); have q174 : 0 < (t169.length : Int) := of_decide_eq_true (by first | (with_reducible assumption) | assumption); obtain ⟨ad174, A174_0, c174_0, e174, hx174_0, hx174_1, hx174_2, hl174_0, hi174_0⟩ := at_T61 (Kd.S_reads' HO172.out).2.2 0 p174 q174; obtain rfl : ad173 = ad174 := (by injection e174); obtain ⟨ce174, hce174, hMe174, hcc174⟩ := Kd.S_get HO172.out z61 0 p174 (by first | exact q174 | exact of_decide_eq_true (by first | (with_reducible assumption) | assumption) | (have e_ := (Kd.S_reads' HO172.out).1; omega)); obtain ⟨ve174_0, rfl, ge174_0⟩ := k61_openM hMe174; have hv174_0 := hcc174 0 _ rfl; rw [Nat.add_zero] at hv174_0; replace hv174_0 := Option.some.inj (hv174_0.symm.trans hx174_0); rw [hv174_0] at ge174_0; have HL174_0 := Aside0.mk (show Kd.R (Kd.int .i64) 3 _ _ _ _ ((rd_T61 t169 0).f0) from ge174_0); clear hv174_0 ge174_0; clear hcc174 hce174; have qi174 : (0 < t169.length) = True := eq_true (by omega); (try rw [show ((0 : Int)).toNat = 0 from rfl] at hx174_0); (try rw [show 0 * 3 = 0 from rfl] at hx174_0); (try rw [Addr.add_zero'] at hx174_0); (try rw [show ((0 : Int)).toNat = 0 from rfl] at hx174_1); (try rw [show 0 * 3 = 0 from rfl] at hx174_1); (try rw [Addr.add_zero'] at hx174_1); (try rw [show ((0 : Int)).toNat = 0 from rfl] at hx174_2); (try rw [show 0 * 3 = 0 from rfl] at hx174_2); (try rw [Addr.add_zero'] at hx174_2); have HR174_0 := Aside0.mk hi174_0; have HC174_0 := Aside0.mk hl174_0; clear hi174_0 hl174_0; replace p174 := eq_true p174; replace q174 := eq_true q174; have ea_ := Option.some.inj (hx173_0.symm.trans hx174_0); injection ea_ with ea_ en_ ec_; subst ea_; subst ec_; clear en_)))
      go_ret3
      exact ⟨_, by first | rfl | (simp [errW_none, errW_some] <;> rfl) | (simp [*, errW_none, errW_some] <;> rfl), by (with_reducible repeat (first | apply Kd.R_alloc | apply Kd.R_drewN | apply Kd.R_drew)); exact Kd.R_mono HL173_0.out (fun _ hk => trivial), by repeat (first | (with_reducible first | exact HB.out | apply below_alloc | apply pw_below_drewN | apply below_drew1) | exact HB.out)⟩
    · rw [if_neg c6] at H
      exact absurd H (by simp)
  · rw [if_neg c5] at H
    have c5b0 : (t170 == 0) = false := beq_eq_false_iff_ne.mpr c5
    have c5b1 : (t170 != 0) = true := bne_iff_ne.mpr c5
    simp only [Option.some.injEq, Prod.mk.injEq] at H
    obtain ⟨rfl, rfl, rfl⟩ := H
    go_enter Try.func16, Try.ntmps16
    go_wp2_with (first | (go_at_call 31; (with_reducible refine (vinculumref45_All.calls k _ _ l0 a1 a2 t169 t170 _ ?side1 ?side2 A4.out).mono ?_); (case side1 => repeat (first | exact HR0.out | (with_reducible refine Kd.C_alloc ?_ _) | (with_reducible refine Kd.C_drewN ?_ _) | (with_reducible refine Kd.C_drew ?_))); (case side2 => exact HC0.out); rintro e w9 ⟨v171, rfl, ho0, hb⟩; have n0_ := Aside0.mk (Kd.S_lower ho0 (below_size (by repeat (first | (with_reducible first | exact HB.out | apply below_alloc | apply pw_below_drewN | apply below_drew1) | exact HB.out)))); have n1_ := Aside0.mk (below_step (by repeat (first | (with_reducible first | exact HB.out | apply below_alloc | apply pw_below_drewN | apply below_drew1) | exact HB.out)) hb); clear HB; have HO172 := n0_; have HB := n1_; clear n0_ n1_; (try clear hb); (try clear hb2); (try clear hk); (try clear hi); (try clear ho0)))
    repeat (go_quiet (first | (go_at_call 31; (with_reducible refine (vinculumref45_All.calls k _ _ l0 a1 a2 t169 t170 _ ?side1 ?side2 A4.out).mono ?_); (case side1 => repeat (first | exact HR0.out | (with_reducible refine Kd.C_alloc ?_ _) | (with_reducible refine Kd.C_drewN ?_ _) | (with_reducible refine Kd.C_drew ?_))); (case side2 => exact HC0.out); rintro e w9 ⟨v171, rfl, ho0, hb⟩; have n0_ := Aside0.mk (Kd.S_lower ho0 (below_size (by repeat (first | (with_reducible first | exact HB.out | apply below_alloc | apply pw_below_drewN | apply below_drew1) | exact HB.out)))); have n1_ := Aside0.mk (below_step (by repeat (first | (with_reducible first | exact HB.out | apply below_alloc | apply pw_below_drewN | apply below_drew1) | exact HB.out)) hb); clear HB; have HO172 := n0_; have HB := n1_; clear n0_ n1_; (try clear hb); (try clear hb2); (try clear hk); (try clear hi); (try clear ho0))); try go_wp2_with (first | (go_at_call 31; (with_reducible refine (vinculumref45_All.calls k _ _ l0 a1 a2 t169 t170 _ ?side1 ?side2 A4.out).mono ?_); (case side1 => repeat (first | exact HR0.out | (with_reducible refine Kd.C_alloc ?_ _) | (with_reducible refine Kd.C_drewN ?_ _) | (with_reducible refine Kd.C_drew ?_))); (case side2 => exact HC0.out); rintro e w9 ⟨v171, rfl, ho0, hb⟩; have n0_ := Aside0.mk (Kd.S_lower ho0 (below_size (by repeat (first | (with_reducible first | exact HB.out | apply below_alloc | apply pw_below_drewN | apply below_drew1) | exact HB.out)))); have n1_ := Aside0.mk (below_step (by repeat (first | (with_reducible first | exact HB.out | apply below_alloc | apply pw_below_drewN | apply below_drew1) | exact HB.out)) hb); clear HB; have HO172 := n0_; have HB := n1_; clear n0_ n1_; (try clear hb); (try clear hb2); (try clear hk); (try clear hi); (try clear ho0))))
    go_ret3
    exact ⟨_, by first | rfl | (simp [errW_none, errW_some] <;> rfl) | (simp [*, errW_none, errW_some] <;> rfl), by first | exact Kd.R_nil _ _ _ _ _ | exact Kd.N_nil _ _ _ _ _ | exact Kd.V_nil _ _ _ _ _ | exact Kd.Q_nil _ _ _ _ _ | exact Kd.S_nil _ _ _ _ _, by repeat (first | (with_reducible first | exact HB.out | apply below_alloc | apply pw_below_drewN | apply below_drew1) | exact HB.out)⟩

-- NOT PRINTED: function 32 (breaker_problem_table)

end Go.Proofs.Ytgickognjlapmaa.PR
