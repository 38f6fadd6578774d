/- What came in, opened: each value that can be read as data of a type is told by a Lean value of that type's kind. Lemmas only. -/
import Derived.ChangeArms
import Derived.ChangeSame
import Derived.SizedLaws
import Derived.Carry
import Derived.Deep.Slices
import Derived.Test.YtgickognjlapmaaWWords
namespace Go.Proofs.Ytgickognjlapmaa.Open
open Go.ChangeShapes Go.WideShapes Go.RowKit Go.Deep Go.Proofs.YtgickognjlapmaaW.PrintWords
section
variable {H : Type} (enc : TypeId × Value → H) (P : Program) (w : World) (base : Nat) (spare : Nat → Bool) (held : Bool)

/-- Read with n steps, each value of type t is told by a value of the kind d, of which Wf holds. -/
def At (n : Nat) (t : TypeId) {α : Type} (d : Kd α) (Wf : α → Prop) : Prop :=
  ∀ cs x, DataW.trod enc P w base spare held n t cs = some x → (∀ m ∈ x.1.weights P t, m ≤ reachBytes) → ∃ v, d.K w v cs ∧ Wf v
end
section
variable {H : Type} {enc : TypeId × Value → H} {P : Program} {w : World} {base : Nat} {spare : Nat → Bool} {held : Bool} {n : Nat} {t e : TypeId}

theorem At.imp {α : Type} {d : Kd α} {Wf Wf' : α → Prop} (h : At enc P w base spare held n t d Wf) (hw : ∀ v, Wf v → Wf' v) : At enc P w base spare held n t d Wf' := fun cs x hx hs => by
  obtain ⟨v, hk, hv⟩ := h cs x hx hs
  exact ⟨v, hk, hw v hv⟩
theorem at_int {k : IntKind} (ht : P.underlying t = some (.int k)) : At enc P w base spare held n t (Kd.int k) (fun v => (Lit.int k v).wf = true) := fun cs x h _ => by
  obtain ⟨v, rfl, _, hw⟩ := DataW.trod_int ht h
  exact ⟨v, rfl, hw⟩
theorem at_bool (ht : P.underlying t = some .bool) : At enc P w base spare held n t Kd.bool (fun _ => True) := fun cs x h _ => by
  obtain ⟨v, rfl, _⟩ := DataW.trod_bool ht h
  exact ⟨v, rfl, trivial⟩
theorem at_string (ht : P.underlying t = some .string) : At enc P w base spare held n t Kd.string (fun s => s.size ≤ 140737488351232) := fun cs x h hs => by
  obtain ⟨s, rfl, rfl, _⟩ := DataW.trod_string ht h
  refine ⟨s, rfl, ?_⟩
  have := hs s.data.toList.length (by simp [DataW.weights])
  rwa [Array.length_toList] at this

theorem weights_all {t : TypeId} : ∀ {ds : List (DataW H)} {d : DataW H}, d ∈ ds → ∀ m ∈ d.weights P t, m ∈ DataW.weightsAll P t ds
  | [], _, h, _, _ => by cases h
  | d0 :: ds, d, h, m, hm => by
    simp only [DataW.weightsAll, List.mem_append]
    rcases List.mem_cons.1 h with rfl | h
    · exact .inl hm
    · exact .inr (weights_all h m hm)

theorem at_slice {α : Type} {d : Kd α} {Wf : α → Prop} {B : Nat} (ht : P.underlying t = some (.slice e)) (hC : P.cellsOf e = d.sz) (hB : P.bytesOf e = B) (h : ∀ n', n = n' + 1 → At enc P w base spare held n' e d Wf) :
    At enc P w base spare held n t (Kd.slice e d) (fun xs => xs.length * B ≤ 140737488351232 ∧ xs.length ≤ maxLen ∧ ∀ v ∈ xs, Wf v) := fun cs x hx hs => by
  rcases DataW.trod_slice ht hx with ⟨rfl, rfl⟩ | ⟨a, len, cap, elems, rest, n', hn, rfl, rfl, hb, hl, hm, hlen, hel, _, _⟩
  · exact ⟨[], ⟨none, 0, rfl, Nat.le_refl _, Kd.C_nil d w⟩, by simp, by simp, by simp⟩
  · have hw := hs ((elems.length + rest.length) * P.bytesOf e) (by simp [DataW.weights, ht])
    have hi : ∀ i : Fin len, ∃ v : α, (∃ cs', w.cells? base (a.add (i.1 * d.sz)) d.sz = some cs' ∧ d.K w v cs') ∧ Wf v := by
      intro i
      have h1 := hel i.1 i.2
      rw [List.getElem?_eq_getElem (by omega)] at h1
      obtain ⟨cs', h2, h3⟩ := Option.bind_eq_some_iff.1 h1
      obtain ⟨v, hk, hv⟩ := h n' hn cs' _ h3 (fun m hm' => hs m (by
        simp only [DataW.weights, ht, List.mem_cons, List.mem_append]
        exact .inr (.inl (weights_all (List.mem_map.2 ⟨_, List.getElem_mem (by omega), rfl⟩) m hm'))))
      rw [hC] at h2
      exact ⟨v, ⟨cs', h2, hk⟩, hv⟩
    refine ⟨List.ofFn fun i => Classical.choose (hi i), ⟨some a, cap, by simp, by simpa using hl, ?_⟩, ?_, ?_, ?_⟩
    · have hmx : maxLen ≤ 9223372036854775807 := by decide
      refine ⟨rfl, by simp; omega, fun _ => ⟨a, rfl, fun j p hj => ?_⟩⟩
      rw [List.getElem?_ofFn] at hj
      split at hj
      · rename_i hlt
        obtain rfl := Option.some.inj hj
        obtain ⟨⟨cs', h2, hk⟩, _⟩ := Classical.choose_spec (hi ⟨j, hlt⟩)
        obtain ⟨_, hcl, hat⟩ := World.cells?_some h2
        refine ⟨cs', hcl, hk, fun i u hu => ?_⟩
        have hil : i < d.sz := by
          have := (List.getElem?_eq_some_iff.1 hu).1
          omega
        rw [← Go.Deep.add_add, hat i hil]
        exact hu
      · cases hj
    · rw [List.length_ofFn, ← hB]
      have h3 : len * P.bytesOf e ≤ (elems.length + rest.length) * P.bytesOf e := Nat.mul_le_mul_right _ (by omega)
      have h4 : reachBytes = 140737488351232 := by decide
      omega
    · rw [List.length_ofFn]; omega
    · intro v hv
      obtain ⟨i, rfl⟩ := List.mem_ofFn.1 hv
      exact (Classical.choose_spec (hi i)).2

theorem at_iso {α β : Type} {d : Kd α} {Wf : α → Prop} {f : β → α} (g : α → β) (hfg : ∀ a, f (g a) = a) (h : At enc P w base spare held n t d Wf) : At enc P w base spare held n t (Kd.iso d f) (fun b => Wf (f b)) := fun cs x hx hs => by
  obtain ⟨v, hk, hv⟩ := h cs x hx hs
  exact ⟨g v, by show d.K w (f (g v)) cs; rw [hfg]; exact hk, by show Wf (f (g v)); rw [hfg]; exact hv⟩

theorem weights_each {fs : Array Field} {xs : List (DataW H × List MemPlace)} {i : Nat} {f : Field} {y : DataW H × List MemPlace} (hf : fs[i]? = some f) (hy : xs[i]? = some y) :
    ∀ m ∈ y.1.weights P f.type, m ∈ DataW.weightsEach P (fs.toList.map (·.type)) (xs.map (·.1)) :=
  DataW.weights_mem_each (j := i) (by simp [hf]) (by simp [hy])

theorem at_struct2 {α β : Type} {a : Kd α} {b : Kd β} {Wa : α → Prop} {Wb : β → Prop} {f0 f1 : Field} (ht : P.underlying t = some (.struct #[f0, f1])) (o0 : f0.offset = 0) (o1 : f1.offset = a.sz)
    (c0 : P.cellsOf f0.type = a.sz) (c1 : P.cellsOf f1.type = b.sz) (hC : P.cellsOf t = a.sz + b.sz) (h0 : ∀ n', n = n' + 1 → At enc P w base spare held n' f0.type a Wa) (h1 : ∀ n', n = n' + 1 → At enc P w base spare held n' f1.type b Wb) :
    At enc P w base spare held n t (Kd.pair a b) (fun v => Wa v.1 ∧ Wb v.2) := fun cs x hx hs => by
  obtain ⟨xs, n', hn, rfl, hl, hxl, hg⟩ := DataW.trod_struct ht hx
  match xs, hxl with
  | [y0, y1], _ =>
    have g0 := hg 0 f0 rfl
    have g1 := hg 1 f1 rfl
    rw [o0, c0, List.drop_zero] at g0
    rw [o1, c1] at g1
    have hs' : ∀ m ∈ DataW.weightsEach P (#[f0, f1].toList.map (·.type)) ([y0, y1].map (·.1)), m ≤ reachBytes := fun m hm => hs m (by simpa only [DataW.weights, ht] using hm)
    obtain ⟨u, ku, wu⟩ := h0 n' hn _ y0 g0 (fun m hm => hs' m (weights_each (i := 0) rfl rfl m hm))
    obtain ⟨v, kv, wv⟩ := h1 n' hn _ y1 g1 (fun m hm => hs' m (weights_each (i := 1) rfl rfl m hm))
    refine ⟨(u, v), ⟨_, _, ?_, ku, kv⟩, wu, wv⟩
    rw [List.take_of_length_le (l := cs.drop a.sz) (by rw [List.length_drop]; omega), List.take_append_drop]

theorem at_struct3 {α β γ : Type} {a : Kd α} {b : Kd β} {c : Kd γ} {Wa : α → Prop} {Wb : β → Prop} {Wc : γ → Prop} {f0 f1 f2 : Field} (ht : P.underlying t = some (.struct #[f0, f1, f2])) (o0 : f0.offset = 0) (o1 : f1.offset = a.sz) (o2 : f2.offset = a.sz + b.sz)
    (c0 : P.cellsOf f0.type = a.sz) (c1 : P.cellsOf f1.type = b.sz) (c2 : P.cellsOf f2.type = c.sz) (hC : P.cellsOf t = a.sz + b.sz + c.sz) (h0 : ∀ n', n = n' + 1 → At enc P w base spare held n' f0.type a Wa) (h1 : ∀ n', n = n' + 1 → At enc P w base spare held n' f1.type b Wb) (h2 : ∀ n', n = n' + 1 → At enc P w base spare held n' f2.type c Wc) :
    At enc P w base spare held n t (Kd.pair a (Kd.pair b c)) (fun v => Wa v.1 ∧ Wb v.2.1 ∧ Wc v.2.2) := fun cs x hx hs => by
  obtain ⟨xs, n', hn, rfl, hl, hxl, hg⟩ := DataW.trod_struct ht hx
  match xs, hxl with
  | [y0, y1, y2], _ =>
    have g0 := hg 0 f0 rfl
    have g1 := hg 1 f1 rfl
    have g2 := hg 2 f2 rfl
    rw [o0, c0, List.drop_zero] at g0
    rw [o1, c1] at g1
    rw [o2, c2] at g2
    have hs' : ∀ m ∈ DataW.weightsEach P (#[f0, f1, f2].toList.map (·.type)) ([y0, y1, y2].map (·.1)), m ≤ reachBytes := fun m hm => hs m (by simpa only [DataW.weights, ht] using hm)
    obtain ⟨u, ku, wu⟩ := h0 n' hn _ y0 g0 (fun m hm => hs' m (weights_each (i := 0) rfl rfl m hm))
    obtain ⟨v, kv, wv⟩ := h1 n' hn _ y1 g1 (fun m hm => hs' m (weights_each (i := 1) rfl rfl m hm))
    obtain ⟨z, kz, wz⟩ := h2 n' hn _ y2 g2 (fun m hm => hs' m (weights_each (i := 2) rfl rfl m hm))
    refine ⟨(u, v, z), ⟨_, _, ?_, ku, _, _, rfl, kv, kz⟩, wu, wv, wz⟩
    rw [List.take_of_length_le (l := cs.drop (a.sz + b.sz)) (by rw [List.length_drop]; omega), ← List.drop_drop, List.take_append_drop, List.take_append_drop]

theorem at_struct4 {α β γ δ : Type} {a : Kd α} {b : Kd β} {c : Kd γ} {d : Kd δ} {Wa : α → Prop} {Wb : β → Prop} {Wc : γ → Prop} {Wd : δ → Prop} {f0 f1 f2 f3 : Field} (ht : P.underlying t = some (.struct #[f0, f1, f2, f3])) (o0 : f0.offset = 0) (o1 : f1.offset = a.sz) (o2 : f2.offset = a.sz + b.sz) (o3 : f3.offset = a.sz + b.sz + c.sz)
    (c0 : P.cellsOf f0.type = a.sz) (c1 : P.cellsOf f1.type = b.sz) (c2 : P.cellsOf f2.type = c.sz) (c3 : P.cellsOf f3.type = d.sz) (hC : P.cellsOf t = a.sz + b.sz + c.sz + d.sz) (h0 : ∀ n', n = n' + 1 → At enc P w base spare held n' f0.type a Wa) (h1 : ∀ n', n = n' + 1 → At enc P w base spare held n' f1.type b Wb) (h2 : ∀ n', n = n' + 1 → At enc P w base spare held n' f2.type c Wc) (h3 : ∀ n', n = n' + 1 → At enc P w base spare held n' f3.type d Wd) :
    At enc P w base spare held n t (Kd.pair a (Kd.pair b (Kd.pair c d))) (fun v => Wa v.1 ∧ Wb v.2.1 ∧ Wc v.2.2.1 ∧ Wd v.2.2.2) := fun cs x hx hs => by
  obtain ⟨xs, n', hn, rfl, hl, hxl, hg⟩ := DataW.trod_struct ht hx
  match xs, hxl with
  | [y0, y1, y2, y3], _ =>
    have g0 := hg 0 f0 rfl
    have g1 := hg 1 f1 rfl
    have g2 := hg 2 f2 rfl
    have g3 := hg 3 f3 rfl
    rw [o0, c0, List.drop_zero] at g0
    rw [o1, c1] at g1
    rw [o2, c2] at g2
    rw [o3, c3] at g3
    have hs' : ∀ m ∈ DataW.weightsEach P (#[f0, f1, f2, f3].toList.map (·.type)) ([y0, y1, y2, y3].map (·.1)), m ≤ reachBytes := fun m hm => hs m (by simpa only [DataW.weights, ht] using hm)
    obtain ⟨u, ku, wu⟩ := h0 n' hn _ y0 g0 (fun m hm => hs' m (weights_each (i := 0) rfl rfl m hm))
    obtain ⟨v, kv, wv⟩ := h1 n' hn _ y1 g1 (fun m hm => hs' m (weights_each (i := 1) rfl rfl m hm))
    obtain ⟨z, kz, wz⟩ := h2 n' hn _ y2 g2 (fun m hm => hs' m (weights_each (i := 2) rfl rfl m hm))
    obtain ⟨q, kq, wq⟩ := h3 n' hn _ y3 g3 (fun m hm => hs' m (weights_each (i := 3) rfl rfl m hm))
    refine ⟨(u, v, z, q), ⟨_, _, ?_, ku, _, _, rfl, kv, _, _, rfl, kz, kq⟩, wu, wv, wz, wq⟩
    have e1 : cs.drop (a.sz + b.sz + c.sz) = (cs.drop (a.sz + b.sz)).drop c.sz := List.drop_drop.symm
    have e2 : cs.drop (a.sz + b.sz) = (cs.drop a.sz).drop b.sz := List.drop_drop.symm
    rw [List.take_of_length_le (l := cs.drop (a.sz + b.sz + c.sz)) (by rw [List.length_drop]; omega), e1, List.take_append_drop, e2, List.take_append_drop, List.take_append_drop]

theorem trod_array {len : Nat} {cs : List Value} {x : DataW H × List MemPlace} (ht : P.underlying t = some (.array len e)) (h : DataW.trod enc P w base spare held n t cs = some x) :
    ∃ (xs : List (DataW H × List MemPlace)) (n' : Nat), n = n' + 1 ∧ x = (.agg (xs.map (·.1)), xs.flatMap (·.2)) ∧ cs.length = P.cellsOf t ∧ xs.length = len ∧
      ∀ i, i < len → DataW.trod enc P w base spare held n' e ((cs.drop (i * P.cellsOf e)).take (P.cellsOf e)) = xs[i]? := by
  cases n with
  | zero => simp [DataW.trod] at h
  | succ n =>
    unfold DataW.trod at h
    rw [ht] at h
    split at h <;> simp_all
    obtain ⟨hl, xs, hp, hd⟩ := h
    exact ⟨xs, hd.symm, by simpa using mapM_some_length hp, fun i hi => mapM_some_get hp i i (by simp [hi])⟩
theorem okWide_array {r : Reach} {b0 len : Nat} {v : Value} (ht : P.underlying t = some (.array len e)) (h : Value.okWide P w r b0 t v) : ∃ cs, v = .agg cs ∧ cs.size = P.cellsOf t := by
  simp only [Value.okWide, ht] at h
  obtain ⟨cs, h1, h2, _⟩ := h
  exact ⟨cs, h1, h2⟩
theorem at_array2 {α : Type} {a : Kd α} {Wa : α → Prop} (ht : P.underlying t = some (.array 2 e)) (c0 : P.cellsOf e = 1) (hC : P.cellsOf t = 2) (h0 : ∀ n', n = n' + 1 → At enc P w base spare held n' e a Wa) :
    At enc P w base spare held n t (Kd.pair a a) (fun v => Wa v.1 ∧ Wa v.2) := fun cs x hx hs => by
  obtain ⟨xs, n', hn, rfl, hl, hxl, hg⟩ := trod_array ht hx
  match xs, hxl with
  | [y0, y1], _ =>
    have hs' : ∀ m ∈ DataW.weightsAll P e ([y0, y1].map (·.1)), m ≤ reachBytes := fun m hm => hs m (by simpa only [DataW.weights, ht] using hm)
    have g0 := hg 0 (by omega)
    have g1 := hg 1 (by omega)
    rw [c0] at g0 g1
    obtain ⟨u, ku, wu⟩ := h0 n' hn _ y0 g0 (fun m hm => hs' m (weights_all (d := y0.1) (by simp) m hm))
    obtain ⟨v, kv, wv⟩ := h0 n' hn _ y1 g1 (fun m hm => hs' m (weights_all (d := y1.1) (by simp) m hm))
    rw [hC] at hl
    refine ⟨(u, v), ⟨_, _, ?_, ku, kv⟩, wu, wv⟩
    match cs, hl with
    | [p, q], _ => rfl
theorem at_array3 {α : Type} {a : Kd α} {Wa : α → Prop} (ht : P.underlying t = some (.array 3 e)) (c0 : P.cellsOf e = 1) (hC : P.cellsOf t = 3) (h0 : ∀ n', n = n' + 1 → At enc P w base spare held n' e a Wa) :
    At enc P w base spare held n t (Kd.pair a (Kd.pair a a)) (fun v => Wa v.1 ∧ Wa v.2.1 ∧ Wa v.2.2) := fun cs x hx hs => by
  obtain ⟨xs, n', hn, rfl, hl, hxl, hg⟩ := trod_array ht hx
  match xs, hxl with
  | [y0, y1, y2], _ =>
    have hs' : ∀ m ∈ DataW.weightsAll P e ([y0, y1, y2].map (·.1)), m ≤ reachBytes := fun m hm => hs m (by simpa only [DataW.weights, ht] using hm)
    have g0 := hg 0 (by omega)
    have g1 := hg 1 (by omega)
    have g2 := hg 2 (by omega)
    rw [c0] at g0 g1 g2
    obtain ⟨u, ku, wu⟩ := h0 n' hn _ y0 g0 (fun m hm => hs' m (weights_all (d := y0.1) (by simp) m hm))
    obtain ⟨v, kv, wv⟩ := h0 n' hn _ y1 g1 (fun m hm => hs' m (weights_all (d := y1.1) (by simp) m hm))
    obtain ⟨z, kz, wz⟩ := h0 n' hn _ y2 g2 (fun m hm => hs' m (weights_all (d := y2.1) (by simp) m hm))
    rw [hC] at hl
    refine ⟨(u, v, z), ⟨_, _, ?_, ku, _, _, rfl, kv, kz⟩, wu, wv, wz⟩
    match cs, hl with
    | [p, q, r], _ => rfl

/-- An argument of a call, opened. -/
theorem arg_open {α : Type} {d : Kd α} {Wf : α → Prop} {v : Value} {dat : DataW H} {ps : List MemPlace} {ts : List TypeId} {ds : List (DataW H)} {j : Nat}
    (hsz : (DataW.weightsEach P ts ds).all (· ≤ reachBytes) = true) (ht : ts[j]? = some t) (hd : ds[j]? = some dat) (h : DataW.Trod enc P w base spare held t v dat ps) (ha : ∀ n, At enc P w base spare held n t d Wf) :
    ∃ x, d.K w x v.cells.toList ∧ Wf x := by
  obtain ⟨fuel, hf⟩ := h
  exact ha fuel _ _ hf (fun m hm => by simpa using List.all_eq_true.1 hsz m (DataW.weights_mem_each ht hd m hm))
end
end Go.Proofs.Ytgickognjlapmaa.Open
