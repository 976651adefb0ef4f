/- Arguments opened: slices of rows, of extents, of calls. Conditions: what each theorem says. -/
import Derived.Test.YtcjeegomonegpaaRows
import Derived.Test.YtcjeegomonegpaaPLivePlaysx0
import Derived.Deep.Slices
import Derived.OpenShut
import Derived.ChangeArms
namespace Go.Proofs.Ytcjeegomonegpaa.PLivePlays
open Go.RowKit Go.Deep Go.ChangeShapes Go.WideShapes Go.Proofs.YtcjeegomonegpaaW.PrintWords Go.Proofs.YtcjeegomonegpaaW.PrintLast Go.Proofs.YtcjeegomonegpaaW.PrintMore
set_option linter.unusedVariables false
set_option linter.unusedSimpArgs false
section
variable {H : Type} {enc : TypeId × Value → H} {W : World}
theorem open_kd {α : Type} [Inhabited α] (d : Kd α) (Q : α → Prop) {t e : TypeId} (ht : Try.prog.underlying t = some (.slice e)) (hsz : Try.prog.cellsOf e = d.sz)
    (hel : ∀ n cs x, DataW.trod enc Try.prog W 0 (fun _ => true) true n e cs = some x → ∃ s, d.K W s cs ∧ Q s) {fuel : Nat} {A : Option Addr} {len c : Nat} {x : DataW H × List MemPlace}
    (h : DataW.trod enc Try.prog W 0 (fun _ => true) true fuel t [.slice A len c] = some x) : ∃ l : List α, l.length = len ∧ len ≤ c ∧ Kd.C d W A len l ∧ ∀ s ∈ l, Q s := by
  rcases open_slice ht h with ⟨h0, -⟩ | ⟨a, n, cap, m, k, D, Pl, h0, hb, hl, hm, hmm, -, hx⟩
  · simp at h0
    obtain ⟨rfl, rfl, rfl⟩ := h0
    exact ⟨[], rfl, Nat.le_refl _, ⟨rfl, by simp, fun h => absurd h (Nat.lt_irrefl 0)⟩, by simp⟩
  · simp at h0
    obtain ⟨rfl, rfl, rfl⟩ := h0
    have hlm : len ≤ m := by rw [hmm]; simp; omega
    have each : ∀ i, i < len → ∃ s : α, (∃ cs, cs.length = d.sz ∧ d.K W s cs ∧ ∀ j u, cs[j]? = some u → W.cell? (a.add (i * d.sz + j)) = some u) ∧ Q s := fun i hi => by
      obtain ⟨cs', h1, h2⟩ := hx i (by omega)
      obtain ⟨_, h3, h4⟩ := World.cells?_some h1
      obtain ⟨s, hs, hq⟩ := hel _ _ _ h2
      refine ⟨s, ⟨cs', by rw [h3, hsz], hs, fun j u hu => ?_⟩, hq⟩
      have hj : j < cs'.length := (List.getElem?_eq_some_iff.1 hu).1
      have := h4 j (by rw [h3] at hj; exact hj)
      rw [Deep.add_add, hsz] at this
      exact this.trans hu
    obtain ⟨f, hf⟩ := choose_lt each
    refine ⟨(List.range len).map f, by simp, hl, ⟨by simp, ?_, fun _ => ⟨a, rfl, fun j p hp => ?_⟩⟩, fun s hs => ?_⟩
    · have : maxLen ≤ 9223372036854775807 := by unfold maxLen; omega
      omega
    · obtain ⟨hj, e⟩ := List.getElem?_eq_some_iff.1 hp
      simp at hj e
      subst e
      exact (hf j hj).1
    · obtain ⟨j, hj, rfl⟩ := List.mem_map.1 hs
      exact (hf j (List.mem_range.1 hj)).2
theorem cellsOf3 : Try.prog.cellsOf 3 = 1 := by kernel_rfl
theorem cellsOf23 : Try.prog.cellsOf 23 = 3 := by kernel_rfl
theorem cellsOf28 : Try.prog.cellsOf 28 = 1 := by kernel_rfl
theorem cellsOf33 : Try.prog.cellsOf 33 = 1 := by kernel_rfl
theorem cellsOf46 : Try.prog.cellsOf 46 = 5 := by kernel_rfl
theorem cellsOf62 : Try.prog.cellsOf 62 = 2 := by kernel_rfl
theorem cellsOf64 : Try.prog.cellsOf 64 = 2 := by kernel_rfl
theorem cellsOf66 : Try.prog.cellsOf 66 = 4 := by kernel_rfl
theorem trod_one {n t : Nat} {cs : List Value} {i : Nat} {y : Option (DataW H × List MemPlace)} {z : DataW H × List MemPlace} (h : DataW.trod enc Try.prog W 0 (fun _ => true) true n t ((cs.drop i).take 1) = y) (hy : y = some z) {v : Value} (hv : cs[i]? = some v) : DataW.trod enc Try.prog W 0 (fun _ => true) true n t [v] = some z := by
  rw [← hy, ← h]
  obtain ⟨hi, rfl⟩ := List.getElem?_eq_some_iff.1 hv
  rw [List.drop_eq_getElem_cons hi]
  rfl
theorem int_of {n : Nat} {v : Value} {z : DataW H × List MemPlace} (h : DataW.trod enc Try.prog W 0 (fun _ => true) true n 3 [v] = some z) : ∃ a, v = .int .i64 a ∧ (Lit.int .i64 a).wf = true := by
  obtain ⟨a, e, _, hw⟩ := DataW.trod_int Try.underlying3 h
  simp at e
  exact ⟨a, e, hw⟩
set_option maxRecDepth 100000 in
theorem open_two {t n : Nat} {cs : List Value} {x : DataW H × List MemPlace} {f0 f1 : Field} (ht : Try.prog.underlying t = some (.struct #[f0, f1])) (hc : Try.prog.cellsOf t = 2) (o0 : f0.offset = 0) (o1 : f1.offset = 1) (t0 : f0.type = 3) (t1 : f1.type = 3)
    (h : DataW.trod enc Try.prog W 0 (fun _ => true) true n t cs = some x) : ∃ a b, cs = [.int .i64 a, .int .i64 b] := by
  obtain ⟨xs, m, rfl, -, hl, hxl, hf⟩ := DataW.trod_struct ht h
  rw [hc] at hl
  have h0 := hf 0 f0 rfl
  have h1 := hf 1 f1 rfl
  rw [o0, t0, cellsOf3] at h0
  rw [o1, t1, cellsOf3] at h1
  match cs, hl, xs, hxl with
  | [v0, v1], _, [y0, y1], _ =>
    obtain ⟨a, rfl, -⟩ := int_of (trod_one h0 rfl (v := v0) rfl)
    obtain ⟨b, rfl, -⟩ := int_of (trod_one h1 rfl (v := v1) rfl)
    exact ⟨a, b, rfl⟩
set_option maxRecDepth 100000 in
theorem open_row {n : Nat} {cs : List Value} {x : DataW H × List MemPlace} (h : DataW.trod enc Try.prog W 0 (fun _ => true) true n 23 cs = some x) : ∃ s : S23, k23.K W s cs ∧ (Lit.int .i64 s.f0).wf = true ∧ (Lit.int .i64 s.f1).wf = true ∧ (Lit.int .i64 s.f2).wf = true := by
  obtain ⟨xs, m, rfl, -, hl, hxl, hf⟩ := DataW.trod_struct Try.underlying23 h
  rw [cellsOf23] at hl
  have h0 : DataW.trod enc Try.prog W 0 (fun _ => true) true m 3 ((cs.drop 0).take 1) = xs[0]? := (congrArg (fun q => DataW.trod enc Try.prog W 0 (fun _ => true) true m 3 ((cs.drop 0).take q)) cellsOf3.symm).trans (hf 0 _ rfl)
  have h1 : DataW.trod enc Try.prog W 0 (fun _ => true) true m 3 ((cs.drop 1).take 1) = xs[1]? := (congrArg (fun q => DataW.trod enc Try.prog W 0 (fun _ => true) true m 3 ((cs.drop 1).take q)) cellsOf3.symm).trans (hf 1 _ rfl)
  have h2 : DataW.trod enc Try.prog W 0 (fun _ => true) true m 3 ((cs.drop 2).take 1) = xs[2]? := (congrArg (fun q => DataW.trod enc Try.prog W 0 (fun _ => true) true m 3 ((cs.drop 2).take q)) cellsOf3.symm).trans (hf 2 _ rfl)
  match cs, hl, xs, hxl with
  | [v0, v1, v2], _, [y0, y1, y2], _ =>
    obtain ⟨a, rfl, wa⟩ := int_of (trod_one h0 rfl (v := v0) rfl)
    obtain ⟨b, rfl, wb⟩ := int_of (trod_one h1 rfl (v := v1) rfl)
    obtain ⟨c, rfl, wc⟩ := int_of (trod_one h2 rfl (v := v2) rfl)
    exact ⟨⟨a, b, c⟩, k23_mk W ⟨a, b, c⟩, wa, wb, wc⟩
set_option maxRecDepth 100000 in
theorem open_ext {n : Nat} {cs : List Value} {x : DataW H × List MemPlace} (h : DataW.trod enc Try.prog W 0 (fun _ => true) true n 66 cs = some x) : ∃ s : S66, k66.K W s cs ∧ True := by
  obtain ⟨xs, m, rfl, -, hl, hxl, hf⟩ := DataW.trod_struct Try.underlying66 h
  rw [cellsOf66] at hl
  have h0 : DataW.trod enc Try.prog W 0 (fun _ => true) true m 64 ((cs.drop 0).take 2) = xs[0]? := (congrArg (fun q => DataW.trod enc Try.prog W 0 (fun _ => true) true m 64 ((cs.drop 0).take q)) cellsOf64.symm).trans (hf 0 _ rfl)
  have h1 : DataW.trod enc Try.prog W 0 (fun _ => true) true m 62 ((cs.drop 2).take 2) = xs[1]? := (congrArg (fun q => DataW.trod enc Try.prog W 0 (fun _ => true) true m 62 ((cs.drop 2).take q)) cellsOf62.symm).trans (hf 1 _ rfl)
  match cs, hl, xs, hxl with
  | [v0, v1, v2, v3], _, [y0, y1], _ =>
    have g0 : DataW.trod enc Try.prog W 0 (fun _ => true) true m 64 [v0, v1] = some y0 := h0
    have g1 : DataW.trod enc Try.prog W 0 (fun _ => true) true m 62 [v2, v3] = some y1 := h1
    obtain ⟨a, b, e0⟩ := open_two Try.underlying64 cellsOf64 rfl rfl rfl rfl g0
    obtain ⟨c, d, e1⟩ := open_two Try.underlying62 cellsOf62 rfl rfl rfl rfl g1
    simp at e0 e1
    obtain ⟨rfl, rfl⟩ := e0
    obtain ⟨rfl, rfl⟩ := e1
    exact ⟨⟨⟨a, b⟩, ⟨c, d⟩⟩, k66_mk W ⟨⟨a, b⟩, ⟨c, d⟩⟩, trivial⟩
instance : Inhabited S66 := ⟨z66⟩
instance : Inhabited S46 := ⟨z46⟩
theorem open_exts {n : Nat} {A : Option Addr} {len c : Nat} {x : DataW H × List MemPlace} (h : DataW.trod enc Try.prog W 0 (fun _ => true) true n 33 [.slice A len c] = some x) : ∃ l : List S66, l.length = len ∧ len ≤ c ∧ Kd.C k66 W A len l := by
  obtain ⟨l, h1, h2, h3, -⟩ := open_kd k66 (fun _ => True) Try.underlying33 cellsOf66 (fun _ _ _ h => open_ext h) h
  exact ⟨l, h1, h2, h3⟩
end
end Go.Proofs.Ytcjeegomonegpaa.PLivePlays
