/- TopRows: for every input the law answers true and its argument reads behind the call as ahead of it. No condition. -/
import Derived.Test.YtpfnaknmalojkaaGreatC15
import Derived.Deep.Slices
import Derived.OpenShut
import Derived.ChangeArms
import Derived.Test.YtpfnaknmalojkaaGreatRows
import Derived.WalkKit
import Derived.ProofKit
import Derived.ShutString
import Derived.ChangeOld
import Derived.Below
import Derived.ChangeSlices
import Derived.SizedLaws
import Derived.Lib.SmallJoins
namespace Go.Proofs.YtpfnaknmalojkaaGreat.PTopRows
open Go.RowKit Go.Deep Go.ChangeShapes Go.WideShapes Go.Proofs.YtpfnaknmalojkaaGreatW.PrintWords Go.Proofs.YtpfnaknmalojkaaGreatW.PrintLast Go.Proofs.YtpfnaknmalojkaaGreatW.PrintMore
set_option linter.unusedVariables false
set_option linter.unusedSimpArgs false
section
variable {H : Type} {enc : TypeId × Value → H} {W : World}
theorem open_kd {α : Type} [Inhabited α] (d : Kd α) {t e : TypeId} (ht : Tryz.prog.underlying t = some (.slice e)) (hsz : Tryz.prog.cellsOf e = d.sz)
  (hel : ∀ n cs x, DataW.trod enc Tryz.prog W 0 (fun _ => true) true n e cs = some x → ∃ s, d.K W s cs) {fuel : Nat} {A : Option Addr} {len c : Nat} {x : DataW H × List MemPlace}
  (h : DataW.trod enc Tryz.prog W 0 (fun _ => true) true fuel t [.slice A len c] = some x) : ∃ l : List α, l.length = len ∧ len ≤ c ∧ Kd.C d W A len l ∧ (len = 0 ∨ ∃ E S, x.1 = .slice E S ∧ E.length = len) := by
 rcases open_slice ht h with ⟨h0, -⟩ | ⟨a, n, cap, m, k, D, Pl, h0, hb, hl, hm, hmm, he, hx⟩
 ·simp at h0
  obtain ⟨rfl, rfl, rfl⟩ := h0
  exact ⟨[], rfl, Nat.le_refl _, ⟨rfl, by simp, fun h => absurd h (Nat.lt_irrefl 0)⟩, .inl rfl⟩
 ·simp at h0
  obtain ⟨rfl, rfl, rfl⟩ := h0
  have hlm : len ≤ m := by rw [hmm]; simp; omega
  have each : ∀ i, i < len → ∃ s : α, ∃ cs, cs.length = d.sz ∧ d.K W s cs ∧ ∀ j u, cs[j]? = some u → W.cell? (a.add (i * d.sz + j)) = some u := fun i hi => by
   obtain ⟨cs', h1, h2⟩ := hx i (by omega)
   obtain ⟨_, h3, h4⟩ := World.cells?_some h1
   obtain ⟨s, hs⟩ := hel _ _ _ h2
   refine ⟨s, cs', by rw [h3, hsz], hs, fun j u hu => ?_⟩
   have hj : j < cs'.length := (List.getElem?_eq_some_iff.1 hu).1
   have := h4 j (by rw [h3] at hj; exact hj)
   rw [Deep.add_add, hsz] at this
   exact this.trans hu
  obtain ⟨f, hf⟩ := choose_lt each
  refine ⟨(List.range len).map f, by simp, hl, ⟨by simp, ?_, fun _ => ⟨a, rfl, fun j p hp => ?_⟩⟩, .inr ⟨_, _, congrArg Prod.fst he, by simp⟩⟩
  ·have : maxLen ≤ 9223372036854775807 := by unfold maxLen; omega
   omega
  ·obtain ⟨hj, e⟩ := List.getElem?_eq_some_iff.1 hp
   simp at hj e
   subst e
   exact hf j hj
theorem cellsOf3 : Tryz.prog.cellsOf 3 = 1 := by kernel_rfl
theorem cellsOf9 : Tryz.prog.cellsOf 9 = 1 := by kernel_rfl
theorem cellsOf38 : Tryz.prog.cellsOf 38 = 1 := by kernel_rfl
theorem cellsOf63 : Tryz.prog.cellsOf 63 = 6 := by kernel_rfl
theorem cellsOf70 : Tryz.prog.cellsOf 70 = 2 := by kernel_rfl
theorem ZbP {n t : Nat} {cs : List Value} {i : Nat} {y : Option (DataW H × List MemPlace)} {z : DataW H × List MemPlace} (h : DataW.trod enc Tryz.prog W 0 (fun _ => true) true n t ((cs.drop i).take 1) = y) (hy : y = some z) {v : Value} (hv : cs[i]? = some v) : DataW.trod enc Tryz.prog W 0 (fun _ => true) true n t [v] = some z := by
 rw [← hy, ← h]
 obtain ⟨hi, rfl⟩ := List.getElem?_eq_some_iff.1 hv
 rw [List.drop_eq_getElem_cons hi]
 rfl
theorem int_of {n t : Nat} {v : Value} {z : DataW H × List MemPlace} (ht : Tryz.prog.underlying t = some (.int .i64)) (h : DataW.trod enc Tryz.prog W 0 (fun _ => true) true n t [v] = some z) : ∃ a, v = .int .i64 a := by
 obtain ⟨a, e, _, hw⟩ := DataW.trod_int ht h
 simp at e
 exact ⟨a, e⟩
theorem str_of {n t : Nat} {v : Value} {z : DataW H × List MemPlace} (ht : Tryz.prog.underlying t = some .string) (h : DataW.trod enc Tryz.prog W 0 (fun _ => true) true n t [v] = some z) : ∃ a, v = .string a := by
 obtain ⟨a, e, _⟩ := DataW.trod_string ht h
 simp at e
 exact ⟨a, e⟩
theorem slice_shape {t e n : TypeId} (ht : Tryz.prog.underlying t = some (.slice e)) {v : Value} {x : DataW H × List MemPlace} (h : DataW.trod enc Tryz.prog W 0 (fun _ => true) true n t [v] = some x) : ∃ A m c, v = .slice A m c := by
 rcases open_slice ht h with ⟨h0, -⟩ | ⟨a, m, cap, _, _, _, _, h0, -⟩
 ·simp at h0
  exact ⟨_, _, _, h0⟩
 ·simp at h0
  exact ⟨_, _, _, h0⟩
set_option maxRecDepth 100000 in
theorem open_span {n : Nat} {cs : List Value} {x : DataW H × List MemPlace} (h : DataW.trod enc Tryz.prog W 0 (fun _ => true) true n 70 cs = some x) : ∃ s : S70, k70.K W s cs := by
 obtain ⟨xs, m, rfl, -, hl, hxl, hf⟩ := DataW.trod_struct Tryz.underlying70 h
 rw [cellsOf70] at hl
 have h0 : DataW.trod enc Tryz.prog W 0 (fun _ => true) true m 3 ((cs.drop 0).take 1) = xs[0]? := (congrArg (fun q => DataW.trod enc Tryz.prog W 0 (fun _ => true) true m 3 ((cs.drop 0).take q)) cellsOf3.symm).trans (hf 0 _ rfl)
 have h1 : DataW.trod enc Tryz.prog W 0 (fun _ => true) true m 3 ((cs.drop 1).take 1) = xs[1]? := (congrArg (fun q => DataW.trod enc Tryz.prog W 0 (fun _ => true) true m 3 ((cs.drop 1).take q)) cellsOf3.symm).trans (hf 1 _ rfl)
 match cs, hl, xs, hxl with
 | [v0, v1], _, [y0, y1], _ =>
  obtain ⟨a, rfl⟩ := int_of Tryz.underlying3 (ZbP h0 rfl (v := v0) rfl)
  obtain ⟨b, rfl⟩ := int_of Tryz.underlying3 (ZbP h1 rfl (v := v1) rfl)
  exact ⟨⟨a, b⟩, k70_mk W ⟨a, b⟩⟩
instance inhO70 : Inhabited S70 := ⟨z70⟩
instance inhO63 : Inhabited S63 := ⟨z63⟩
set_option maxRecDepth 100000 in
theorem open_rec {n : Nat} {cs : List Value} {x : DataW H × List MemPlace} (h : DataW.trod enc Tryz.prog W 0 (fun _ => true) true n 63 cs = some x) : ∃ s : S63, k63.K W s cs := by
 obtain ⟨xs, m, rfl, -, hl, hxl, hf⟩ := DataW.trod_struct Tryz.underlying63 h
 rw [cellsOf63] at hl
 have h0 : DataW.trod enc Tryz.prog W 0 (fun _ => true) true m 3 ((cs.drop 0).take 1) = xs[0]? := (congrArg (fun q => DataW.trod enc Tryz.prog W 0 (fun _ => true) true m 3 ((cs.drop 0).take q)) cellsOf3.symm).trans (hf 0 _ rfl)
 have h1 : DataW.trod enc Tryz.prog W 0 (fun _ => true) true m 3 ((cs.drop 1).take 1) = xs[1]? := (congrArg (fun q => DataW.trod enc Tryz.prog W 0 (fun _ => true) true m 3 ((cs.drop 1).take q)) cellsOf3.symm).trans (hf 1 _ rfl)
 have h2 : DataW.trod enc Tryz.prog W 0 (fun _ => true) true m 3 ((cs.drop 2).take 1) = xs[2]? := (congrArg (fun q => DataW.trod enc Tryz.prog W 0 (fun _ => true) true m 3 ((cs.drop 2).take q)) cellsOf3.symm).trans (hf 2 _ rfl)
 have h3 : DataW.trod enc Tryz.prog W 0 (fun _ => true) true m 38 ((cs.drop 3).take 1) = xs[3]? := (congrArg (fun q => DataW.trod enc Tryz.prog W 0 (fun _ => true) true m 38 ((cs.drop 3).take q)) cellsOf38.symm).trans (hf 3 _ rfl)
 have h4 : DataW.trod enc Tryz.prog W 0 (fun _ => true) true m 9 ((cs.drop 4).take 1) = xs[4]? := (congrArg (fun q => DataW.trod enc Tryz.prog W 0 (fun _ => true) true m 9 ((cs.drop 4).take q)) cellsOf9.symm).trans (hf 4 _ rfl)
 have h5 : DataW.trod enc Tryz.prog W 0 (fun _ => true) true m 9 ((cs.drop 5).take 1) = xs[5]? := (congrArg (fun q => DataW.trod enc Tryz.prog W 0 (fun _ => true) true m 9 ((cs.drop 5).take q)) cellsOf9.symm).trans (hf 5 _ rfl)
 match cs, hl, xs, hxl with
 | [v0, v1, v2, v3, v4, v5], _, [y0, y1, y2, y3, y4, y5], _ =>
  obtain ⟨a, rfl⟩ := int_of Tryz.underlying3 (ZbP h0 rfl (v := v0) rfl)
  obtain ⟨b, rfl⟩ := int_of Tryz.underlying3 (ZbP h1 rfl (v := v1) rfl)
  obtain ⟨c, rfl⟩ := int_of Tryz.underlying3 (ZbP h2 rfl (v := v2) rfl)
  have g3 := ZbP h3 rfl (v := v3) rfl
  obtain ⟨A3, n3, c3, rfl⟩ := slice_shape Tryz.underlying38 g3
  obtain ⟨l3, e3, q3, r3, -⟩ := open_kd k70 Tryz.underlying38 cellsOf70 (fun _ _ _ h => open_span h) g3
  obtain ⟨s4, rfl⟩ := str_of Tryz.underlying9 (ZbP h4 rfl (v := v4) rfl)
  obtain ⟨s5, rfl⟩ := str_of Tryz.underlying9 (ZbP h5 rfl (v := v5) rfl)
  subst e3
  exact ⟨⟨a, b, c, l3, s4, s5⟩, k63_mk W ⟨a, b, c, l3, s4, s5⟩ q3 r3⟩
theorem open_recs {n : Nat} {A : Option Addr} {len c : Nat} {x : DataW H × List MemPlace} (h : DataW.trod enc Tryz.prog W 0 (fun _ => true) true n 22 [.slice A len c] = some x) : ∃ l : List S63, l.length = len ∧ len ≤ c ∧ Kd.C k63 W A len l ∧ (len = 0 ∨ ∃ E S, x.1 = .slice E S ∧ E.length = len) :=
 open_kd k63 Tryz.underlying22 cellsOf63 (fun _ _ _ h => open_rec h) h
end
end Go.Proofs.YtpfnaknmalojkaaGreat.PTopRows
namespace Go.Proofs.YtpfnaknmalojkaaGreat.topRows
open Go.ChangeShapes Go.WideShapes Go.ChangeAt Go.RowKit Go.Joins
set_option linter.unusedVariables false
theorem own : ownKnob Tryz.prog.godebug = none := by kernel_rfl
theorem laidOut : laidOutB Tryz.prog = true := by kernel_rfl
theorem bytes63 : Tryz.prog.bytesOf 63 = 80 := by kernel_rfl
set_option maxRecDepth 100000 in
theorem lifted (os : Os) (started : os.Started) (H : Type) (enc : TypeId × Value → H) :
  ReturnsInHanded {} Tryz.checked os 3 .any (Rows.topRowsSpec.pre6 enc Tryz.prog Tryz.f3 Rows.topRowsRow.domain false) (Rows.topRowsSpec.post enc Tryz.prog Tryz.f3 false true false false) := by
 refine returnsInHanded_of_change_sized (C := Tryz.checked) own started (by kernel_rfl) Tryz.func3
  (ChangeSpec.witness6 (enc := enc) (C := Tryz.checked) false ⟨#[], #[.slice none 0 0], []⟩ 8 (by kernel_rfl) (by kernel_rfl) (by kernel_rfl) (by kernel_rfl)) ?_
 intro W base args ds gs before hval0 hW hcnd hsz0 _
 have hsz : (DataW.weightsEach Tryz.prog (Tryz.f3.params.toList ++ Rows.topRowsSpec.plain.varTypes Tryz.prog) (ds ++ gs)).all (· ≤ reachBytes) = true := hsz0
 have hval : ∀ (j : Nat) t v, Tryz.f3.params[j]? = some t → args[j]? = some v → Value.okWide Tryz.prog W .any base t v := hval0
 have hW' := hW
 obtain ⟨p, q, hA0, hV, rfl, hfz, hnd⟩ := hW
 have hA : DataW.TrodAll enc Tryz.prog W 0 (fun _ => true) true Tryz.f3.params.toList args.toList ds p := hA0
 rw [Tryz.params3] at hA hval hsz
 obtain ⟨v0, vs0, d0, ds0, p0, q0, hargs, rfl, rfl, h0, r0⟩ := trodAll_cons hA
 obtain ⟨rfl, rfl, rfl⟩ := trodAll_nil r0
 obtain rfl : args = #[v0] := by cases args; simp_all
 obtain ⟨rfl, rfl⟩ := trodVars_none hV
 have k0 := h0
 have lt0 : ∀ x ∈ p0, x.block < W.heap.size := by obtain ⟨m, hm⟩ := k0; exact DataW.trod_lt m _ _ _ hm
 obtain ⟨A0, n0, c0, rfl⟩ := okWide_slice Tryz.underlying22 (hval 0 22 v0 rfl rfl)
 obtain ⟨l0, rfl, hc0, hr0, hw0⟩ : ∃ l : List PTopRows.S63, l.length = n0 ∧ n0 ≤ c0 ∧ Go.Proofs.YtpfnaknmalojkaaGreatW.PrintWords.Kd.C PTopRows.k63 W A0 n0 l ∧ (n0 = 0 ∨ ∃ E S, d0 = .slice E S ∧ E.length = n0) := by obtain ⟨m, hm⟩ := h0; exact PTopRows.open_recs hm
 have hlen : 80 * (l0.length + 1) ≤ 140737488355328 := by
  rcases hw0 with h | ⟨E, S, rfl, hE⟩
  ·omega
  ·have h1 := sized_slice hsz (j := 0) (t := 22) (e := 63) rfl rfl Tryz.underlying22
   rw [bytes63] at h1
   have h2 : reachBytes = 140737488351232 := rfl
   omega
 clear hA0 hval0 hsz0 hsz
 refine (PTopRows.topRows_calls PTopRows.awake_calls l0 A0 c0 W hr0 hc0 hlen).mono fun e W' ⟨he, bel⟩ => ?_
 subst he
 exact ⟨_, rfl, _, _, _, [], _, [], hW', trodAll_mk1 (shut_bool Tryz.underlying4 _), (trodAll_cons_mk (Below.trod laidOut (by kernel_rfl) (of_decide_eq_true (by kernel_rfl)) k0 bel lt0) trodAll_mk0), rfl, bel.frame _, fun h => by cases h⟩
theorem over : Rows.topRowsRow.holds Tryz.pinned (OpenSpec.ofChange Rows.topRowsSpec) :=
 OpenClaim.holds_of_wide 3 Tryz.f3 rfl rfl rfl rfl rfl rfl rfl ⟨rfl, rfl, rfl, rfl, rfl⟩ rfl rfl rfl rfl rfl (by kernel_rfl) Tryz.func3 (by kernel_rfl)
  (of_decide_eq_true (by kernel_rfl)) (by unfold Func.isWrapper; first | (rw [if_pos (by decide +kernel)]; kernel_rfl) | (rw [if_neg (by decide +kernel)]; exact ⟨rfl, rfl⟩))
  (fun os started H enc _ => lifted os started H enc)
theorem proved : Rows.TopRowsSaid := over
end Go.Proofs.YtpfnaknmalojkaaGreat.topRows
namespace Go.Proofs.YtpfnaknmalojkaaGreat
theorem topRows_holds : Rows.TopRowsSaid := topRows.proved
end Go.Proofs.YtpfnaknmalojkaaGreat
