/- LiveNil: for every input the law answers true and its arguments read behind the call as ahead of it. No condition. -/
import Derived.Test.YtcjeegomonegpaaRows
import Derived.Test.YtcjeegomonegpaaLwNil
import Derived.WalkKit
import Derived.ProofKit
import Derived.OpenShut
import Derived.ShutString
import Derived.ChangeOld
import Derived.Below
import Derived.ChangeSlices
import Derived.SizedLaws
import Derived.Lib.SmallJoins
namespace Go.Proofs.Ytcjeegomonegpaa.liveNil
open Go.ChangeShapes Go.WideShapes Go.ChangeAt Go.RowKit Go.Joins
set_option linter.unusedVariables false
theorem own : ownKnob Try.prog.godebug = none := by kernel_rfl
theorem laidOut : laidOutB Try.prog = true := by kernel_rfl

theorem cells46 : Try.prog.cellsOf 46 = 5 := by kernel_rfl
theorem types46 : Try.prog.cellTypes Try.prog.depth 46 = some [3, 3, 28, 33, 33] := by kernel_rfl
set_option maxRecDepth 100000 in
theorem cell_int {w : World} {r : Reach} {b : Nat} {v : Value} (h : Cell.okWide Try.prog w r b 3 v) : ∃ a, v = .int .i64 a := by
  simp only [Cell.okWide, Try.underlying3] at h
  cases v <;> simp_all [Cell.ok, Try.underlying3]
set_option maxRecDepth 100000 in
theorem cell_slice {w : World} {r : Reach} {b t e : Nat} {v : Value} (ht : Try.prog.underlying t = some (.slice e)) (h : Cell.okWide Try.prog w r b t v) : ∃ a n c, v = .slice a n c := by
  simp only [Cell.okWide, ht] at h
  cases v <;> simp_all [Cell.ok]
set_option maxRecDepth 100000 in
theorem list5 {l : List Value} (h : l.length = 5) : ∃ a b c d e, l = [a, b, c, d, e] := by
  match l, h with
  | [a, b, c, d, e], _ => exact ⟨a, b, c, d, e, rfl⟩
set_option maxRecDepth 100000 in
theorem open_op {w : World} {r : Reach} {b0 : Nat} {v : Value} (hv : Value.okWide Try.prog w r b0 46 v) :
    ∃ a b A2 n2 c2 A3 n3 c3 A4 n4 c4, v = .agg #[.int .i64 a, .int .i64 b, .slice A2 n2 c2, .slice A3 n3 c3, .slice A4 n4 c4] := by
  have hs := Try.underlying46
  simp only [Value.okWide, hs] at hv
  obtain ⟨cs, rfl, hsz, ts, hts, _, hc⟩ := hv
  rw [types46] at hts
  obtain rfl := Option.some.inj hts
  rw [cells46] at hsz
  obtain ⟨l⟩ := cs
  obtain ⟨x0, x1, x2, x3, x4, rfl⟩ := list5 (by simpa using hsz)
  obtain ⟨u0, e0, k0⟩ := hc 0 x0 rfl
  obtain ⟨u1, e1, k1⟩ := hc 1 x1 rfl
  obtain ⟨u2, e2, k2⟩ := hc 2 x2 rfl
  obtain ⟨u3, e3, k3⟩ := hc 3 x3 rfl
  obtain ⟨u4, e4, k4⟩ := hc 4 x4 rfl
  simp at e0 e1 e2 e3 e4
  subst e0 e1 e2 e3 e4
  obtain ⟨a, rfl⟩ := cell_int k0
  obtain ⟨b, rfl⟩ := cell_int k1
  obtain ⟨A2, n2, c2, rfl⟩ := cell_slice Try.underlying28 k2
  obtain ⟨A3, n3, c3, rfl⟩ := cell_slice Try.underlying33 k3
  obtain ⟨A4, n4, c4, rfl⟩ := cell_slice Try.underlying33 k4
  exact ⟨_, _, _, _, _, _, _, _, _, _, _, rfl⟩
set_option maxRecDepth 100000 in
theorem lifted (os : Os) (started : os.Started) (H : Type) (enc : TypeId × Value → H) :
    ReturnsInHanded {} Try.checked os 9 .any (Rows.liveNilSpec.pre6 enc Try.prog Try.f9 Rows.liveNilRow.domain false) (Rows.liveNilSpec.post enc Try.prog Try.f9 false true false false) := by
  refine returnsInHanded_of_change_sized (C := Try.checked) own started (by kernel_rfl) Try.func9
    (ChangeSpec.witness6 (enc := enc) (C := Try.checked) false ⟨#[], #[.agg #[.int .i64 0, .int .i64 0, .slice none 0 0, .slice none 0 0, .slice none 0 0]], []⟩ 8 (by kernel_rfl) (by kernel_rfl) (by kernel_rfl) (by kernel_rfl)) ?_
  intro W base args ds gs before hval0 hW hcnd hsz0 _
  have hval : ∀ (j : Nat) t v, Try.f9.params[j]? = some t → args[j]? = some v → Value.okWide Try.prog W .any base t v := hval0
  have hW' := hW
  obtain ⟨p, q, hA0, hV, rfl, hfz, hnd⟩ := hW
  have hA : DataW.TrodAll enc Try.prog W 0 (fun _ => true) true Try.f9.params.toList args.toList ds p := hA0
  rw [Try.params9] at hA hval
  obtain ⟨v0, vs0, d0, ds0, p0, q0, hargs, rfl, rfl, h0, r0⟩ := trodAll_cons hA
  obtain ⟨rfl, rfl, rfl⟩ := trodAll_nil r0
  obtain rfl : args = #[v0] := by cases args; simp_all
  obtain ⟨rfl, rfl⟩ := trodVars_none hV
  have k0 := h0
  have lt0 : ∀ x ∈ p0, x.block < W.heap.size := by obtain ⟨m, hm⟩ := k0; exact DataW.trod_lt m _ _ _ hm
  obtain ⟨a, b, A2, n2, c2, A3, n3, c3, A4, n4, c4, rfl⟩ := open_op (hval 0 46 v0 rfl rfl)
  clear hA0 hval0 hsz0
  refine (PLivePlays.nil_walk a b A2 A3 A4 n2 c2 n3 c3 n4 c4 W).mono fun e W' ⟨he, bel⟩ => ?_
  subst he
  exact ⟨_, rfl, _, _, _, [], _, [], hW', trodAll_mk1 (shut_bool Try.underlying4 _), (trodAll_cons_mk (Below.trod laidOut (by kernel_rfl) (of_decide_eq_true (by kernel_rfl)) k0 bel lt0) trodAll_mk0), rfl, bel.frame _, fun h => by cases h⟩
theorem over : Rows.liveNilRow.holds Try.pinned (OpenSpec.ofChange Rows.liveNilSpec) :=
  OpenClaim.holds_of_wide 9 Try.f9 rfl rfl rfl rfl rfl rfl rfl ⟨rfl, rfl, rfl, rfl, rfl⟩ rfl rfl rfl rfl rfl (by kernel_rfl) Try.func9 (by kernel_rfl)
    (of_decide_eq_true (by kernel_rfl)) (by unfold Func.isWrapper; first | (rw [if_pos (by decide +kernel)]; kernel_rfl) | (rw [if_neg (by decide +kernel)]; exact ⟨rfl, rfl⟩))
    (fun os started H enc _ => lifted os started H enc)
theorem proved : Rows.LiveNilSaid := over
#print axioms proved
end Go.Proofs.Ytcjeegomonegpaa.liveNil
namespace Go.Proofs.Ytcjeegomonegpaa
/-- The row, under a short name, for the claim. -/
theorem liveNil_holds : Rows.LiveNilSaid := liveNil.proved
end Go.Proofs.Ytcjeegomonegpaa
