/- The rows of package live as values and as data; a map of rows by their numbers. Conditions: what each theorem says. -/
import Derived.Test.YtcjeegomonegpaaPLivePlaysx4
import Derived.Maps.Range
import Derived.Maps.Ext
namespace Go.Proofs.Ytcjeegomonegpaa.PLivePlays
open Go.RowKit Go.Maps Go.Proofs.YtcjeegomonegpaaW.PrintWords Go.Proofs.YtcjeegomonegpaaW.PrintLast Go.Proofs.YtcjeegomonegpaaW.PrintMore
set_option linter.unusedVariables false
set_option linter.unusedSimpArgs false
/-- A row's value, its three cells, its datum. -/
def rowV (x : S23) : Value := .agg #[.int .i64 x.f0, .int .i64 x.f1, .int .i64 x.f2]
def rowL (x : S23) : List Value := [.int .i64 x.f0, .int .i64 x.f1, .int .i64 x.f2]
def rowD (x : S23) : DataW Unit := .agg [.lit (.int .i64 x.f0), .lit (.int .i64 x.f1), .lit (.int .i64 x.f2)]
def rowI : Value → Option Int
  | .int .i64 a => some a
  | _ => none
def rowT : List Value → Option S23
  | [a, b, c] => (rowI a).bind fun x => (rowI b).bind fun y => (rowI c).bind fun z => some ⟨x, y, z⟩
  | _ => none
def rowR : Value → Option (DataW Unit × List MemPlace)
  | .agg cs => (rowT cs.toList).map fun x => (rowD x, [])
  | _ => none
theorem rowI_inv {v : Value} {a : Int} (h : rowI v = some a) : v = .int .i64 a := by
  unfold rowI at h
  split at h
  · cases h; rfl
  · cases h
theorem rowT_inv {l : List Value} {x : S23} (h : rowT l = some x) : l = [.int .i64 x.f0, .int .i64 x.f1, .int .i64 x.f2] := by
  unfold rowT at h
  split at h
  · obtain ⟨a, ha, h⟩ := Option.bind_eq_some_iff.1 h
    obtain ⟨b, hb, h⟩ := Option.bind_eq_some_iff.1 h
    obtain ⟨c, hc, h⟩ := Option.bind_eq_some_iff.1 h
    cases h
    rw [rowI_inv ha, rowI_inv hb, rowI_inv hc]
  · cases h
theorem rowR_mk (x : S23) : rowR (rowV x) = some (rowD x, []) := rfl
theorem rowR_inv {v : Value} {z : DataW Unit × List MemPlace} (h : rowR v = some z) : ∃ x, v = rowV x ∧ z = (rowD x, []) := by
  unfold rowR at h
  split at h
  · rename_i cs
    obtain ⟨x, hx, h⟩ := Option.map_eq_some_iff.1 h
    refine ⟨x, ?_, h.symm⟩
    have := rowT_inv hx
    unfold rowV
    congr 1
    cases cs
    simpa using this
  · cases h
theorem rowD_inj {x y : S23} (h : rowD x = rowD y) : x = y := by
  cases x; cases y
  simp [rowD] at h
  obtain ⟨rfl, rfl, rfl⟩ := h
  rfl
/-- A row that may be. -/
def MayR (x : S23) : Prop := 1 ≤ x.f0 ∧ x.f0 < 1099511627776 ∧ 0 ≤ x.f1 ∧ x.f1 ≤ 65536 ∧ 0 ≤ x.f2 ∧ x.f2 ≤ x.f1
instance (x : S23) : Decidable (MayR x) := by unfold MayR; infer_instance
theorem keyed3 : Keyed Try.prog 3 := int_keyed Try.underlying3
theorem wf_of {a : Int} (h1 : -9223372036854775808 ≤ a) (h2 : a ≤ 9223372036854775807) : (Lit.int .i64 a).wf = true := by
  have e1 : IntKind.i64.min = -9223372036854775808 := by decide
  have e2 : IntKind.i64.max = 9223372036854775807 := by decide
  simp [Lit.wf, e1, e2, h1, h2]
theorem key_row {x : S23} (h : MayR x) : keyOf Try.prog 3 (.int .i64 x.f0) = some (.int .i64 x.f0) := keyOf_int_mk Try.underlying3 (wf_of (by have := h.1; omega) (by have := h.2.1; omega))
/-- D is the rows T by their numbers. -/
def MapOf (D : DataW Unit) (T : List S23) : Prop :=
  T.Pairwise (fun x y => x.f0 < y.f0) ∧ (∀ x ∈ T, MayR x) ∧ (∀ kl, Maps.has D kl = true ↔ ∃ x ∈ T, kl = .int .i64 x.f0) ∧ ∀ x ∈ T, ∀ zd, D.atKey (.int .i64 x.f0) zd = rowD x
def TMap (w : World) (b N : Nat) (T : List S23) : Prop := T.length ≤ N ∧ ∃ D, w.ownsMap Try.prog 3 rowR b N D ∧ MapOf D T
theorem MapOf.nil : MapOf (.map []) [] := ⟨List.Pairwise.nil, by simp, fun kl => by simp [Maps.has], by simp⟩
theorem TMap.lt {w : World} {b N : Nat} {T : List S23} (h : TMap w b N T) : b < w.heap.size := by
  obtain ⟨_, D, h, _⟩ := h
  exact h.lt
theorem TMap.kept {w w' : World} {b N : Nat} {T : List S23} {row : Option Nat} (h : TMap w b N T) (hg : w.grownBy w' row) (hne : some b ≠ row) : TMap w' b N T := by
  obtain ⟨h0, D, h, h1⟩ := h
  exact ⟨h0, D, h.kept hg hne, h1⟩
theorem TMap.mono {w : World} {b N M : Nat} {T : List S23} (h : TMap w b N T) (hM : N ≤ M) : TMap w b M T := by
  obtain ⟨h0, D, h, h1⟩ := h
  exact ⟨by omega, D, h.mono hM, h1⟩
theorem TMap.below {w w' : World} {b N : Nat} {T : List S23} (h : TMap w b N T) (hb : Below w.heap.size w w') : TMap w' b N T := by
  obtain ⟨h0, D, ⟨es, clock, hh, F, hs, hD⟩, h1⟩ := h
  exact ⟨h0, D, ⟨es, clock, (hb.block b (Array.getElem?_eq_some_iff.1 hh).1).trans hh, F, hs, hD⟩, h1⟩
/-- A row into rows by rising numbers. -/
def putT (x : S23) : List S23 → List S23
  | [] => [x]
  | y :: T => if x.f0 < y.f0 then x :: y :: T else if x.f0 = y.f0 then x :: T else y :: putT x T
theorem putT_len (x : S23) (T : List S23) : (putT x T).length ≤ T.length + 1 := by
  induction T with
  | nil => simp [putT]
  | cons y T ih =>
    unfold putT
    split
    · simp
    · split
      · simp
      · simp
        omega
theorem mem_putT {x z : S23} {T : List S23} (hT : T.Pairwise (fun x y => x.f0 < y.f0)) : z ∈ putT x T ↔ z = x ∨ (z ∈ T ∧ z.f0 ≠ x.f0) := by
  induction T with
  | nil => simp [putT]
  | cons y T ih =>
    obtain ⟨h1, h2⟩ := List.pairwise_cons.1 hT
    unfold putT
    split
    · rename_i hlt
      simp only [List.mem_cons]
      constructor
      · rintro (h | h | h)
        · exact .inl h
        · exact .inr ⟨.inl h, by rw [h]; omega⟩
        · exact .inr ⟨.inr h, by have := h1 z h; omega⟩
      · rintro (h | ⟨h | h, _⟩)
        · exact .inl h
        · exact .inr (.inl h)
        · exact .inr (.inr h)
    · split
      · rename_i hge heq
        simp only [List.mem_cons]
        constructor
        · rintro (h | h)
          · exact .inl h
          · exact .inr ⟨.inr h, by have := h1 z h; omega⟩
        · rintro (h | ⟨h | h, hn⟩)
          · exact .inl h
          · subst h
            exact absurd heq.symm hn
          · exact .inr h
      · rename_i hge hne
        simp only [List.mem_cons, ih h2]
        constructor
        · rintro (h | h | ⟨h, hn⟩)
          · subst h
            exact .inr ⟨.inl rfl, fun e => hne e.symm⟩
          · exact .inl h
          · exact .inr ⟨.inr h, hn⟩
        · rintro (h | ⟨h | h, hn⟩)
          · exact .inr (.inl h)
          · exact .inl h
          · exact .inr (.inr ⟨h, hn⟩)
theorem putT_sorted {x : S23} {T : List S23} (hT : T.Pairwise (fun x y => x.f0 < y.f0)) : (putT x T).Pairwise (fun x y => x.f0 < y.f0) := by
  induction T with
  | nil => simp [putT]
  | cons y T ih =>
    obtain ⟨h1, h2⟩ := List.pairwise_cons.1 hT
    unfold putT
    split
    · rename_i hlt
      refine List.pairwise_cons.2 ⟨fun z hz => ?_, hT⟩
      rcases List.mem_cons.1 hz with rfl | hz
      · exact hlt
      · have := h1 z hz
        omega
    · split
      · rename_i hge heq
        refine List.pairwise_cons.2 ⟨fun z hz => ?_, h2⟩
        have := h1 z hz
        omega
      · rename_i hge hne
        refine List.pairwise_cons.2 ⟨fun z hz => ?_, ih h2⟩
        rcases (mem_putT h2).1 hz with rfl | ⟨hz, _⟩
        · omega
        · exact h1 z hz
theorem MapOf.put {D : DataW Unit} {T : List S23} {x : S23} (h : MapOf D T) (hx : MayR x) (hm : IsMap D) : MapOf (D.put (.int .i64 x.f0) (rowD x)) (putT x T) := by
  obtain ⟨h1, h2, h3, h4⟩ := h
  have hk : WideAt.IsKeyLit (.int .i64 x.f0) := by
    have := keyed3.key (key_row hx)
    exact this
  refine ⟨putT_sorted h1, fun z hz => ?_, fun kl => ?_, fun z hz zd => ?_⟩
  · rcases (mem_putT h1).1 hz with rfl | ⟨hz, _⟩
    · exact hx
    · exact h2 z hz
  · by_cases he : kl = .int .i64 x.f0
    · subst he
      rw [has_put_same hm hk]
      simp only [true_iff]
      exact ⟨x, (mem_putT h1).2 (.inl rfl), rfl⟩
    · rw [has_put_other he, h3]
      constructor
      · rintro ⟨z, hz, rfl⟩
        exact ⟨z, (mem_putT h1).2 (.inr ⟨hz, fun e => he (by rw [e])⟩), rfl⟩
      · rintro ⟨z, hz, rfl⟩
        rcases (mem_putT h1).1 hz with rfl | ⟨hz, _⟩
        · exact absurd rfl he
        · exact ⟨z, hz, rfl⟩
  · rcases (mem_putT h1).1 hz with rfl | ⟨hz, hne⟩
    · exact atKey_put_same hm hk _ _
    · rw [atKey_put_other (by simpa using hne)]
      exact h4 z hz zd
/-- The row of a number. -/
def findT (T : List S23) (k : Int) : Option S23 := T.find? (fun x => x.f0 == k)
theorem findT_some {T : List S23} {k : Int} {x : S23} (h : findT T k = some x) : x ∈ T ∧ x.f0 = k := by
  unfold findT at h
  exact ⟨List.mem_of_find?_eq_some h, by simpa using List.find?_some h⟩
theorem findT_none {T : List S23} {k : Int} (h : findT T k = none) : ∀ x ∈ T, x.f0 ≠ k := by
  unfold findT at h
  intro x hx
  simpa using List.find?_eq_none.1 h x hx
theorem MapOf.has_iff {D : DataW Unit} {T : List S23} (h : MapOf D T) (k : Int) : Maps.has D (.int .i64 k) = (findT T k).isSome := by
  cases hf : findT T k with
  | some x =>
    obtain ⟨hx, rfl⟩ := findT_some hf
    rw [(h.2.2.1 _).2 ⟨x, hx, rfl⟩]
    rfl
  | none =>
    have hn := findT_none hf
    cases hh : Maps.has D (.int .i64 k) with
    | false => rfl
    | true =>
      obtain ⟨x, hx, e⟩ := (h.2.2.1 _).1 hh
      injection e with _ e
      exact absurd e.symm (hn x hx)
theorem zero23 (w : World) : (zeroValue 23).run Try.prog w = .ok (rowV ⟨0, 0, 0⟩) w := Try.zeroValue23 w
/-- 'r, ok := m[k]'. -/
theorem TMap.look {w : World} {b N : Nat} {T : List S23} {k : Int} (h : TMap w b N T) (hk : (Lit.int .i64 k).wf = true) :
    (Instr.lookup 77 (.map (some b)) (.int .i64 k) true).run Try.prog w = .ok (.tuple #[rowV ((findT T k).getD ⟨0, 0, 0⟩), .bool (findT T k).isSome]) w := by
  obtain ⟨_, D, h, hm⟩ := h
  obtain ⟨v, ps, hrun, hv⟩ := h.look_ok keyed3 Try.underlying77 (zero23 w) (rowR_mk ⟨0, 0, 0⟩) (keyOf_int_mk Try.underlying3 hk)
  rw [hm.has_iff k] at hrun
  cases hf : findT T k with
  | some x =>
    obtain ⟨hx, rfl⟩ := findT_some hf
    rw [hm.2.2.2 x hx] at hv
    obtain ⟨y, rfl, hy⟩ := rowR_inv hv
    have hy := (Prod.mk.inj hy).1
    rw [hf] at hrun
    rw [← rowD_inj hy] at hrun
    exact hrun
  | none =>
    have hd : ∀ z, D.atKey (.int .i64 k) z = z := fun z => by
      have : Maps.has D (.int .i64 k) = false := by rw [hm.has_iff, hf]; rfl
      exact atKey_of_not_has this z
    rw [hd] at hv
    obtain ⟨y, rfl, hy⟩ := rowR_inv hv
    have hy := (Prod.mk.inj hy).1
    rw [hf] at hrun
    rw [← rowD_inj hy] at hrun
    exact hrun
end Go.Proofs.Ytcjeegomonegpaa.PLivePlays
