/- YtcjeegomonegpaaCb4: what this claim rests on. Words and contracts are those of the kit's print (print.sh wrote them, those that nothing here reaches are left out); all else is own work. Conditions: what each theorem says. -/
import Derived.Test.YtcjeegomonegpaaCb3
namespace Go.Proofs.Ytcjeegomonegpaa.PLivePlays
open Go.RowKit Go.Maps Go.Sort Go.Proofs.YtcjeegomonegpaaW.PrintWords Go.Proofs.YtcjeegomonegpaaW.PrintLast Go.Proofs.YtcjeegomonegpaaW.PrintMore
set_option linter.unusedVariables false
set_option linter.unusedSimpArgs false
def NetR (x : S23) : Prop := 1 ≤ x.f0 ∧ x.f0 < 1099511627776 ∧ -1000000000 ≤ x.f1 ∧ x.f1 ≤ 1000000000 ∧ x.f2 = x.f1
theorem key_net {x : S23} (h : NetR x) : keyOf Try.prog 3 (.int .i64 x.f0) = some (.int .i64 x.f0) := keyOf_int_mk Try.underlying3 (wf_of (by have := h.1; omega) (by have := h.2.1; omega))
def NetOf (D : DataW Unit) (T : List S23) : Prop :=
  T.Pairwise (fun x y => x.f0 < y.f0) ∧ (∀ x ∈ T, NetR x) ∧ (∀ kl, Maps.has D kl = true ↔ ∃ x ∈ T, kl = .int .i64 x.f0) ∧ ∀ x ∈ T, ∀ zd, D.atKey (.int .i64 x.f0) zd = numD x.f1
def NMap (w : World) (b N : Nat) (T : List S23) : Prop := T.length ≤ N ∧ ∃ D, w.ownsMap Try.prog 3 intR b N D ∧ NetOf D T
theorem NetOf.nil : NetOf (.map []) [] := ⟨List.Pairwise.nil, by simp, fun kl => by simp [Maps.has], by simp⟩
theorem NMap.lt {w : World} {b N : Nat} {T : List S23} (h : NMap w b N T) : b < w.heap.size := by
  obtain ⟨_, D, h, _⟩ := h
  exact h.lt
theorem NMap.kept {w w' : World} {b N : Nat} {T : List S23} {row : Option Nat} (h : NMap w b N T) (hg : w.grownBy w' row) (hne : some b ≠ row) : NMap w' b N T := by
  obtain ⟨h0, D, h, h1⟩ := h
  exact ⟨h0, D, h.kept hg hne, h1⟩
theorem NMap.mono {w : World} {b N M : Nat} {T : List S23} (h : NMap w b N T) (hM : N ≤ M) : NMap w b M T := by
  obtain ⟨h0, D, h, h1⟩ := h
  exact ⟨by omega, D, h.mono hM, h1⟩
theorem NMap.below {w w' : World} {b N : Nat} {T : List S23} (h : NMap w b N T) (hb : Below w.heap.size w w') : NMap w' b N T := h.kept (grown_of_below hb none) (by simp)
theorem NetOf.put {D : DataW Unit} {T : List S23} {x : S23} (h : NetOf D T) (hx : NetR x) (hm : IsMap D) : NetOf (D.put (.int .i64 x.f0) (numD x.f1)) (putT x T) := by
  obtain ⟨h1, h2, h3, h4⟩ := h
  have hk : WideAt.IsKeyLit (.int .i64 x.f0) := keyed3.key (key_net hx)
  refine ⟨putT_sorted h1, fun z hz => ?_, fun kl => ?_, fun z hz zd => ?_⟩
  · rcases (mem_putT h1).1 hz with rfl | ⟨hz, _⟩
    · exact hx
    · exact h2 z hz
  · by_cases he : kl = .int .i64 x.f0
    · subst he
      rw [has_put_same hm hk]
      simp only [true_iff]
      exact ⟨x, (mem_putT h1).2 (.inl rfl), rfl⟩
    · rw [has_put_other he, h3]
      constructor
      · rintro ⟨z, hz, rfl⟩
        exact ⟨z, (mem_putT h1).2 (.inr ⟨hz, fun e => he (by rw [e])⟩), rfl⟩
      · rintro ⟨z, hz, rfl⟩
        rcases (mem_putT h1).1 hz with rfl | ⟨hz, _⟩
        · exact absurd rfl he
        · exact ⟨z, hz, rfl⟩
  · rcases (mem_putT h1).1 hz with rfl | ⟨hz, hne⟩
    · exact atKey_put_same hm hk _ _
    · rw [atKey_put_other (by simpa using hne)]
      exact h4 z hz zd
theorem NetOf.has_iff {D : DataW Unit} {T : List S23} (h : NetOf D T) (k : Int) : Maps.has D (.int .i64 k) = (findT T k).isSome := by
  cases hf : findT T k with
  | some x =>
    obtain ⟨hx, rfl⟩ := findT_some hf
    rw [(h.2.2.1 _).2 ⟨x, hx, rfl⟩]
    rfl
  | none =>
    have hn := findT_none hf
    cases hh : Maps.has D (.int .i64 k) with
    | false => rfl
    | true =>
      obtain ⟨x, hx, e⟩ := (h.2.2.1 _).1 hh
      injection e with _ e
      exact absurd e.symm (hn x hx)
theorem NMap.look {w : World} {b N : Nat} {T : List S23} {k : Int} (h : NMap w b N T) (hk : (Lit.int .i64 k).wf = true) :
    (Instr.lookup 70 (.map (some b)) (.int .i64 k) false).run Try.prog w = .ok (.int .i64 (valT T k)) w := by
  obtain ⟨_, D, h, hm⟩ := h
  obtain ⟨c, hrun, hat, hwc⟩ := h.lookup_int keyed3 Try.underlying70 Try.underlying3 (zero3c w) (keyOf_int_mk Try.underlying3 hk)
  refine hrun.trans ?_
  have hc : c = valT T k := ?_
  · rw [hc]
  unfold valT
  cases hf : findT T k with
  | some x =>
    obtain ⟨hx, rfl⟩ := findT_some hf
    rw [hm.2.2.2 x hx] at hat
    simp [numD] at hat
    simpa using hat.symm
  | none =>
    have hh : Maps.has D (.int .i64 k) = false := by rw [hm.has_iff, hf]; rfl
    rw [atKey_of_not_has hh] at hat
    simp at hat
    simpa using hat.symm
theorem wp_putN {ops : Array Oper} {rest : List Oper} {o : Oper} {a : Act} {Q : Exit → Act → World → Prop} {W : World} {b N : Nat} {T : List S23} (hg : o.guard = none) (m x v : Operand) (hop : o.op = Op.mapUpdate 70 m x v)
    (hT : NMap W b N T) (hN : N < 1000000) (X : S23) (hX : NetR X) (hm : a.eval m = .map (some b)) (hx : a.eval x = .int .i64 X.f0) (hv : a.eval v = .int .i64 X.f1)
    (hK : ∀ w', NMap w' b (N + 1) (putT X T) → W.grownBy w' (some b) → wpList Try.prog ops Q rest (a.put o.dst undef) w') : wpList Try.prog ops Q (o :: rest) a W := by
  obtain ⟨h0, D, hown, hD⟩ := hT
  have hwf : (Lit.int .i64 X.f1).wf = true := wf_of (by have := hX.2.2.1; omega) (by have := hX.2.2.2.1; omega)
  refine wpList_mapUpdate_own W hg m x v 70 hop 3 3 keyed3 Try.underlying70 intR b N D hm hown (by unfold maxLen; omega) _ _ _ hx hv (key_net hX) (numD X.f1) [] (plainElem_int Try.underlying3 hwf) fun w' h1 h2 => ?_
  refine hK w' ⟨?_, _, h1, hD.put hX hown.isMap⟩ h2
  have := putT_len X T
  omega
def LooseR (x : S23) : Prop := 1 ≤ x.f0 ∧ x.f0 < 1099511627776 ∧ -3000000000 ≤ x.f1 ∧ x.f1 ≤ 3000000000 ∧ -3000000000 ≤ x.f2 ∧ x.f2 ≤ 3000000000
theorem key_loose {x : S23} (h : LooseR x) : keyOf Try.prog 3 (.int .i64 x.f0) = some (.int .i64 x.f0) := keyOf_int_mk Try.underlying3 (wf_of (by have := h.1; omega) (by have := h.2.1; omega))
theorem MayR.loose {x : S23} (h : MayR x) : LooseR x := by
  obtain ⟨h1, h2, h3, h4, h5, h6⟩ := h
  exact ⟨h1, h2, by omega, by omega, by omega, by omega⟩
def LooseOf (D : DataW Unit) (T : List S23) : Prop :=
  T.Pairwise (fun x y => x.f0 < y.f0) ∧ (∀ x ∈ T, LooseR x) ∧ (∀ kl, Maps.has D kl = true ↔ ∃ x ∈ T, kl = .int .i64 x.f0) ∧ ∀ x ∈ T, ∀ zd, D.atKey (.int .i64 x.f0) zd = rowD x
def LMap (w : World) (b N : Nat) (T : List S23) : Prop := T.length ≤ N ∧ ∃ D, w.ownsMap Try.prog 3 rowR b N D ∧ LooseOf D T
theorem LooseOf.nil : LooseOf (.map []) [] := ⟨List.Pairwise.nil, by simp, fun kl => by simp [Maps.has], by simp⟩
theorem LMap.lt {w : World} {b N : Nat} {T : List S23} (h : LMap w b N T) : b < w.heap.size := by
  obtain ⟨_, D, h, _⟩ := h
  exact h.lt
theorem LMap.kept {w w' : World} {b N : Nat} {T : List S23} {row : Option Nat} (h : LMap w b N T) (hg : w.grownBy w' row) (hne : some b ≠ row) : LMap w' b N T := by
  obtain ⟨h0, D, h, h1⟩ := h
  exact ⟨h0, D, h.kept hg hne, h1⟩
theorem LMap.mono {w : World} {b N M : Nat} {T : List S23} (h : LMap w b N T) (hM : N ≤ M) : LMap w b M T := by
  obtain ⟨h0, D, h, h1⟩ := h
  exact ⟨by omega, D, h.mono hM, h1⟩
theorem LMap.below {w w' : World} {b N : Nat} {T : List S23} (h : LMap w b N T) (hb : Below w.heap.size w w') : LMap w' b N T := by
  obtain ⟨h0, D, ⟨es, clock, hh, F, hs, hD⟩, h1⟩ := h
  exact ⟨h0, D, ⟨es, clock, (hb.block b (Array.getElem?_eq_some_iff.1 hh).1).trans hh, F, hs, hD⟩, h1⟩
theorem LooseOf.put {D : DataW Unit} {T : List S23} {x : S23} (h : LooseOf D T) (hx : LooseR x) (hm : IsMap D) : LooseOf (D.put (.int .i64 x.f0) (rowD x)) (putT x T) := by
  obtain ⟨h1, h2, h3, h4⟩ := h
  have hk : WideAt.IsKeyLit (.int .i64 x.f0) := by
    have := keyed3.key (key_loose hx)
    exact this
  refine ⟨putT_sorted h1, fun z hz => ?_, fun kl => ?_, fun z hz zd => ?_⟩
  · rcases (mem_putT h1).1 hz with rfl | ⟨hz, _⟩
    · exact hx
    · exact h2 z hz
  · by_cases he : kl = .int .i64 x.f0
    · subst he
      rw [has_put_same hm hk]
      simp only [true_iff]
      exact ⟨x, (mem_putT h1).2 (.inl rfl), rfl⟩
    · rw [has_put_other he, h3]
      constructor
      · rintro ⟨z, hz, rfl⟩
        exact ⟨z, (mem_putT h1).2 (.inr ⟨hz, fun e => he (by rw [e])⟩), rfl⟩
      · rintro ⟨z, hz, rfl⟩
        rcases (mem_putT h1).1 hz with rfl | ⟨hz, _⟩
        · exact absurd rfl he
        · exact ⟨z, hz, rfl⟩
  · rcases (mem_putT h1).1 hz with rfl | ⟨hz, hne⟩
    · exact atKey_put_same hm hk _ _
    · rw [atKey_put_other (by simpa using hne)]
      exact h4 z hz zd
theorem LooseOf.has_iff {D : DataW Unit} {T : List S23} (h : LooseOf D T) (k : Int) : Maps.has D (.int .i64 k) = (findT T k).isSome := by
  cases hf : findT T k with
  | some x =>
    obtain ⟨hx, rfl⟩ := findT_some hf
    rw [(h.2.2.1 _).2 ⟨x, hx, rfl⟩]
    rfl
  | none =>
    have hn := findT_none hf
    cases hh : Maps.has D (.int .i64 k) with
    | false => rfl
    | true =>
      obtain ⟨x, hx, e⟩ := (h.2.2.1 _).1 hh
      injection e with _ e
      exact absurd e.symm (hn x hx)
theorem LMap.look {w : World} {b N : Nat} {T : List S23} {k : Int} (h : LMap w b N T) (hk : (Lit.int .i64 k).wf = true) :
    (Instr.lookup 77 (.map (some b)) (.int .i64 k) true).run Try.prog w = .ok (.tuple #[rowV ((findT T k).getD ⟨0, 0, 0⟩), .bool (findT T k).isSome]) w := by
  obtain ⟨_, D, h, hm⟩ := h
  obtain ⟨v, ps, hrun, hv⟩ := h.look_ok keyed3 Try.underlying77 (zero23 w) (rowR_mk ⟨0, 0, 0⟩) (keyOf_int_mk Try.underlying3 hk)
  rw [hm.has_iff k] at hrun
  cases hf : findT T k with
  | some x =>
    obtain ⟨hx, rfl⟩ := findT_some hf
    rw [hm.2.2.2 x hx] at hv
    obtain ⟨y, rfl, hy⟩ := rowR_inv hv
    have hy := (Prod.mk.inj hy).1
    rw [hf] at hrun
    rw [← rowD_inj hy] at hrun
    exact hrun
  | none =>
    have hd : ∀ z, D.atKey (.int .i64 k) z = z := fun z => by
      have : Maps.has D (.int .i64 k) = false := by rw [hm.has_iff, hf]; rfl
      exact atKey_of_not_has this z
    rw [hd] at hv
    obtain ⟨y, rfl, hy⟩ := rowR_inv hv
    have hy := (Prod.mk.inj hy).1
    rw [hf] at hrun
    rw [← rowD_inj hy] at hrun
    exact hrun
theorem wp_putL {ops : Array Oper} {rest : List Oper} {o : Oper} {a : Act} {Q : Exit → Act → World → Prop} {W : World} {b N : Nat} {T : List S23} (hg : o.guard = none) (m x v : Operand) (hop : o.op = Op.mapUpdate 77 m x v)
    (hT : LMap W b N T) (hN : N < 1000000) (X : S23) (hX : LooseR X) (hm : a.eval m = .map (some b)) (hx : a.eval x = .int .i64 X.f0) (hv : a.eval v = rowV X)
    (hK : ∀ w', LMap w' b (N + 1) (putT X T) → W.grownBy w' (some b) → wpList Try.prog ops Q rest (a.put o.dst undef) w') : wpList Try.prog ops Q (o :: rest) a W := by
  obtain ⟨h0, D, hown, hD⟩ := hT
  refine wpList_mapUpdate_own W hg m x v 77 hop 3 23 keyed3 Try.underlying77 rowR b N D hm hown (by unfold maxLen; omega) _ _ _ hx hv (key_loose hX) (rowD X) [] (rowR_mk X) fun w' h1 h2 => ?_
  refine hK w' ⟨?_, _, h1, hD.put hX ?_⟩ h2
  · have := putT_len X T
    omega
  · exact hown.isMap
theorem TMap.loose {w : World} {b N : Nat} {T : List S23} (h : TMap w b N T) : LMap w b N T := by
  obtain ⟨h0, D, h, h1, h2, h3, h4⟩ := h
  exact ⟨h0, D, h, h1, fun x hx => (h2 x hx).loose, h3, h4⟩
theorem LMap.tight {w : World} {b N : Nat} {T : List S23} (h : LMap w b N T) (hm : ∀ x ∈ T, MayR x) : TMap w b N T := by
  obtain ⟨h0, D, h, h1, h2, h3, h4⟩ := h
  exact ⟨h0, D, h, h1, hm, h3, h4⟩
theorem CMap.net {w : World} {b N : Nat} {T : List S23} (h : CMap w b N T) : NMap w b N T := by
  obtain ⟨h0, D, h, h1, h2, h3, h4⟩ := h
  refine ⟨h0, D, h, h1, fun x hx => ?_, h3, h4⟩
  obtain ⟨q1, q2, q3, q4, q5⟩ := h2 x hx
  exact ⟨q1, q2, by omega, q4, q5⟩
end Go.Proofs.Ytcjeegomonegpaa.PLivePlays
namespace Go.Proofs.Ytcjeegomonegpaa.PLivePlays
open Go.RowKit Go.Maps Go.Sort Go.Proofs.YtcjeegomonegpaaW.PrintWords Go.Proofs.YtcjeegomonegpaaW.PrintLast Go.Proofs.YtcjeegomonegpaaW.PrintMore
set_option linter.unusedVariables false
set_option linter.unusedSimpArgs false
def TbB (w : World) (g b N : Nat) (T : List S23) : Prop := w.heap[g]? = some (.cells #[.map (some b)] 79 (0, 0)) ∧ TMap w b N T
theorem TbB.tb {w : World} {g b N : Nat} {T : List S23} (h : TbB w g b N T) : Tb w g N T := ⟨b, h⟩
theorem TbB.mono {w : World} {g b N M : Nat} {T : List S23} (h : TbB w g b N T) (hM : N ≤ M) : TbB w g b M T := ⟨h.1, h.2.mono hM⟩
theorem TbB.below {w w' : World} {g b N : Nat} {T : List S23} (h : TbB w g b N T) (hb : Below w.heap.size w w') : TbB w' g b N T := ⟨blk_below h.1 hb, h.2.below hb⟩
theorem TbB.grown {w w' : World} {g b N : Nat} {T : List S23} {row : Option Nat} (h : TbB w g b N T) (hg : w.grownBy w' row) (h1 : some g ≠ row) (h2 : some b ≠ row) : TbB w' g b N T := ⟨(hg.block g (blk_lt h.1) h1).trans h.1, h.2.kept hg h2⟩
structure Turn (w w' : World) (S : Nat → Prop) : Prop where
  os : w'.os = w.os
  tape : w'.tape = w.tape
  output : w'.output = w.output
  size : w.heap.size ≤ w'.heap.size
  block : ∀ k, k < w.heap.size → ¬ S k → w'.heap[k]? = w.heap[k]?
theorem Turn.of_grown {w w' : World} {row : Option Nat} {S : Nat → Prop} (h : w.grownBy w' row) (hS : ∀ j, row = some j → S j) : Turn w w' S := ⟨h.os, h.tape, h.output, h.size, fun k hk hn => h.block k hk fun e => hn (hS k e.symm)⟩
theorem Turn.of_below {w w' : World} {S : Nat → Prop} (h : Below w.heap.size w w') : Turn w w' S := ⟨h.os, h.tape, h.output, h.size, fun k hk _ => h.block k hk⟩
theorem Turn.below {w0 w w' : World} {S : Nat → Prop} (hb : Below w0.heap.size w0 w) (h : Turn w w' S) (hS : ∀ k, S k → w0.heap.size ≤ k) : Below w0.heap.size w0 w' := ⟨h.os.trans hb.os, h.tape.trans hb.tape, h.output.trans hb.output, Nat.le_trans hb.size h.size, fun k hk => (h.block k (Nat.lt_of_lt_of_le hk hb.size) fun hs => absurd (hS k hs) (by omega)).trans (hb.block k hk)⟩
theorem Turn.trans {w0 w w' : World} {S S' : Nat → Prop} (h : Turn w0 w S) (h' : Turn w w' S') (hS : ∀ k, S' k → S k ∨ w0.heap.size ≤ k) : Turn w0 w' S := ⟨h'.os.trans h.os, h'.tape.trans h.tape, h'.output.trans h.output, Nat.le_trans h.size h'.size, fun k hk hn => (h'.block k (Nat.lt_of_lt_of_le hk h.size) fun hs => (hS k hs).elim (fun h1 => hn h1) (fun h1 => absurd hk (by omega))).trans (h.block k hk hn)⟩
theorem Turn.mono {w w' : World} {S S' : Nat → Prop} (h : Turn w w' S) (hS : ∀ k, S k → S' k) : Turn w w' S' := ⟨h.os, h.tape, h.output, h.size, fun k hk hn => h.block k hk fun hs => hn (hS k hs)⟩
theorem newB (w : World) : Calls Try.prog 19 #[] w fun e w' => ∃ g b, e = .returned (.pointer (some ⟨g, 0, none⟩)) ∧ w.heap.size ≤ g ∧ w.heap.size ≤ b ∧ TbB w' g b 0 [] ∧ Below w.heap.size w w' := by
  have hmm := @run_makeMap Try.prog
  go_enter Try.func19, Try.ntmps19
  go_wp2
  go_ret
  refine ⟨_, w.heap.size, rfl, by simp, Nat.le_refl _, ⟨(by have h := blk_new (w.alloc (Obj.map #[] 0)) (.cells #[.map (some w.heap.size)] 79); rwa [World.size_alloc] at h), ?_⟩, below_alloc (below_alloc (Below.refl _ _) _) _⟩
  exact TMap.below ⟨by simp, _, World.ownsMap_made w Try.prog 3 rowR, MapOf.nil⟩ (below_alloc (Below.refl _ _) _)
set_option maxRecDepth 100000 in
set_option maxHeartbeats 4000000 in
theorem get_none (g N : Nat) (T : List S23) (k : Int) (hk : (Lit.int .i64 k).wf = true) (w : World) (hT : Tb w g N T) (hq : findT T k = none) :
    Calls Try.prog 24 #[.pointer (some ⟨g, 0, none⟩), .int .i64 k] w fun e w' => e = .returned (.tuple #[.agg #[.int .i64 0, .int .i64 0, .int .i64 0], .int .i64 15]) ∧ Below w.heap.size w w' := by
  have hu23 := Try.underlying23
  have hu77 := Try.underlying77
  have hu79 := Try.underlying79
  have HT := Aside0.mk (hT.below (below_alloc (Below.refl _ _) (.cells #[.int .i64 0, .int .i64 0, .int .i64 0] 23)))
  have HN := Aside0.mk (blk_new w (.cells #[.int .i64 0, .int .i64 0, .int .i64 0] 23))
  have HB := Aside0.mk (below_alloc (Below.refl w.heap.size w) (.cells #[.int .i64 0, .int .i64 0, .int .i64 0] 23))
  have HS := Aside0.mk (World.size_alloc w (.cells #[.int .i64 0, .int .i64 0, .int .i64 0] 23))
  have HQ := Aside0.mk hq
  clear hT hq
  go_enter Try.func24, Try.ntmps24
  go_upto_region 3 with (fail)
  obtain ⟨b, hg, hM⟩ := HT.out
  have c0 : (w.alloc (.cells #[.int .i64 0, .int .i64 0, .int .i64 0] 23)).cell? ⟨g, 0, none⟩ = some (.map (some b)) := (blk_cell hg 0).trans rfl
  have hl := hM.look hk
  rw [HQ.out] at hl
  clear hg hM HT hk HQ
  simp only [rowV, Option.getD_none, Option.isSome_none] at hl
  go_wp2_with (fail)
  refine bodyPost_ret (results_ct rfl _ _ w.heap.size 23 #[.int .i64 0, .int .i64 0, .int .i64 0] (0, 0) _ rfl (blk_alloc (blk_new _ _) _) Try.underlying23 rfl (by kernel_rfl)) rfl ?_
  exact ⟨rfl, below_alloc (below_alloc (Below.refl _ _) _) _⟩
set_option maxRecDepth 100000 in
set_option maxHeartbeats 4000000 in
theorem get_some (g N : Nat) (T : List S23) (k : Int) (hk : (Lit.int .i64 k).wf = true) (w : World) (hT : Tb w g N T) (x : S23) (hq : findT T k = some x) :
    Calls Try.prog 24 #[.pointer (some ⟨g, 0, none⟩), .int .i64 k] w fun e w' => e = .returned (.tuple #[.agg #[.int .i64 x.f0, .int .i64 x.f1, .int .i64 x.f2], .int .i64 0]) ∧ Below w.heap.size w w' := by
  have hu23 := Try.underlying23
  have hu77 := Try.underlying77
  have hu79 := Try.underlying79
  have HT := Aside0.mk (hT.below (below_alloc (Below.refl _ _) (.cells #[.int .i64 0, .int .i64 0, .int .i64 0] 23)))
  have HN := Aside0.mk (blk_new w (.cells #[.int .i64 0, .int .i64 0, .int .i64 0] 23))
  have HB := Aside0.mk (below_alloc (Below.refl w.heap.size w) (.cells #[.int .i64 0, .int .i64 0, .int .i64 0] 23))
  have HS := Aside0.mk (World.size_alloc w (.cells #[.int .i64 0, .int .i64 0, .int .i64 0] 23))
  have HQ := Aside0.mk hq
  clear hT hq
  go_enter Try.func24, Try.ntmps24
  go_upto_region 3 with (fail)
  obtain ⟨b, hg, hM⟩ := HT.out
  have c0 : (w.alloc (.cells #[.int .i64 0, .int .i64 0, .int .i64 0] 23)).cell? ⟨g, 0, none⟩ = some (.map (some b)) := (blk_cell hg 0).trans rfl
  have hl := hM.look hk
  rw [HQ.out] at hl
  clear hg hM HT hk HQ
  simp only [rowV, Option.getD_some, Option.isSome_some] at hl
  go_wp2_with (fail)
  refine bodyPost_ret (results_ct rfl _ _ w.heap.size 23 #[.int .i64 x.f0, .int .i64 x.f1, .int .i64 x.f2] (0, 0) _ rfl (blk_alloc (blk_new _ _) _) Try.underlying23 rfl (by kernel_rfl)) rfl ?_
  exact ⟨rfl, below_alloc (below_alloc (Below.refl _ _) _) _⟩
def sumT : List S23 → Int × Int
  | [] => (0, 0)
  | x :: T => ((sumT T).1 + x.f1, (sumT T).2 + x.f2)
theorem sumT_snoc (x : S23) : ∀ T : List S23, sumT (T ++ [x]) = ((sumT T).1 + x.f1, (sumT T).2 + x.f2)
  | [] => by simp [sumT]
  | y :: T => by
    simp only [List.cons_append, sumT, sumT_snoc x T]
    exact Prod.ext (by simp only; omega) (by simp only; omega)
theorem sumT_bound : ∀ T : List S23, (∀ x ∈ T, MayR x) → 0 ≤ (sumT T).1 ∧ (sumT T).1 ≤ 65536 * (T.length : Int) ∧ 0 ≤ (sumT T).2 ∧ (sumT T).2 ≤ 65536 * (T.length : Int)
  | [], _ => by simp [sumT]
  | x :: T, h => by
    obtain ⟨h1, h2, h3, h4⟩ := sumT_bound T fun y hy => h y (List.mem_cons_of_mem _ hy)
    obtain ⟨m1, m2, m3, m4, m5, m6⟩ := h x List.mem_cons_self
    simp only [sumT, List.length_cons]
    omega
set_option maxRecDepth 100000 in
set_option maxHeartbeats 4000000 in
theorem sum_calls (g N : Nat) (hN : N ≤ 1000000) (T : List S23) (w : World) (hT : Tb w g N T) :
    Calls Try.prog 28 #[.pointer (some ⟨g, 0, none⟩)] w fun e w' => e = .returned (.tuple #[.int .i64 (sumT T).1, .int .i64 (sumT T).2]) ∧ Below w.heap.size w w' := by
  have hu23 := Try.underlying23
  have hu28 := Try.underlying28
  have hTl := Nat.le_trans hT.len hN
  have HM := Aside0.mk hT.may
  have HR := Aside0.mk (rows2 g N hN T w hT)
  clear hT
  go_enter Try.func28, Try.ntmps28
  go_wp2_with (fail)
  refine HR.out.mono ?_
  rintro e w1 ⟨v, rfl, hv, hb1⟩
  obtain ⟨A, c, rfl, hc, hr⟩ := hv.reads hTl
  have HB1 := Aside0.mk hb1
  have HC := Aside0.mk hr
  clear hb1 hr hv HR hc
  go_wp2_with (fail)
  go_loopw [4, 5, 11] (fun v4 v5 v11 wr => ∃ k : Nat, k ≤ T.length ∧ v11 = .int .i64 k ∧ v4 = .int .i64 (sumT (T.take k)).1 ∧ v5 = .int .i64 (sumT (T.take k)).2 ∧ Aside0 (Below w1.heap.size w1 wr)) (fun _ _ v11 _ => T.length - (intOf v11).toNat)
  case atStart => exact ⟨0, Nat.zero_le _, rfl, rfl, rfl, ⟨Below.refl _ _⟩⟩
  case round =>
    as_aux_lemma =>
      obtain ⟨k, hk, rfl, rfl, rfl, HB⟩ := hrel
      by_cases hlt : k < T.length
      · have hk1 : k + 1 ≤ T.length := hlt
        obtain ⟨ad, rfl, h0, h1, h2⟩ := row_cells (Kd.C_below HC.out HB.out) k hlt
        obtain ⟨b1, b2, b3, b4⟩ := sumT_bound (T.take k) fun x hx => HM.out x (List.mem_of_mem_take hx)
        obtain ⟨m1, m2, m3, m4, m5, m6⟩ := HM.out T[k] (List.getElem_mem _)
        have hlen : (T.take k).length ≤ 1000000 := by simp; omega
        have hst : sumT (T.take (k + 1)) = ((sumT (T.take k)).1 + T[k].f1, (sumT (T.take k)).2 + T[k].f2) := by
          rw [List.take_add_one, List.getElem?_eq_getElem hlt]
          exact sumT_snoc _ _
        have HST := Aside0.mk hst
        clear hst
        generalize T[k] = x at h0 h1 h2 m1 m2 m3 m4 m5 m6 HST
        generalize (sumT (T.take k)).1 = s1 at b1 b2 HST ⊢
        generalize (sumT (T.take k)).2 = s2 at b3 b4 HST ⊢
        obtain ⟨x0, x1, x2⟩ := x
        simp only at h0 h1 h2 m1 m2 m3 m4 m5 m6
        have hw1 : IntKind.i64.wrap (s1 + x1) = s1 + x1 := IntWalk.i64_in _ (by omega)
        have hw2 : IntKind.i64.wrap (s2 + x2) = s2 + x2 := IntWalk.i64_in _ (by omega)
        go_wp2_with (fail)
        refine ⟨⟨k + 1, hk1, by go_num, ?_, ?_, ⟨below_alloc HB.out _⟩⟩, by simp [intOf]; omega⟩
        · rw [HST.out]
        · rw [HST.out]
      · have : k = T.length := by omega
        subst this
        rw [List.take_length]
        go_wp2_with (fail)
        go_ret2
        exact ⟨rfl, below_step HB1.out HB.out⟩
def dropT (T : List S23) (k : Int) : List S23 := T.filter fun x => x.f0 != k
theorem MapOf.del {D : DataW Unit} {T : List S23} {k : Int} (h : MapOf D T) : MapOf (D.del (.int .i64 k)) (dropT T k) := by
  obtain ⟨h1, h2, h3, h4⟩ := h
  refine ⟨h1.filter _, fun x hx => h2 x (List.mem_filter.1 hx).1, fun kl => ?_, fun x hx zd => ?_⟩
  · by_cases he : kl = .int .i64 k
    · subst he
      rw [has_del_same]
      simp only [Bool.false_eq_true, false_iff]
      rintro ⟨x, hx, e⟩
      injection e with _ e
      have := (List.mem_filter.1 hx).2
      simp at this
      exact this e.symm
    · rw [has_del_other he, h3]
      constructor
      · rintro ⟨x, hx, rfl⟩
        exact ⟨x, List.mem_filter.2 ⟨hx, by simp; intro e; exact he (by rw [e])⟩, rfl⟩
      · rintro ⟨x, hx, rfl⟩
        exact ⟨x, (List.mem_filter.1 hx).1, rfl⟩
  · obtain ⟨q1, q2⟩ := List.mem_filter.1 hx
    rw [atKey_del_other (by simp at q2; simpa using q2)]
    exact h4 x q1 zd
theorem dropT_len (T : List S23) (k : Int) : (dropT T k).length ≤ T.length := List.length_filter_le _ _
theorem drop_none (g N : Nat) (T : List S23) (k : Int) (hk : (Lit.int .i64 k).wf = true) (w : World) (hT : Tb w g N T) (hq : findT T k = none) :
    Calls Try.prog 27 #[.pointer (some ⟨g, 0, none⟩), .int .i64 k] w fun e w' => e = .returned (.int .i64 15) ∧ Below w.heap.size w w' := by
  have hu23 := Try.underlying23
  have H := Aside0.mk (get_none g N T k hk w hT hq)
  clear hT hq
  go_enter Try.func27, Try.ntmps27
  go_wp2_with (fail)
  refine H.out.mono ?_
  rintro e w' ⟨rfl, hb⟩
  have HB := Aside0.mk hb
  clear hb
  go_wp2_with (fail)
  go_ret
  exact ⟨rfl, below_alloc HB.out _⟩
set_option maxRecDepth 100000 in
set_option maxHeartbeats 4000000 in
theorem drop_some (g b N : Nat) (T : List S23) (k : Int) (hk : (Lit.int .i64 k).wf = true) (w : World) (hT : TbB w g b N T) (hgb : g ≠ b) (x : S23) (hq : findT T k = some x) :
    Calls Try.prog 27 #[.pointer (some ⟨g, 0, none⟩), .int .i64 k] w fun e w' => e = .returned (.int .i64 0) ∧ TbB w' g b N (dropT T k) ∧ w.grownBy w' (some b) := by
  have hu23 := Try.underlying23
  have hu77 := Try.underlying77
  have hu79 := Try.underlying79
  have H := Aside0.mk (get_some g N T k hk w hT.tb x hq)
  have HT := Aside0.mk hT
  clear hT hq
  go_enter Try.func27, Try.ntmps27
  go_wp2_with (fail)
  refine H.out.mono ?_
  rintro e w' ⟨rfl, hb⟩
  have HB := Aside0.mk (below_alloc hb (.cells #[.int .i64 x.f0, .int .i64 x.f1, .int .i64 x.f2] 23))
  have hT2 := (HT.out.below hb).below (below_alloc (Below.refl _ _) (.cells #[.int .i64 x.f0, .int .i64 x.f1, .int .i64 x.f2] 23))
  clear hb
  have c0 : (w'.alloc (.cells #[.int .i64 x.f0, .int .i64 x.f1, .int .i64 x.f2] 23)).cell? ⟨g, 0, none⟩ = some (.map (some b)) := (blk_cell hT2.1 0).trans rfl
  obtain ⟨hg2, h0, D, hown, hD⟩ := hT2
  have HG := Aside0.mk hg2
  have HD := Aside0.mk hD
  clear hg2 hD
  go_wp2_with (at_delete; refine wpList_delete_own _ rfl _ _ 77 3 rfl 23 keyed3 Try.underlying77 rowR b N D rfl hown _ _ rfl (keyOf_int_mk Try.underlying3 hk) ?_; intro w1 hown1 hturn1)
  go_ret
  have hg := hturn1.grown
  refine ⟨rfl, ⟨(hg.block g (blk_lt HG.out) (by simpa using hgb)).trans HG.out, Nat.le_trans (dropT_len T k) h0, _, hown1, HD.out.del⟩, grown_trans (grown_of_below HB.out (some b)) hg (fun j hj => .inr hj)⟩
set_option maxRecDepth 100000 in
set_option maxHeartbeats 2000000 in
theorem addB_calls (g b0 N : Nat) (T : List S23) (A : Option Addr) (c : Nat) (l : List S23) (w : World) (hT : TbB w g b0 N T) (hr : Kd.C k23 w A l.length l) (hN : N + l.length < 1000000) :
    Calls Try.prog 26 #[.pointer (some ⟨g, 0, none⟩), .slice A l.length c] w fun e w' => e = .returned (.int .i64 (addR T l).2) ∧ ∃ b, (b = b0 ∨ w.heap.size ≤ b) ∧ TbB w' g b (N + l.length) (addR T l).1 ∧ w.grownBy w' (some g) := by
  have HR := Aside0.mk hr
  have HT := Aside0.mk hT
  have hmx : l.length ≤ 9223372036854775807 := hr.2.1
  have HC := fun W h => contains_calls 48 #[] (fun x => !decide (MayR x)) A c l W h (enters_of Try.func48 (by kernel_rfl) rfl) (fun W x _ => bad_calls x W)
  have HC := Aside0.mk HC
  clear hr hT
  by_cases hany : l.any (fun x => !decide (MayR x)) = true
  · have HA := Aside0.mk hany
    have hc := HC.out w HR.out
    rw [hany] at hc
    clear hany HC
    go_enter Try.func26, Try.ntmps26
    go_wp2_with (go_at_call 47; refine hc.mono ?_; rintro e w' ⟨rfl, hb⟩)
    go_ret
    have e1 : addR T l = (T, 1) := by unfold addR; rw [if_pos HA.out]
    rw [e1]
    exact ⟨rfl, b0, .inl rfl, (HT.out.below hb).mono (by omega), hb.os, hb.tape, hb.output, hb.size, fun k hk _ => hb.block k hk⟩
  · have hany : l.any (fun x => !decide (MayR x)) = false := by simpa using hany
    have HA := Aside0.mk hany
    have hc := HC.out w HR.out
    rw [hany] at hc
    clear hany HC
    have hu77 := Try.underlying77
    have hu79 := Try.underlying79
    have hu23 := Try.underlying23
    obtain ⟨hg0, hT0⟩ := HT.out
    have z0 := blk_lt hg0
    go_enter Try.func26, Try.ntmps26
    go_wp2_with (fail)
    refine hc.mono ?_
    rintro e w1 ⟨rfl, hb1⟩
    have hg1 := blk_below hg0 hb1
    have hT1 := hT0.below hb1
    have HB1 := Aside0.mk hb1
    have z1 := blk_lt hg1
    have c0 : w1.cell? ⟨g, 0, none⟩ = some (.map (some b0)) := (blk_cell hg1 0).trans rfl
    clear hg0 hT0 hb1
    have hcl := clone_calls b0 N T w1 hT1
    go_wp2_with (fail)
    refine hcl.mono ?_
    rintro e w2 ⟨rfl, hT2, hb2⟩
    have HB2 := Aside0.mk (below_step HB1.out hb2)
    have HG2 := Aside0.mk (blk_below hg1 hb2)
    have HS := Aside0.mk HB1.out.size
    have HT2 := Aside0.mk hT2
    clear hT2 hb2 hcl hT1 c0 hg1
    generalize w1.heap.size = b2 at HT2 z1 HS ⊢
    go_wp2_with (fail)
    go_loopw [21] (fun v21 wr => ∃ (k : Nat) (T' : List S23), k ≤ l.length ∧ v21 = .int .i64 k ∧ Aside0 (Below w.heap.size w wr) ∧ Aside0 (TMap wr b2 (N + k) T') ∧ Aside0 (addAll T l = addAll T' (l.drop k))) (fun v21 _ => l.length - (intOf v21).toNat)
    case atStart => exact ⟨0, T, Nat.zero_le _, rfl, ⟨HB2.out⟩, ⟨HT2.out⟩, ⟨by simp⟩⟩
    case round =>
      as_aux_lemma =>
        clear HB2 HG2 HT2
        obtain ⟨k, T', hk, rfl, HB, HM, HE⟩ := hrel
        by_cases hlt : k < l.length
        · have hk1 : k + 1 ≤ l.length := hlt
          obtain ⟨ad, rfl, h0, h1, h2⟩ := row_cells (Kd.C_below HR.out HB.out) k hlt
          have hd := HE.out
          rw [drop_cons hlt] at hd
          have hmay : MayR l[k] := by
            have := List.any_eq_false.1 HA.out l[k] (List.getElem_mem hlt)
            simpa using this
          generalize l[k] = x at h0 h1 h2 hd hmay
          have HD := Aside0.mk hd
          have HX := Aside0.mk hmay
          have hwf : (Lit.int .i64 x.f0).wf = true := wf_of (by have := hmay.1; omega) (by have := hmay.2.1; omega)
          clear hd hmay HE
          obtain ⟨x0, x1, x2⟩ := x
          simp only at h0 h1 h2 hwf
          have hl := TMap.look (HM.out.below (below_alloc (Below.refl _ _) (.cells #[.int .i64 x0, .int .i64 x1, .int .i64 x2] 23))) hwf
          cases hq : findT T' x0 with
          | some y =>
            as_aux_lemma =>
              rw [hq] at hl
              simp only [rowV, Option.getD_some, Option.isSome_some] at hl
              go_wp2_with (fail)
              go_ret
              have e1 : addR T l = (T, 16) := by
                have : addAll T l = none := by
                  rw [HD.out]
                  unfold addAll
                  rw [hq]
                unfold addR
                rw [if_neg (by rw [HA.out]; simp), this]
              rw [e1]
              have hb := below_alloc (below_alloc HB.out (.cells #[.int .i64 x0, .int .i64 x1, .int .i64 x2] 23)) (.cells #[.int .i64 y.f0, .int .i64 y.f1, .int .i64 y.f2] 23)
              exact ⟨rfl, b0, .inl rfl, (HT.out.below hb).mono (by omega), grown_of_below hb _⟩
          | none =>
            as_aux_lemma =>
              rw [hq] at hl
              simp only [rowV, Option.getD_none, Option.isSome_none] at hl
              have hT5 := HM.out.below (below_alloc (below_alloc (Below.refl _ _) (.cells #[.int .i64 x0, .int .i64 x1, .int .i64 x2] 23)) (.cells #[.int .i64 0, .int .i64 0, .int .i64 0] 23))
              go_wp2_with (at_mapUpdate; refine wp_put rfl _ _ _ rfl hT5 (by omega) ⟨x0, x1, x2⟩ HX.out rfl rfl rfl ?_; intro w6 hT6 hg6)
              have hb := below_alloc (below_alloc HB.out (.cells #[.int .i64 x0, .int .i64 x1, .int .i64 x2] 23)) (.cells #[.int .i64 0, .int .i64 0, .int .i64 0] 23)
              refine ⟨⟨k + 1, putT ⟨x0, x1, x2⟩ T', hk1, by go_num, ⟨hb.grown hg6 hb.size (fun j hj => by obtain rfl := Option.some.inj hj; exact HS.out)⟩, ⟨hT6.mono (by omega)⟩, ⟨?_⟩⟩, by simp [intOf]; omega⟩
              rw [HD.out]
              conv => lhs; unfold addAll
              rw [hq]
        · have : k = l.length := by omega
          subst this
          obtain ⟨hg9, -⟩ := HT.out
          have hg3 := blk_below hg9 HB.out
          have f3 := blk_frozen hg3 0
          have c3 : wr.cell? ⟨g, 0, none⟩ = some (.map (some b0)) := (blk_cell hg3 0).trans rfl
          go_wp2_with (fail)
          go_ret
          have hAA : addAll T l = some T' := by
            rw [HE.out, List.drop_length]
            rfl
          have e1 : addR T l = (T', 0) := by
            unfold addR
            rw [if_neg (by rw [HA.out]; simp), hAA]
          rw [e1]
          have hgr : wr.grownBy (wr.setCell ⟨g, 0, none⟩ (.map (some b2))) (some g) := grown_set _ _ _ _
          have hne : b2 ≠ g := by have := HS.out; omega
          refine ⟨rfl, b2, .inr HS.out, ⟨by simpa using blk_set hg3 0 (.map (some b2)), HM.out.kept hgr (fun e => hne (Option.some.inj e))⟩, grown_trans (grown_of_below HB.out (some g)) hgr (fun j hj => .inr hj)⟩
end Go.Proofs.Ytcjeegomonegpaa.PLivePlays
namespace Go.Proofs.Ytcjeegomonegpaa.PLivePlays
open Go.RowKit Go.Proofs.YtcjeegomonegpaaW.PrintWords Go.Proofs.YtcjeegomonegpaaW.PrintLast Go.Proofs.YtcjeegomonegpaaW.PrintMore
attribute [local go_sem] max2_int min2_int max_two min_two max_three min_three max_four min_four   -- for this text's walks alone
set_option linter.unusedVariables false
set_option linter.unusedSimpArgs false
def lighterref01_May.f (a0_0 : Int) (a0_1 : Int) : Option (Bool) := if a0_0 ≥ 0 then (if a0_0 ≤ 65536 then (if a0_1 ≥ 1 then (if a0_1 ≤ 65536 then (some (decide ((wrap64 (a0_0 + a0_1)) ≤ 65536))) else (some false)) else (some false)) else (some false)) else (some false)
set_option maxHeartbeats 8000000 in
set_option maxRecDepth 100000 in
theorem lighterref01_May.calls (a0_0 : Int) (a0_1 : Int) (r : Bool) (w : World) (h : lighterref01_May.f a0_0 a0_1 = some r) :
    Calls Try.prog 52 #[.agg #[.int .i64 a0_0, .int .i64 a0_1]] w fun e w' => e = .returned (.bool r) ∧ Below w.heap.size w w' := by
  have hu64 := Try.underlying64
  have HB := Aside0.mk (Below.refl w.heap.size w)
  have H : (if a0_0 ≥ 0 then (if a0_0 ≤ 65536 then (if a0_1 ≥ 1 then (if a0_1 ≤ 65536 then (some (decide ((wrap64 (a0_0 + a0_1)) ≤ 65536))) else (some false)) else (some false)) else (some false)) else (some false)) = some r := h
  clear h
  by_cases c2 : a0_0 ≥ 0
  · rw [if_pos c2] at H
    have c2b0 : decide (0 ≤ a0_0) = true := decide_eq_true c2
    clear c2
    by_cases c3 : a0_0 ≤ 65536
    · rw [if_pos c3] at H
      have c3b0 : decide (a0_0 ≤ 65536) = true := decide_eq_true c3
      clear c3
      by_cases c4 : a0_1 ≥ 1
      · rw [if_pos c4] at H
        have c4b0 : decide (1 ≤ a0_1) = true := decide_eq_true c4
        clear c4
        by_cases c5 : a0_1 ≤ 65536
        · rw [if_pos c5] at H
          have c5b0 : decide (a0_1 ≤ 65536) = true := decide_eq_true c5
          clear c5
          obtain rfl := Option.some.inj H
          go_enter Try.func52, Try.ntmps52
          go_wp2_with (first | ((with_reducible refine gate_dst (N := 1) rfl ?_); refine box_event ?hg (N := 1) ?hd (cs := #[.int .i64 a0_0, .int .i64 a0_1]) (t := 64) ?hr ?_; (case hd => rfl); (case hg => rfl); (case hr => first | (go_simp; done) | (go_simp; rfl)); intro gb181 hg w6 hbox hb; have n0_ := Aside0.mk (below_step (by repeat (first | (with_reducible first | exact HB.out | apply below_alloc | apply pw_below_drewN | apply below_drew1) | exact HB.out)) hb); have n1_ := Aside0.mk (hbox); have n2_ := Aside0.mk ((by rw [hg]; exact (below_size (by repeat (first | (with_reducible first | exact HB.out | apply below_alloc | apply pw_below_drewN | apply below_drew1) | exact HB.out))) : w.heap.size ≤ gb181)); have n3_ := Aside0.mk ((by rw [hg]; exact (below_size (by repeat (first | (with_reducible first | exact HB.out | apply below_alloc | apply pw_below_drewN | apply below_drew1) | exact HB.out))) : w.heap.size ≤ gb181)); clear HB; have HB := n0_; have BK181 := n1_; have GW181 := n2_; have GE181 := n3_; clear n0_ n1_ n2_ n3_; clear hb hbox hg; have hcz7_0 : w6.cell? ⟨gb181, 0, none⟩ = some (.int .i64 a0_0) := (blk_cell BK181.out 0).trans rfl; have hcz7_1 : w6.cell? ⟨gb181, 1, none⟩ = some (.int .i64 a0_1) := (blk_cell BK181.out 1).trans rfl; have hfz7_0 := blk_frozen BK181.out 0; have hfz7_1 := blk_frozen BK181.out 1))
          go_ret
          exact ⟨by first | rfl | (simp [errW_none, errW_some] <;> rfl) | (simp [*, errW_none, errW_some] <;> rfl), by repeat (first | (with_reducible first | exact HB.out | apply below_alloc | apply pw_below_drewN | apply below_drew1 | refine below_set ?_ GE181.out) | exact HB.out)⟩
        · rw [if_neg c5] at H
          have c5b0 : decide (a0_1 ≤ 65536) = false := decide_eq_false c5
          clear c5
          obtain rfl := Option.some.inj H
          go_enter Try.func52, Try.ntmps52
          go_wp2_with (first | ((with_reducible refine gate_dst (N := 1) rfl ?_); refine box_event ?hg (N := 1) ?hd (cs := #[.int .i64 a0_0, .int .i64 a0_1]) (t := 64) ?hr ?_; (case hd => rfl); (case hg => rfl); (case hr => first | (go_simp; done) | (go_simp; rfl)); intro gb181 hg w8 hbox hb; have n0_ := Aside0.mk (below_step (by repeat (first | (with_reducible first | exact HB.out | apply below_alloc | apply pw_below_drewN | apply below_drew1) | exact HB.out)) hb); have n1_ := Aside0.mk (hbox); have n2_ := Aside0.mk ((by rw [hg]; exact (below_size (by repeat (first | (with_reducible first | exact HB.out | apply below_alloc | apply pw_below_drewN | apply below_drew1) | exact HB.out))) : w.heap.size ≤ gb181)); have n3_ := Aside0.mk ((by rw [hg]; exact (below_size (by repeat (first | (with_reducible first | exact HB.out | apply below_alloc | apply pw_below_drewN | apply below_drew1) | exact HB.out))) : w.heap.size ≤ gb181)); clear HB; have HB := n0_; have BK181 := n1_; have GW181 := n2_; have GE181 := n3_; clear n0_ n1_ n2_ n3_; clear hb hbox hg; have hcz9_0 : w8.cell? ⟨gb181, 0, none⟩ = some (.int .i64 a0_0) := (blk_cell BK181.out 0).trans rfl; have hcz9_1 : w8.cell? ⟨gb181, 1, none⟩ = some (.int .i64 a0_1) := (blk_cell BK181.out 1).trans rfl; have hfz9_0 := blk_frozen BK181.out 0; have hfz9_1 := blk_frozen BK181.out 1))
          go_ret
          exact ⟨by first | rfl | (simp [errW_none, errW_some] <;> rfl) | (simp [*, errW_none, errW_some] <;> rfl), by repeat (first | (with_reducible first | exact HB.out | apply below_alloc | apply pw_below_drewN | apply below_drew1 | refine below_set ?_ GE181.out) | exact HB.out)⟩
      · rw [if_neg c4] at H
        have c4b0 : decide (1 ≤ a0_1) = false := decide_eq_false c4
        clear c4
        obtain rfl := Option.some.inj H
        go_enter Try.func52, Try.ntmps52
        go_wp2_with (first | ((with_reducible refine gate_dst (N := 1) rfl ?_); refine box_event ?hg (N := 1) ?hd (cs := #[.int .i64 a0_0, .int .i64 a0_1]) (t := 64) ?hr ?_; (case hd => rfl); (case hg => rfl); (case hr => first | (go_simp; done) | (go_simp; rfl)); intro gb181 hg w10 hbox hb; have n0_ := Aside0.mk (below_step (by repeat (first | (with_reducible first | exact HB.out | apply below_alloc | apply pw_below_drewN | apply below_drew1) | exact HB.out)) hb); have n1_ := Aside0.mk (hbox); have n2_ := Aside0.mk ((by rw [hg]; exact (below_size (by repeat (first | (with_reducible first | exact HB.out | apply below_alloc | apply pw_below_drewN | apply below_drew1) | exact HB.out))) : w.heap.size ≤ gb181)); have n3_ := Aside0.mk ((by rw [hg]; exact (below_size (by repeat (first | (with_reducible first | exact HB.out | apply below_alloc | apply pw_below_drewN | apply below_drew1) | exact HB.out))) : w.heap.size ≤ gb181)); clear HB; have HB := n0_; have BK181 := n1_; have GW181 := n2_; have GE181 := n3_; clear n0_ n1_ n2_ n3_; clear hb hbox hg; have hcz11_0 : w10.cell? ⟨gb181, 0, none⟩ = some (.int .i64 a0_0) := (blk_cell BK181.out 0).trans rfl; have hcz11_1 : w10.cell? ⟨gb181, 1, none⟩ = some (.int .i64 a0_1) := (blk_cell BK181.out 1).trans rfl; have hfz11_0 := blk_frozen BK181.out 0; have hfz11_1 := blk_frozen BK181.out 1))
        go_ret
        exact ⟨by first | rfl | (simp [errW_none, errW_some] <;> rfl) | (simp [*, errW_none, errW_some] <;> rfl), by repeat (first | (with_reducible first | exact HB.out | apply below_alloc | apply pw_below_drewN | apply below_drew1 | refine below_set ?_ GE181.out) | exact HB.out)⟩
    · rw [if_neg c3] at H
      have c3b0 : decide (a0_0 ≤ 65536) = false := decide_eq_false c3
      clear c3
      obtain rfl := Option.some.inj H
      go_enter Try.func52, Try.ntmps52
      go_wp2_with (first | ((with_reducible refine gate_dst (N := 1) rfl ?_); refine box_event ?hg (N := 1) ?hd (cs := #[.int .i64 a0_0, .int .i64 a0_1]) (t := 64) ?hr ?_; (case hd => rfl); (case hg => rfl); (case hr => first | (go_simp; done) | (go_simp; rfl)); intro gb181 hg w12 hbox hb; have n0_ := Aside0.mk (below_step (by repeat (first | (with_reducible first | exact HB.out | apply below_alloc | apply pw_below_drewN | apply below_drew1) | exact HB.out)) hb); have n1_ := Aside0.mk (hbox); have n2_ := Aside0.mk ((by rw [hg]; exact (below_size (by repeat (first | (with_reducible first | exact HB.out | apply below_alloc | apply pw_below_drewN | apply below_drew1) | exact HB.out))) : w.heap.size ≤ gb181)); have n3_ := Aside0.mk ((by rw [hg]; exact (below_size (by repeat (first | (with_reducible first | exact HB.out | apply below_alloc | apply pw_below_drewN | apply below_drew1) | exact HB.out))) : w.heap.size ≤ gb181)); clear HB; have HB := n0_; have BK181 := n1_; have GW181 := n2_; have GE181 := n3_; clear n0_ n1_ n2_ n3_; clear hb hbox hg; have hcz13_0 : w12.cell? ⟨gb181, 0, none⟩ = some (.int .i64 a0_0) := (blk_cell BK181.out 0).trans rfl; have hcz13_1 : w12.cell? ⟨gb181, 1, none⟩ = some (.int .i64 a0_1) := (blk_cell BK181.out 1).trans rfl; have hfz13_0 := blk_frozen BK181.out 0; have hfz13_1 := blk_frozen BK181.out 1))
      go_ret
      exact ⟨by first | rfl | (simp [errW_none, errW_some] <;> rfl) | (simp [*, errW_none, errW_some] <;> rfl), by repeat (first | (with_reducible first | exact HB.out | apply below_alloc | apply pw_below_drewN | apply below_drew1 | refine below_set ?_ GE181.out) | exact HB.out)⟩
  · rw [if_neg c2] at H
    have c2b0 : decide (0 ≤ a0_0) = false := decide_eq_false c2
    clear c2
    obtain rfl := Option.some.inj H
    go_enter Try.func52, Try.ntmps52
    go_wp2_with (first | ((with_reducible refine gate_dst (N := 1) rfl ?_); refine box_event ?hg (N := 1) ?hd (cs := #[.int .i64 a0_0, .int .i64 a0_1]) (t := 64) ?hr ?_; (case hd => rfl); (case hg => rfl); (case hr => first | (go_simp; done) | (go_simp; rfl)); intro gb181 hg w14 hbox hb; have n0_ := Aside0.mk (below_step (by repeat (first | (with_reducible first | exact HB.out | apply below_alloc | apply pw_below_drewN | apply below_drew1) | exact HB.out)) hb); have n1_ := Aside0.mk (hbox); have n2_ := Aside0.mk ((by rw [hg]; exact (below_size (by repeat (first | (with_reducible first | exact HB.out | apply below_alloc | apply pw_below_drewN | apply below_drew1) | exact HB.out))) : w.heap.size ≤ gb181)); have n3_ := Aside0.mk ((by rw [hg]; exact (below_size (by repeat (first | (with_reducible first | exact HB.out | apply below_alloc | apply pw_below_drewN | apply below_drew1) | exact HB.out))) : w.heap.size ≤ gb181)); clear HB; have HB := n0_; have BK181 := n1_; have GW181 := n2_; have GE181 := n3_; clear n0_ n1_ n2_ n3_; clear hb hbox hg; have hcz15_0 : w14.cell? ⟨gb181, 0, none⟩ = some (.int .i64 a0_0) := (blk_cell BK181.out 0).trans rfl; have hcz15_1 : w14.cell? ⟨gb181, 1, none⟩ = some (.int .i64 a0_1) := (blk_cell BK181.out 1).trans rfl; have hfz15_0 := blk_frozen BK181.out 0; have hfz15_1 := blk_frozen BK181.out 1))
    go_ret
    exact ⟨by first | rfl | (simp [errW_none, errW_some] <;> rfl) | (simp [*, errW_none, errW_some] <;> rfl), by repeat (first | (with_reducible first | exact HB.out | apply below_alloc | apply pw_below_drewN | apply below_drew1 | refine below_set ?_ GE181.out) | exact HB.out)⟩
def lighterref07_Place.f (a0_0 : Int) (a0_1 : Int) : Option (Bool) := if a0_0 ≥ 0 then (if a0_0 < 1099511627776 then (if a0_1 ≥ 0 then (some (decide (a0_1 < 1099511627776))) else (some false)) else (some false)) else (some false)
set_option maxHeartbeats 8000000 in
set_option maxRecDepth 100000 in
theorem lighterref07_Place.calls (a0_0 : Int) (a0_1 : Int) (r : Bool) (w : World) (h : lighterref07_Place.f a0_0 a0_1 = some r) :
    Calls Try.prog 53 #[.agg #[.int .i64 a0_0, .int .i64 a0_1]] w fun e w' => e = .returned (.bool r) ∧ Below w.heap.size w w' := by
  have hu62 := Try.underlying62
  have HB := Aside0.mk (Below.refl w.heap.size w)
  have H : (if a0_0 ≥ 0 then (if a0_0 < 1099511627776 then (if a0_1 ≥ 0 then (some (decide (a0_1 < 1099511627776))) else (some false)) else (some false)) else (some false)) = some r := h
  clear h
  by_cases c2 : a0_0 ≥ 0
  · rw [if_pos c2] at H
    have c2b0 : decide (0 ≤ a0_0) = true := decide_eq_true c2
    clear c2
    by_cases c3 : a0_0 < 1099511627776
    · rw [if_pos c3] at H
      have c3b0 : decide (a0_0 < 1099511627776) = true := decide_eq_true c3
      clear c3
      by_cases c4 : a0_1 ≥ 0
      · rw [if_pos c4] at H
        have c4b0 : decide (0 ≤ a0_1) = true := decide_eq_true c4
        clear c4
        obtain rfl := Option.some.inj H
        go_enter Try.func53, Try.ntmps53
        go_wp2_with (first | ((with_reducible refine gate_dst (N := 1) rfl ?_); refine box_event ?hg (N := 1) ?hd (cs := #[.int .i64 a0_0, .int .i64 a0_1]) (t := 62) ?hr ?_; (case hd => rfl); (case hg => rfl); (case hr => first | (go_simp; done) | (go_simp; rfl)); intro gb182 hg w5 hbox hb; have n0_ := Aside0.mk (below_step (by repeat (first | (with_reducible first | exact HB.out | apply below_alloc | apply pw_below_drewN | apply below_drew1) | exact HB.out)) hb); have n1_ := Aside0.mk (hbox); have n2_ := Aside0.mk ((by rw [hg]; exact (below_size (by repeat (first | (with_reducible first | exact HB.out | apply below_alloc | apply pw_below_drewN | apply below_drew1) | exact HB.out))) : w.heap.size ≤ gb182)); have n3_ := Aside0.mk ((by rw [hg]; exact (below_size (by repeat (first | (with_reducible first | exact HB.out | apply below_alloc | apply pw_below_drewN | apply below_drew1) | exact HB.out))) : w.heap.size ≤ gb182)); clear HB; have HB := n0_; have BK182 := n1_; have GW182 := n2_; have GE182 := n3_; clear n0_ n1_ n2_ n3_; clear hb hbox hg; have hcz6_0 : w5.cell? ⟨gb182, 0, none⟩ = some (.int .i64 a0_0) := (blk_cell BK182.out 0).trans rfl; have hcz6_1 : w5.cell? ⟨gb182, 1, none⟩ = some (.int .i64 a0_1) := (blk_cell BK182.out 1).trans rfl; have hfz6_0 := blk_frozen BK182.out 0; have hfz6_1 := blk_frozen BK182.out 1))
        go_ret
        exact ⟨by first | rfl | (simp [errW_none, errW_some] <;> rfl) | (simp [*, errW_none, errW_some] <;> rfl), by repeat (first | (with_reducible first | exact HB.out | apply below_alloc | apply pw_below_drewN | apply below_drew1 | refine below_set ?_ GE182.out) | exact HB.out)⟩
      · rw [if_neg c4] at H
        have c4b0 : decide (0 ≤ a0_1) = false := decide_eq_false c4
        clear c4
        obtain rfl := Option.some.inj H
        go_enter Try.func53, Try.ntmps53
        go_wp2_with (first | ((with_reducible refine gate_dst (N := 1) rfl ?_); refine box_event ?hg (N := 1) ?hd (cs := #[.int .i64 a0_0, .int .i64 a0_1]) (t := 62) ?hr ?_; (case hd => rfl); (case hg => rfl); (case hr => first | (go_simp; done) | (go_simp; rfl)); intro gb182 hg w7 hbox hb; have n0_ := Aside0.mk (below_step (by repeat (first | (with_reducible first | exact HB.out | apply below_alloc | apply pw_below_drewN | apply below_drew1) | exact HB.out)) hb); have n1_ := Aside0.mk (hbox); have n2_ := Aside0.mk ((by rw [hg]; exact (below_size (by repeat (first | (with_reducible first | exact HB.out | apply below_alloc | apply pw_below_drewN | apply below_drew1) | exact HB.out))) : w.heap.size ≤ gb182)); have n3_ := Aside0.mk ((by rw [hg]; exact (below_size (by repeat (first | (with_reducible first | exact HB.out | apply below_alloc | apply pw_below_drewN | apply below_drew1) | exact HB.out))) : w.heap.size ≤ gb182)); clear HB; have HB := n0_; have BK182 := n1_; have GW182 := n2_; have GE182 := n3_; clear n0_ n1_ n2_ n3_; clear hb hbox hg; have hcz8_0 : w7.cell? ⟨gb182, 0, none⟩ = some (.int .i64 a0_0) := (blk_cell BK182.out 0).trans rfl; have hcz8_1 : w7.cell? ⟨gb182, 1, none⟩ = some (.int .i64 a0_1) := (blk_cell BK182.out 1).trans rfl; have hfz8_0 := blk_frozen BK182.out 0; have hfz8_1 := blk_frozen BK182.out 1))
        go_ret
        exact ⟨by first | rfl | (simp [errW_none, errW_some] <;> rfl) | (simp [*, errW_none, errW_some] <;> rfl), by repeat (first | (with_reducible first | exact HB.out | apply below_alloc | apply pw_below_drewN | apply below_drew1 | refine below_set ?_ GE182.out) | exact HB.out)⟩
    · rw [if_neg c3] at H
      have c3b0 : decide (a0_0 < 1099511627776) = false := decide_eq_false c3
      clear c3
      obtain rfl := Option.some.inj H
      go_enter Try.func53, Try.ntmps53
      go_wp2_with (first | ((with_reducible refine gate_dst (N := 1) rfl ?_); refine box_event ?hg (N := 1) ?hd (cs := #[.int .i64 a0_0, .int .i64 a0_1]) (t := 62) ?hr ?_; (case hd => rfl); (case hg => rfl); (case hr => first | (go_simp; done) | (go_simp; rfl)); intro gb182 hg w9 hbox hb; have n0_ := Aside0.mk (below_step (by repeat (first | (with_reducible first | exact HB.out | apply below_alloc | apply pw_below_drewN | apply below_drew1) | exact HB.out)) hb); have n1_ := Aside0.mk (hbox); have n2_ := Aside0.mk ((by rw [hg]; exact (below_size (by repeat (first | (with_reducible first | exact HB.out | apply below_alloc | apply pw_below_drewN | apply below_drew1) | exact HB.out))) : w.heap.size ≤ gb182)); have n3_ := Aside0.mk ((by rw [hg]; exact (below_size (by repeat (first | (with_reducible first | exact HB.out | apply below_alloc | apply pw_below_drewN | apply below_drew1) | exact HB.out))) : w.heap.size ≤ gb182)); clear HB; have HB := n0_; have BK182 := n1_; have GW182 := n2_; have GE182 := n3_; clear n0_ n1_ n2_ n3_; clear hb hbox hg; have hcz10_0 : w9.cell? ⟨gb182, 0, none⟩ = some (.int .i64 a0_0) := (blk_cell BK182.out 0).trans rfl; have hcz10_1 : w9.cell? ⟨gb182, 1, none⟩ = some (.int .i64 a0_1) := (blk_cell BK182.out 1).trans rfl; have hfz10_0 := blk_frozen BK182.out 0; have hfz10_1 := blk_frozen BK182.out 1))
      go_ret
      exact ⟨by first | rfl | (simp [errW_none, errW_some] <;> rfl) | (simp [*, errW_none, errW_some] <;> rfl), by repeat (first | (with_reducible first | exact HB.out | apply below_alloc | apply pw_below_drewN | apply below_drew1 | refine below_set ?_ GE182.out) | exact HB.out)⟩
  · rw [if_neg c2] at H
    have c2b0 : decide (0 ≤ a0_0) = false := decide_eq_false c2
    clear c2
    obtain rfl := Option.some.inj H
    go_enter Try.func53, Try.ntmps53
    go_wp2_with (first | ((with_reducible refine gate_dst (N := 1) rfl ?_); refine box_event ?hg (N := 1) ?hd (cs := #[.int .i64 a0_0, .int .i64 a0_1]) (t := 62) ?hr ?_; (case hd => rfl); (case hg => rfl); (case hr => first | (go_simp; done) | (go_simp; rfl)); intro gb182 hg w11 hbox hb; have n0_ := Aside0.mk (below_step (by repeat (first | (with_reducible first | exact HB.out | apply below_alloc | apply pw_below_drewN | apply below_drew1) | exact HB.out)) hb); have n1_ := Aside0.mk (hbox); have n2_ := Aside0.mk ((by rw [hg]; exact (below_size (by repeat (first | (with_reducible first | exact HB.out | apply below_alloc | apply pw_below_drewN | apply below_drew1) | exact HB.out))) : w.heap.size ≤ gb182)); have n3_ := Aside0.mk ((by rw [hg]; exact (below_size (by repeat (first | (with_reducible first | exact HB.out | apply below_alloc | apply pw_below_drewN | apply below_drew1) | exact HB.out))) : w.heap.size ≤ gb182)); clear HB; have HB := n0_; have BK182 := n1_; have GW182 := n2_; have GE182 := n3_; clear n0_ n1_ n2_ n3_; clear hb hbox hg; have hcz12_0 : w11.cell? ⟨gb182, 0, none⟩ = some (.int .i64 a0_0) := (blk_cell BK182.out 0).trans rfl; have hcz12_1 : w11.cell? ⟨gb182, 1, none⟩ = some (.int .i64 a0_1) := (blk_cell BK182.out 1).trans rfl; have hfz12_0 := blk_frozen BK182.out 0; have hfz12_1 := blk_frozen BK182.out 1))
    go_ret
    exact ⟨by first | rfl | (simp [errW_none, errW_some] <;> rfl) | (simp [*, errW_none, errW_some] <;> rfl), by repeat (first | (with_reducible first | exact HB.out | apply below_alloc | apply pw_below_drewN | apply below_drew1 | refine below_set ?_ GE182.out) | exact HB.out)⟩
def lighterref07_May.f (a0_0 : Int) (a0_1 : Int) (a0_2 : Int) (a0_3 : Int) : Option (Bool) := (lighterref01_May.f a0_0 a0_1).bind fun t184 => (if t184 = true then ((lighterref07_Place.f a0_2 a0_3).bind fun t185 => (some t185)) else (some false))
set_option maxHeartbeats 8000000 in
set_option maxRecDepth 100000 in
theorem lighterref07_May.calls (a0_0 : Int) (a0_1 : Int) (a0_2 : Int) (a0_3 : Int) (r : Bool) (w : World) (h : lighterref07_May.f a0_0 a0_1 a0_2 a0_3 = some r) :
    Calls Try.prog 30 #[.agg #[.int .i64 a0_0, .int .i64 a0_1, .int .i64 a0_2, .int .i64 a0_3]] w fun e w' => e = .returned (.bool r) ∧ Below w.heap.size w w' := by
  have hu66 := Try.underlying66
  have hu64 := Try.underlying64
  have hu62 := Try.underlying62
  have HB := Aside0.mk (Below.refl w.heap.size w)
  have H : ((lighterref01_May.f a0_0 a0_1).bind fun t184 => (if t184 = true then ((lighterref07_Place.f a0_2 a0_3).bind fun t185 => (some t185)) else (some false))) = some r := h
  clear h
  replace H := Option.bind_eq_some_iff.mp H
  obtain ⟨t184, A20, H⟩ := H
  replace H : (if t184 = true then ((lighterref07_Place.f a0_2 a0_3).bind fun t185 => (some t185)) else (some false)) = some r := H
  have A2 := Aside0.mk A20
  clear A20
  by_cases c3 : t184 = true
  · subst c3
    have H1 : ((lighterref07_Place.f a0_2 a0_3).bind fun t185 => (some t185)) = some r := by rw [if_pos rfl] at H; exact H
    clear H
    have H := H1
    clear H1
    replace H := Option.bind_eq_some_iff.mp H
    obtain ⟨t185, A40, H⟩ := H
    replace H : (some t185) = some r := H
    have A4 := Aside0.mk A40
    clear A40
    obtain rfl := Option.some.inj H
    go_enter Try.func30, Try.ntmps30
    go_wp2_with (first | ((with_reducible refine gate_dst (N := 1) rfl ?_); refine box_event ?hg (N := 1) ?hd (cs := #[.int .i64 a0_0, .int .i64 a0_1, .int .i64 a0_2, .int .i64 a0_3]) (t := 66) ?hr ?_; (case hd => rfl); (case hg => rfl); (case hr => first | (go_simp; done) | (go_simp; rfl)); intro gb183 hg w5 hbox hb; have n0_ := Aside0.mk (below_step (by repeat (first | (with_reducible first | exact HB.out | apply below_alloc | apply pw_below_drewN | apply below_drew1) | exact HB.out)) hb); have n1_ := Aside0.mk (hbox); have n2_ := Aside0.mk ((by rw [hg]; exact (below_size (by repeat (first | (with_reducible first | exact HB.out | apply below_alloc | apply pw_below_drewN | apply below_drew1) | exact HB.out))) : w.heap.size ≤ gb183)); have n3_ := Aside0.mk ((by rw [hg]; exact (below_size (by repeat (first | (with_reducible first | exact HB.out | apply below_alloc | apply pw_below_drewN | apply below_drew1) | exact HB.out))) : w.heap.size ≤ gb183)); clear HB; have HB := n0_; have BK183 := n1_; have GW183 := n2_; have GE183 := n3_; clear n0_ n1_ n2_ n3_; clear hb hbox hg; have hcz6_0 : w5.cell? ⟨gb183, 0, none⟩ = some (.int .i64 a0_0) := (blk_cell BK183.out 0).trans rfl; have hcz6_1 : w5.cell? ⟨gb183, 1, none⟩ = some (.int .i64 a0_1) := (blk_cell BK183.out 1).trans rfl; have hcz6_2 : w5.cell? ⟨gb183, 2, none⟩ = some (.int .i64 a0_2) := (blk_cell BK183.out 2).trans rfl; have hcz6_3 : w5.cell? ⟨gb183, 3, none⟩ = some (.int .i64 a0_3) := (blk_cell BK183.out 3).trans rfl; have hfz6_0 := blk_frozen BK183.out 0; have hfz6_1 := blk_frozen BK183.out 1; have hfz6_2 := blk_frozen BK183.out 2; have hfz6_3 := blk_frozen BK183.out 3) | ((with_reducible refine gate_callee (f := 52) rfl ?_); refine goesL_ (some 5) rfl rfl Try.func52 (by kernel_rfl) rfl #[.agg #[.int .i64 a0_0, .int .i64 a0_1]] rfl (by (try simp only [List.map_toArray, List.map_cons, List.map_nil]); first | done | rfl | (simp only [List.length_drop, List.length_take]; rfl)) ?_; (with_reducible refine (lighterref01_May.calls a0_0 a0_1 true _ A2.out).mono ?_); rintro e w7 ⟨rfl, hb⟩; refine ⟨_, rfl, ?_⟩; have n0_ := Aside0.mk (blk_below (g := gb183) (o := .cells #[.int .i64 a0_0, .int .i64 a0_1, .int .i64 a0_2, .int .i64 a0_3] 66 (0, 0)) (by (with_reducible repeat (first | refine blk_drewN ?_ _ | refine blk_drew ?_ | refine blk_alloc ?_ _)); exact BK183.out) hb); have n1_ := Aside0.mk (below_step (by repeat (first | (with_reducible first | exact HB.out | apply below_alloc | apply pw_below_drewN | apply below_drew1 | refine below_set ?_ GE183.out) | exact HB.out)) hb); clear BK183; clear HB; have BK183 := n0_; have HB := n1_; clear n0_ n1_; (try clear hb); (try clear hb2); (try clear hk); (try clear hi); have hcz8_0 : w7.cell? ⟨gb183, 0, none⟩ = some (.int .i64 a0_0) := (blk_cell BK183.out 0).trans rfl; have hcz8_1 : w7.cell? ⟨gb183, 1, none⟩ = some (.int .i64 a0_1) := (blk_cell BK183.out 1).trans rfl; have hcz8_2 : w7.cell? ⟨gb183, 2, none⟩ = some (.int .i64 a0_2) := (blk_cell BK183.out 2).trans rfl; have hcz8_3 : w7.cell? ⟨gb183, 3, none⟩ = some (.int .i64 a0_3) := (blk_cell BK183.out 3).trans rfl; have hfz8_0 := blk_frozen BK183.out 0; have hfz8_1 := blk_frozen BK183.out 1; have hfz8_2 := blk_frozen BK183.out 2; have hfz8_3 := blk_frozen BK183.out 3) | (go_at_call 53; (with_reducible refine (lighterref07_Place.calls a0_2 a0_3 t185 _ A4.out).mono ?_); rintro e w9 ⟨rfl, hb⟩; have n0_ := Aside0.mk (blk_below (g := gb183) (o := .cells #[.int .i64 a0_0, .int .i64 a0_1, .int .i64 a0_2, .int .i64 a0_3] 66 (0, 0)) (by (with_reducible repeat (first | refine blk_drewN ?_ _ | refine blk_drew ?_ | refine blk_alloc ?_ _)); exact BK183.out) hb); have n1_ := Aside0.mk (below_step (by repeat (first | (with_reducible first | exact HB.out | apply below_alloc | apply pw_below_drewN | apply below_drew1 | refine below_set ?_ GE183.out) | exact HB.out)) hb); clear BK183; clear HB; have BK183 := n0_; have HB := n1_; clear n0_ n1_; (try clear hb); (try clear hb2); (try clear hk); (try clear hi)))
    go_ret
    exact ⟨by first | rfl | (simp [errW_none, errW_some] <;> rfl) | (simp [*, errW_none, errW_some] <;> rfl), by repeat (first | (with_reducible first | exact HB.out | apply below_alloc | apply pw_below_drewN | apply below_drew1 | refine below_set ?_ GE183.out) | exact HB.out)⟩
  · replace c3 := Bool.eq_false_iff.mpr c3
    subst c3
    have H1 : (some false) = some r := by rw [if_neg (show ¬ (false = true) by decide)] at H; exact H
    clear H
    have H := H1
    clear H1
    obtain rfl := Option.some.inj H
    go_enter Try.func30, Try.ntmps30
    go_wp2_with (first | ((with_reducible refine gate_dst (N := 1) rfl ?_); refine box_event ?hg (N := 1) ?hd (cs := #[.int .i64 a0_0, .int .i64 a0_1, .int .i64 a0_2, .int .i64 a0_3]) (t := 66) ?hr ?_; (case hd => rfl); (case hg => rfl); (case hr => first | (go_simp; done) | (go_simp; rfl)); intro gb183 hg w10 hbox hb; have n0_ := Aside0.mk (below_step (by repeat (first | (with_reducible first | exact HB.out | apply below_alloc | apply pw_below_drewN | apply below_drew1) | exact HB.out)) hb); have n1_ := Aside0.mk (hbox); have n2_ := Aside0.mk ((by rw [hg]; exact (below_size (by repeat (first | (with_reducible first | exact HB.out | apply below_alloc | apply pw_below_drewN | apply below_drew1) | exact HB.out))) : w.heap.size ≤ gb183)); have n3_ := Aside0.mk ((by rw [hg]; exact (below_size (by repeat (first | (with_reducible first | exact HB.out | apply below_alloc | apply pw_below_drewN | apply below_drew1) | exact HB.out))) : w.heap.size ≤ gb183)); clear HB; have HB := n0_; have BK183 := n1_; have GW183 := n2_; have GE183 := n3_; clear n0_ n1_ n2_ n3_; clear hb hbox hg; have hcz11_0 : w10.cell? ⟨gb183, 0, none⟩ = some (.int .i64 a0_0) := (blk_cell BK183.out 0).trans rfl; have hcz11_1 : w10.cell? ⟨gb183, 1, none⟩ = some (.int .i64 a0_1) := (blk_cell BK183.out 1).trans rfl; have hcz11_2 : w10.cell? ⟨gb183, 2, none⟩ = some (.int .i64 a0_2) := (blk_cell BK183.out 2).trans rfl; have hcz11_3 : w10.cell? ⟨gb183, 3, none⟩ = some (.int .i64 a0_3) := (blk_cell BK183.out 3).trans rfl; have hfz11_0 := blk_frozen BK183.out 0; have hfz11_1 := blk_frozen BK183.out 1; have hfz11_2 := blk_frozen BK183.out 2; have hfz11_3 := blk_frozen BK183.out 3) | ((with_reducible refine gate_callee (f := 52) rfl ?_); refine goesL_ (some 5) rfl rfl Try.func52 (by kernel_rfl) rfl #[.agg #[.int .i64 a0_0, .int .i64 a0_1]] rfl (by (try simp only [List.map_toArray, List.map_cons, List.map_nil]); first | done | rfl | (simp only [List.length_drop, List.length_take]; rfl)) ?_; (with_reducible refine (lighterref01_May.calls a0_0 a0_1 false _ A2.out).mono ?_); rintro e w12 ⟨rfl, hb⟩; refine ⟨_, rfl, ?_⟩; have n0_ := Aside0.mk (blk_below (g := gb183) (o := .cells #[.int .i64 a0_0, .int .i64 a0_1, .int .i64 a0_2, .int .i64 a0_3] 66 (0, 0)) (by (with_reducible repeat (first | refine blk_drewN ?_ _ | refine blk_drew ?_ | refine blk_alloc ?_ _)); exact BK183.out) hb); have n1_ := Aside0.mk (below_step (by repeat (first | (with_reducible first | exact HB.out | apply below_alloc | apply pw_below_drewN | apply below_drew1 | refine below_set ?_ GE183.out) | exact HB.out)) hb); clear BK183; clear HB; have BK183 := n0_; have HB := n1_; clear n0_ n1_; (try clear hb); (try clear hb2); (try clear hk); (try clear hi)))
    go_ret
    exact ⟨by first | rfl | (simp [errW_none, errW_some] <;> rfl) | (simp [*, errW_none, errW_some] <;> rfl), by repeat (first | (with_reducible first | exact HB.out | apply below_alloc | apply pw_below_drewN | apply below_drew1 | refine below_set ?_ GE183.out) | exact HB.out)⟩
def lighterref08_All.l0 : Nat → List (S66) → Int → Option (Bool)
  | 0, _, _ => none
  | k + 1, x0, x3 => if x3 < (x0.length : Int) then (if 0 ≤ x3 then ((lighterref07_May.f ((rd_T66 x0 x3).f0.f0) ((rd_T66 x0 x3).f0.f1) ((rd_T66 x0 x3).f1.f0) ((rd_T66 x0 x3).f1.f1)).bind fun t187 => (if t187 = true then (lighterref08_All.l0 k x0 (wrap64 (x3 + 1))) else (some false))) else (none)) else (some true)
def lighterref08_All.f (k : Nat) (l0 : List (S66)) : Option (Bool) := lighterref08_All.l0 k l0 0
set_option maxHeartbeats 8000000 in
set_option maxRecDepth 100000 in
theorem lighterref08_All.calls (k : Nat) (A0 : Option Addr) (c0 : Nat) (l0 : List (S66)) (r : Bool) (w : World) (hr0 : Kd.C k66 w A0 l0.length l0) (hc0 : l0.length ≤ c0) (h : lighterref08_All.f k l0 = some r) :
    Calls Try.prog 15 #[.slice A0 l0.length c0] w fun e w' => e = .returned (.bool r) ∧ Below w.heap.size w w' := by
  have hu66 := Try.underlying66
  have HR0 := Aside0.mk hr0
  have HC0 := Aside0.mk hc0
  clear hr0 hc0
  have HB := Aside0.mk (Below.refl w.heap.size w)
  have H : (lighterref08_All.l0 k l0 0) = some r := h
  clear h
  have H' := Aside0.mk H
  clear H
  go_enter Try.func15, Try.ntmps15
  go_wp2
  go_loopg [3] k (fun kq v3 w' => ∃ (x3_1 : Int), v3 = .int .i64 x3_1 ∧ Aside0 (lighterref08_All.l0 kq l0 x3_1 = some r) ∧ Aside0 (kq ≤ k) ∧ Aside0 (Below w.heap.size w w'))
  case atStart => exact ⟨(0), (by first | rfl | (simp; done) | (simp [*]; done)), H', ⟨Nat.le_refl _⟩, ⟨by repeat (first | (with_reducible first | exact HB.out | apply below_alloc | apply pw_below_drewN | apply below_drew1) | exact HB.out)⟩⟩
  case round =>
    clear H'
    try clear c1
    obtain ⟨x3_1, rfl, HA, HK1, HB⟩ := hrel
    cases gk with
    | zero => exact absurd HA.out (by simp [lighterref08_All.l0])
    | succ k1 =>
      have H := HA.out
      clear HA
      simp only [lighterref08_All.l0] at H
      by_cases c2 : x3_1 < (l0.length : Int)
      · rw [if_pos c2] at H
        have c2b0 : decide (x3_1 < (l0.length : Int)) = true := decide_eq_true c2
        clear c2
        by_cases c3 : 0 ≤ x3_1
        · rw [if_pos c3] at H
          have c3b0 : decide (0 ≤ x3_1) = true := decide_eq_true c3
          clear c3
          replace H := Option.bind_eq_some_iff.mp H
          obtain ⟨t187, A40, H⟩ := H
          replace H : (if t187 = true then (lighterref08_All.l0 k1 l0 (wrap64 (x3_1 + 1))) else (some false)) = some r := H
          have A4 := Aside0.mk A40
          clear A40
          by_cases c5 : t187 = true
          · subst c5
            have H1 : (lighterref08_All.l0 k1 l0 (wrap64 (x3_1 + 1))) = some r := by rw [if_pos rfl] at H; exact H
            clear H
            have H := H1
            clear H1
            have H' := Aside0.mk H
            clear H
            have p186 : 0 ≤ (x3_1 : Int) := of_decide_eq_true (by first | (with_reducible assumption) | assumption)
            have q186 : x3_1 < (l0.length : Int) := of_decide_eq_true (by first | (with_reducible assumption) | assumption)
            obtain ⟨ad186, e186, hx186_0, hx186_1, hx186_2, hx186_3⟩ := at_T66 HR0.out x3_1 p186 q186
            cases e186
            replace hx186_0 := (HB.out.cell (World.block_lt_of_cell? w _ hx186_0)).trans hx186_0
            replace hx186_1 := (HB.out.cell (World.block_lt_of_cell? w _ hx186_1)).trans hx186_1
            replace hx186_2 := (HB.out.cell (World.block_lt_of_cell? w _ hx186_2)).trans hx186_2
            replace hx186_3 := (HB.out.cell (World.block_lt_of_cell? w _ hx186_3)).trans hx186_3
            replace p186 := eq_true p186
            replace q186 := eq_true q186
            go_wp2_with (first | ((with_reducible refine gate_callee (f := 30) rfl ?_); refine goesL_ (some 14) rfl rfl Try.func30 (by kernel_rfl) rfl #[.agg #[.int .i64 ((rd_T66 l0 x3_1).f0.f0), .int .i64 ((rd_T66 l0 x3_1).f0.f1), .int .i64 ((rd_T66 l0 x3_1).f1.f0), .int .i64 ((rd_T66 l0 x3_1).f1.f1)]] rfl (by (try simp only [List.map_toArray, List.map_cons, List.map_nil]); first | done | rfl | (simp only [List.length_drop, List.length_take]; rfl)) ?_; (with_reducible refine (lighterref07_May.calls ((rd_T66 l0 x3_1).f0.f0) ((rd_T66 l0 x3_1).f0.f1) ((rd_T66 l0 x3_1).f1.f0) ((rd_T66 l0 x3_1).f1.f1) true _ A4.out).mono ?_); rintro e w6 ⟨rfl, hb⟩; refine ⟨_, rfl, ?_⟩; have n0_ := Aside0.mk (below_step (by repeat (first | (with_reducible first | exact HB.out | apply below_alloc | apply pw_below_drewN | apply below_drew1) | exact HB.out)) hb); clear HB; have HB := n0_; clear n0_; (try clear hb); (try clear hb2); (try clear hk); (try clear hi)))
            go_roundg k1
            case measure => have := HK1.out; omega
            case rel => exact ⟨(wrap64 (x3_1 + 1)), (by first | rfl | (simp; done) | (simp [*]; done)), H', ⟨by have := HK1.out; omega⟩, ⟨by repeat (first | (with_reducible first | exact HB.out | apply below_alloc | apply pw_below_drewN | apply below_drew1) | exact HB.out)⟩⟩
          · replace c5 := Bool.eq_false_iff.mpr c5
            subst c5
            have H1 : (some false) = some r := by rw [if_neg (show ¬ (false = true) by decide)] at H; exact H
            clear H
            have H := H1
            clear H1
            obtain rfl := Option.some.inj H
            have p186 : 0 ≤ (x3_1 : Int) := of_decide_eq_true (by first | (with_reducible assumption) | assumption)
            have q186 : x3_1 < (l0.length : Int) := of_decide_eq_true (by first | (with_reducible assumption) | assumption)
            obtain ⟨ad186, e186, hx186_0, hx186_1, hx186_2, hx186_3⟩ := at_T66 HR0.out x3_1 p186 q186
            cases e186
            replace hx186_0 := (HB.out.cell (World.block_lt_of_cell? w _ hx186_0)).trans hx186_0
            replace hx186_1 := (HB.out.cell (World.block_lt_of_cell? w _ hx186_1)).trans hx186_1
            replace hx186_2 := (HB.out.cell (World.block_lt_of_cell? w _ hx186_2)).trans hx186_2
            replace hx186_3 := (HB.out.cell (World.block_lt_of_cell? w _ hx186_3)).trans hx186_3
            replace p186 := eq_true p186
            replace q186 := eq_true q186
            go_wp2_with (first | ((with_reducible refine gate_callee (f := 30) rfl ?_); refine goesL_ (some 14) rfl rfl Try.func30 (by kernel_rfl) rfl #[.agg #[.int .i64 ((rd_T66 l0 x3_1).f0.f0), .int .i64 ((rd_T66 l0 x3_1).f0.f1), .int .i64 ((rd_T66 l0 x3_1).f1.f0), .int .i64 ((rd_T66 l0 x3_1).f1.f1)]] rfl (by (try simp only [List.map_toArray, List.map_cons, List.map_nil]); first | done | rfl | (simp only [List.length_drop, List.length_take]; rfl)) ?_; (with_reducible refine (lighterref07_May.calls ((rd_T66 l0 x3_1).f0.f0) ((rd_T66 l0 x3_1).f0.f1) ((rd_T66 l0 x3_1).f1.f0) ((rd_T66 l0 x3_1).f1.f1) false _ A4.out).mono ?_); rintro e w7 ⟨rfl, hb⟩; refine ⟨_, rfl, ?_⟩; have n0_ := Aside0.mk (below_step (by repeat (first | (with_reducible first | exact HB.out | apply below_alloc | apply pw_below_drewN | apply below_drew1) | exact HB.out)) hb); clear HB; have HB := n0_; clear n0_; (try clear hb); (try clear hb2); (try clear hk); (try clear hi)))
            go_ret
            exact ⟨by first | rfl | (simp [errW_none, errW_some] <;> rfl) | (simp [*, errW_none, errW_some] <;> rfl), by repeat (first | (with_reducible first | exact HB.out | apply below_alloc | apply pw_below_drewN | apply below_drew1) | exact HB.out)⟩
        · rw [if_neg c3] at H
          exact absurd H (by simp)
      · rw [if_neg c2] at H
        have c2b0 : decide (x3_1 < (l0.length : Int)) = false := decide_eq_false c2
        clear c2
        obtain rfl := Option.some.inj H
        go_wp2
        go_ret
        exact ⟨by first | rfl | (simp [errW_none, errW_some] <;> rfl) | (simp [*, errW_none, errW_some] <;> rfl), by repeat (first | (with_reducible first | exact HB.out | apply below_alloc | apply pw_below_drewN | apply below_drew1) | exact HB.out)⟩
end Go.Proofs.Ytcjeegomonegpaa.PLivePlays
namespace Go.Proofs.Ytcjeegomonegpaa.PLivePlays
open Go.RowKit Go.Proofs.YtcjeegomonegpaaW.PrintWords Go.Proofs.YtcjeegomonegpaaW.PrintLast Go.Proofs.YtcjeegomonegpaaW.PrintMore
attribute [local go_sem] max2_int min2_int max_two min_two max_three min_three max_four min_four   -- for this text's walks alone
set_option linter.unusedVariables false
set_option linter.unusedSimpArgs false
def lighterref08_Count.l0 : Nat → List (S66) → List (S25) → Int → Option ((List (S25)))
  | 0, _, _, _ => none
  | k + 1, x0, x3, x4 => if x4 < (x0.length : Int) then (if 0 ≤ x4 then (if ((rd_T66 x0 x4).f1.f0) = 0 then (lighterref08_Count.l0 k x0 x3 (wrap64 (x4 + 1))) else ((lighterref08_Find.f k x3 ((rd_T66 x0 x4).f1.f0)).bind fun t190 => (if t190 < 0 then ((lighterref08_with.f k x3 ((rd_T66 x0 x4).f1.f0) ((rd_T66 x0 x4).f0.f1) ((rd_T66 x0 x4).f0.f1)).bind fun t194 => (lighterref08_Count.l0 k x0 t194 (wrap64 (x4 + 1)))) else (if 0 ≤ t190 then (if t190 < (x3.length : Int) then ((some (x3.set (t190 : Int).toNat (⟨(rd_T25 x3 t190).f0, wrap64 (((rd_T25 x3 t190).f1) + ((rd_T66 x0 x4).f0.f1)), (rd_T25 x3 t190).f2⟩ : S25) : List (S25))).bind fun y199 => (lighterref08_Count.l0 k x0 (y199.set (t190 : Int).toNat (⟨(rd_T25 y199 t190).f0, (rd_T25 y199 t190).f1, wrap64 (((rd_T25 y199 t190).f2) + ((rd_T66 x0 x4).f0.f1))⟩ : S25)) (wrap64 (x4 + 1)))) else (none)) else (none))))) else (none)) else (some x3)
def lighterref08_Count.f (k : Nat) (l0 : List (S66)) : Option ((List (S25))) := lighterref08_Count.l0 k l0 ([] : List (S25)) 0
theorem lighterref08_Count.mono_l : ∀ k, (∀ y0 y1 y2, LeO (lighterref08_Count.l0 k y0 y1 y2) (lighterref08_Count.l0 (k + 1) y0 y1 y2))
  | 0 => fun _ _ _ r h => by simp [lighterref08_Count.l0] at h
  | k + 1 => by
    have ih0 := lighterref08_Count.mono_l k
    · intro y0 y1 y2
      unfold lighterref08_Count.l0
      repeat' first
      | (with_reducible exact ih0 _ _ _)
      | (with_reducible exact lighterref08_Find.mono _ _ _)
      | (with_reducible exact lighterref08_with.mono _ _ _ _ _)
      | (with_reducible exact LeO.refl _)
      | (with_reducible exact LeO.none _)
      | (with_reducible refine LeO.ite ?_ ?_)
      | (with_reducible refine LeO.bind ?_ (fun _ => ?_))
      | exact ih0 _ _ _
      | exact lighterref08_Find.mono _ _ _
      | exact lighterref08_with.mono _ _ _ _ _
      | exact LeO.none _
      | refine LeO.ite ?_ ?_
      | refine LeO.bind ?_ (fun _ => ?_)
theorem lighterref08_Count.mono : ∀ a0 k, LeO (lighterref08_Count.f k a0) (lighterref08_Count.f (k + 1) a0) := by
  intro a0 k
  have ih0 := lighterref08_Count.mono_l k
  unfold lighterref08_Count.f
  repeat' first
      | (with_reducible exact ih0 _ _ _)
      | (with_reducible exact lighterref08_Find.mono _ _ _)
      | (with_reducible exact lighterref08_with.mono _ _ _ _ _)
      | (with_reducible exact LeO.refl _)
      | (with_reducible exact LeO.none _)
      | (with_reducible refine LeO.ite ?_ ?_)
      | (with_reducible refine LeO.bind ?_ (fun _ => ?_))
      | exact ih0 _ _ _
      | exact lighterref08_Find.mono _ _ _
      | exact lighterref08_with.mono _ _ _ _ _
      | exact LeO.none _
      | refine LeO.ite ?_ ?_
      | refine LeO.bind ?_ (fun _ => ?_)
def lighterref08_Count.T8 : Bool × List (List Nat × List Nat) := (true, [([], []), ([], []), ([], []), ([1, 2], [1, 2]), ([3], [3]), ([4], [4]), ([5], [5]), ([], []), ([], []), ([7, 8], [7, 8]), ([9], [9]), ([10], [10]), ([11], [11]), ([], []), ([], []), ([13, 14], [13, 14]), ([15], [15]), ([16], [16]), ([17], [17]), ([6, 12, 18], [6, 12, 18]), ([0, 19], [0, 19]), ([20, 20, 0, 1, 2, 3, 4, 5, 6, 7, 8, 9, 10, 11, 12, 13, 14, 15, 16, 17, 18, 19, 20], [0, 20])])
def lighterref08_Count.B8 : List Nat := [0, 0, 0, 6, 14, 30, 62, 0, 0, 384, 896, 1920, 3968, 0, 0, 24576, 57344, 122880, 253952, 524286, 1048575, 2097151]
theorem lighterref08_Count.tab8 : rtab .any (opsOf Try.f18 8) = lighterref08_Count.T8 := by kernel_rfl
theorem lighterref08_Count.bits8 : waitsOk lighterref08_Count.T8.2 lighterref08_Count.B8 = true := by kernel_rfl
def lighterref08_Count.T9 : Bool × List (List Nat × List Nat) := (true, [([], []), ([], []), ([], []), ([], []), ([2, 3], [2, 3]), ([4], [4]), ([5], [5]), ([], []), ([], []), ([7, 8], [7, 8]), ([9], [9]), ([10], [10]), ([11], [11]), ([6, 12], [6, 12]), ([0, 1, 0, 1, 2, 3, 4, 5, 6, 7, 8, 9, 10, 11, 12, 13], [0, 1]), ([14, 0, 1, 2, 3, 4, 5, 6, 7, 8, 9, 10, 11, 12, 13], [14]), ([15, 13, 0, 1, 2, 3, 4, 5, 6, 7, 8, 9, 10, 11, 12, 13], [13, 15])])
def lighterref08_Count.B9 : List Nat := [0, 0, 0, 0, 12, 28, 60, 0, 0, 384, 896, 1920, 3968, 8188, 16383, 32767, 65535]
theorem lighterref08_Count.tab9 : rtab .any (opsOf Try.f18 9) = lighterref08_Count.T9 := by kernel_rfl
theorem lighterref08_Count.bits9 : waitsOk lighterref08_Count.T9.2 lighterref08_Count.B9 = true := by kernel_rfl
def lighterref08_Count.T10 : Bool × List (List Nat × List Nat) := (true, [([], []), ([], []), ([], []), ([], []), ([2, 3], [2, 3]), ([4], [4]), ([5], [5]), ([], []), ([], []), ([7, 8], [7, 8]), ([9], [9]), ([10], [10]), ([11], [11]), ([6, 12], [6, 12]), ([0, 1, 0, 1, 2, 3, 4, 5, 6, 7, 8, 9, 10, 11, 12, 13], [0, 1]), ([14, 0, 1, 2, 3, 4, 5, 6, 7, 8, 9, 10, 11, 12, 13], [14]), ([15, 13, 0, 1, 2, 3, 4, 5, 6, 7, 8, 9, 10, 11, 12, 13], [13, 15])])
def lighterref08_Count.B10 : List Nat := [0, 0, 0, 0, 12, 28, 60, 0, 0, 384, 896, 1920, 3968, 8188, 16383, 32767, 65535]
theorem lighterref08_Count.tab10 : rtab .any (opsOf Try.f18 10) = lighterref08_Count.T10 := by kernel_rfl
theorem lighterref08_Count.bits10 : waitsOk lighterref08_Count.T10.2 lighterref08_Count.B10 = true := by kernel_rfl
set_option maxHeartbeats 8000000 in
set_option maxRecDepth 100000 in
theorem lighterref08_Count.calls (k : Nat) (A0 : Option Addr) (c0 : Nat) (l0 : List (S66)) (r : List (S25)) (w : World) (hr0 : Kd.C k66 w A0 l0.length l0) (hc0 : l0.length ≤ c0) (h : lighterref08_Count.f k l0 = some r) :
    Calls Try.prog 18 #[.slice A0 l0.length c0] w fun e w' => ∃ v0_ : Value, e = .returned (v0_) ∧ Kd.R k25 25 w' w.heap.size (fun _ => True) v0_ r ∧ Below w.heap.size w w' := by
  have hu25 := Try.underlying25
  have HR0 := Aside0.mk hr0
  have HC0 := Aside0.mk hc0
  clear hr0 hc0
  have HB := Aside0.mk (Below.refl w.heap.size w)
  have H : (lighterref08_Count.l0 k l0 ([] : List (S25)) 0) = some r := h
  clear h
  have H' := Aside0.mk H
  clear H
  go_enter Try.func18, Try.ntmps18
  go_wp2
  go_loopg [3, 4] k (fun kq v3 v4 w' => ∃ (x3_1 : List (S25)) (x4_1 : Int), v4 = .int .i64 x4_1 ∧ Aside0 (lighterref08_Count.l0 kq l0 x3_1 x4_1 = some r) ∧ Aside0 (kq ≤ k) ∧ Aside0 (Kd.R k25 25 w' w.heap.size (fun _ => True) v3 x3_1) ∧ Aside0 (Below w.heap.size w w'))
  case atStart => exact ⟨(([] : List (S25))), (0), (by first | rfl | (simp; done) | (simp [*]; done)), H', ⟨Nat.le_refl _⟩, ⟨by first | exact Kd.R_nil _ _ _ _ _ | exact Kd.N_nil _ _ _ _ _ | exact Kd.V_nil _ _ _ _ _ | exact Kd.Q_nil _ _ _ _ _ | exact Kd.S_nil _ _ _ _ _⟩, ⟨by repeat (first | (with_reducible first | exact HB.out | apply below_alloc | apply pw_below_drewN | apply below_drew1) | exact HB.out)⟩⟩
  case round =>
    clear H'
    try clear c1
    obtain ⟨x3_1, x4_1, rfl, HA, HK1, HO_3, HB⟩ := hrel
    cases gk with
    | zero => exact absurd HA.out (by simp [lighterref08_Count.l0])
    | succ k1 =>
      have H := HA.out
      clear HA
      simp only [lighterref08_Count.l0] at H
      by_cases c2 : x4_1 < (l0.length : Int)
      · rw [if_pos c2] at H
        have c2b0 : decide (x4_1 < (l0.length : Int)) = true := decide_eq_true c2
        clear c2
        by_cases c3 : 0 ≤ x4_1
        · rw [if_pos c3] at H
          have c3b0 : decide (0 ≤ x4_1) = true := decide_eq_true c3
          clear c3
          by_cases c4 : ((rd_T66 l0 x4_1).f1.f0) = 0
          · rw [if_pos c4] at H
            have c4b0 : (((rd_T66 l0 x4_1).f1.f0) == 0) = true := beq_iff_eq.mpr c4
            have c4b1 : (((rd_T66 l0 x4_1).f1.f0) != 0) = false := bne_eq_false_iff_eq.mpr c4
            clear c4
            have H' := Aside0.mk H
            clear H
            have p188 : 0 ≤ (x4_1 : Int) := of_decide_eq_true (by first | (with_reducible assumption) | assumption)
            have q188 : x4_1 < (l0.length : Int) := of_decide_eq_true (by first | (with_reducible assumption) | assumption)
            obtain ⟨ad188, e188, hx188_0, hx188_1, hx188_2, hx188_3⟩ := at_T66 HR0.out x4_1 p188 q188
            cases e188
            replace hx188_0 := (HB.out.cell (World.block_lt_of_cell? w _ hx188_0)).trans hx188_0
            replace hx188_1 := (HB.out.cell (World.block_lt_of_cell? w _ hx188_1)).trans hx188_1
            replace hx188_2 := (HB.out.cell (World.block_lt_of_cell? w _ hx188_2)).trans hx188_2
            replace hx188_3 := (HB.out.cell (World.block_lt_of_cell? w _ hx188_3)).trans hx188_3
            replace p188 := eq_true p188
            replace q188 := eq_true q188
            go_wp2
            go_roundg k1
            case measure => have := HK1.out; omega
            case rel => exact ⟨(x3_1), (wrap64 (x4_1 + 1)), (by first | rfl | (simp; done) | (simp [*]; done)), H', ⟨by have := HK1.out; omega⟩, ⟨by (with_reducible repeat (first | apply Kd.R_alloc | apply Kd.R_drewN | apply Kd.R_drew)); exact HO_3.out⟩, ⟨by repeat (first | (with_reducible first | exact HB.out | apply below_alloc | apply pw_below_drewN | apply below_drew1) | exact HB.out)⟩⟩
          · rw [if_neg c4] at H
            have c4b0 : (((rd_T66 l0 x4_1).f1.f0) == 0) = false := beq_eq_false_iff_ne.mpr c4
            have c4b1 : (((rd_T66 l0 x4_1).f1.f0) != 0) = true := bne_iff_ne.mpr c4
            replace H := Option.bind_eq_some_iff.mp H
            obtain ⟨t190, A50, H⟩ := H
            replace H : (if t190 < 0 then ((lighterref08_with.f k1 x3_1 ((rd_T66 l0 x4_1).f1.f0) ((rd_T66 l0 x4_1).f0.f1) ((rd_T66 l0 x4_1).f0.f1)).bind fun t194 => (lighterref08_Count.l0 k1 l0 t194 (wrap64 (x4_1 + 1)))) else (if 0 ≤ t190 then (if t190 < (x3_1.length : Int) then ((some (x3_1.set (t190 : Int).toNat (⟨(rd_T25 x3_1 t190).f0, wrap64 (((rd_T25 x3_1 t190).f1) + ((rd_T66 l0 x4_1).f0.f1)), (rd_T25 x3_1 t190).f2⟩ : S25) : List (S25))).bind fun y199 => (lighterref08_Count.l0 k1 l0 (y199.set (t190 : Int).toNat (⟨(rd_T25 y199 t190).f0, (rd_T25 y199 t190).f1, wrap64 (((rd_T25 y199 t190).f2) + ((rd_T66 l0 x4_1).f0.f1))⟩ : S25)) (wrap64 (x4_1 + 1)))) else (none)) else (none))) = some r := H
            have A5 := Aside0.mk A50
            clear A50
            by_cases c6 : t190 < 0
            · rw [if_pos c6] at H
              have c6b0 : decide (t190 < 0) = true := decide_eq_true c6
              clear c6
              replace H := Option.bind_eq_some_iff.mp H
              obtain ⟨t194, A70, H⟩ := H
              replace H : (lighterref08_Count.l0 k1 l0 t194 (wrap64 (x4_1 + 1))) = some r := H
              have A7 := Aside0.mk A70
              clear A70
              have H' := Aside0.mk H
              clear H
              have p188 : 0 ≤ (x4_1 : Int) := of_decide_eq_true (by first | (with_reducible assumption) | assumption)
              have q188 : x4_1 < (l0.length : Int) := of_decide_eq_true (by first | (with_reducible assumption) | assumption)
              obtain ⟨ad188, e188, hx188_0, hx188_1, hx188_2, hx188_3⟩ := at_T66 HR0.out x4_1 p188 q188
              cases e188
              replace hx188_0 := (HB.out.cell (World.block_lt_of_cell? w _ hx188_0)).trans hx188_0
              replace hx188_1 := (HB.out.cell (World.block_lt_of_cell? w _ hx188_1)).trans hx188_1
              replace hx188_2 := (HB.out.cell (World.block_lt_of_cell? w _ hx188_2)).trans hx188_2
              replace hx188_3 := (HB.out.cell (World.block_lt_of_cell? w _ hx188_3)).trans hx188_3
              replace p188 := eq_true p188
              replace q188 := eq_true q188
              have p189 : 0 ≤ (x4_1 : Int) := of_decide_eq_true (by first | (with_reducible assumption) | assumption)
              have q189 : x4_1 < (l0.length : Int) := of_decide_eq_true (by first | (with_reducible assumption) | assumption)
              obtain ⟨ad189, e189, hx189_0, hx189_1, hx189_2, hx189_3⟩ := at_T66 HR0.out x4_1 p189 q189
              obtain rfl : ad188 = ad189 := (by injection e189)
              replace hx189_0 := (HB.out.cell (World.block_lt_of_cell? w _ hx189_0)).trans hx189_0
              replace hx189_1 := (HB.out.cell (World.block_lt_of_cell? w _ hx189_1)).trans hx189_1
              replace hx189_2 := (HB.out.cell (World.block_lt_of_cell? w _ hx189_2)).trans hx189_2
              replace hx189_3 := (HB.out.cell (World.block_lt_of_cell? w _ hx189_3)).trans hx189_3
              replace p189 := eq_true p189
              replace q189 := eq_true q189
              obtain ⟨Ao8, co8, eo8⟩ := Kd.R_slice HO_3.out
              subst eo8
              try go_wp2_with (first | ((with_reducible refine gate_callee (f := 34) rfl ?_); refine goesL_ (some 26) rfl rfl Try.func34 (by kernel_rfl) rfl #[.slice Ao8 x3_1.length co8, .int .i64 ((rd_T66 l0 x4_1).f1.f0)] rfl (by (try simp only [List.map_toArray, List.map_cons, List.map_nil]); first | done | rfl | (simp only [List.length_drop, List.length_take]; rfl)) ?_; (with_reducible refine (lighterref08_Find.calls k1 _ _ x3_1 ((rd_T66 l0 x4_1).f1.f0) t190 _ ?side1 ?side2 A5.out).mono ?_); (case side1 => repeat (first | exact (Kd.R_reads' HO_3.out).2.2 | (with_reducible refine Kd.C_alloc ?_ _) | (with_reducible refine Kd.C_drewN ?_ _) | (with_reducible refine Kd.C_drew ?_))); (case side2 => exact (Kd.R_reads' HO_3.out).2.1); rintro e w' ⟨rfl, ⟨nd, rfl⟩⟩; refine ⟨_, rfl, ?_⟩))
              (try (rw [drewN_self wr]; generalize hq_ : World.drewN wr _ = wr; have n0_ : Aside0 (Kd.R k25 25 wr w.heap.size (fun _ => True) (.slice Ao8 x3_1.length co8) x3_1) := ⟨by rw [← hq_]; exact (by (with_reducible repeat (first | apply Kd.R_alloc | apply Kd.R_drewN | apply Kd.R_drew)); exact HO_3.out)⟩; have n1_ : Aside0 (Below w.heap.size w wr) := ⟨by rw [← hq_]; exact (by repeat (first | (with_reducible first | exact HB.out | apply below_alloc | apply pw_below_drewN | apply below_drew1) | exact HB.out))⟩; clear HO_3 HB hq_; have HO_3 := n0_; have HB := n1_; clear n0_ n1_))
              have n0_ := Aside0.mk (Kd.R_drew HO_3.out)
              have n1_ := Aside0.mk (below_drew1 HB.out)
              clear HO_3
              clear HB
              have HO_3 := n0_
              have HB := n1_
              clear n0_ n1_
              have p191 : 0 ≤ (x4_1 : Int) := of_decide_eq_true (by first | (with_reducible assumption) | assumption)
              have q191 : x4_1 < (l0.length : Int) := of_decide_eq_true (by first | (with_reducible assumption) | assumption)
              obtain ⟨ad191, e191, hx191_0, hx191_1, hx191_2, hx191_3⟩ := at_T66 HR0.out x4_1 p191 q191
              have hw191_3 := hx191_3
              have hw191_2 := hx191_2
              have hw191_1 := hx191_1
              have hw191_0 := hx191_0
              obtain rfl : ad188 = ad191 := (by injection e191)
              replace hx191_0 := (HB.out.cell (World.block_lt_of_cell? w _ hx191_0)).trans hx191_0
              replace hx191_1 := (HB.out.cell (World.block_lt_of_cell? w _ hx191_1)).trans hx191_1
              replace hx191_2 := (HB.out.cell (World.block_lt_of_cell? w _ hx191_2)).trans hx191_2
              replace hx191_3 := (HB.out.cell (World.block_lt_of_cell? w _ hx191_3)).trans hx191_3
              replace p191 := eq_true p191
              replace q191 := eq_true q191
              have p192 : 0 ≤ (x4_1 : Int) := of_decide_eq_true (by first | (with_reducible assumption) | assumption)
              have q192 : x4_1 < (l0.length : Int) := of_decide_eq_true (by first | (with_reducible assumption) | assumption)
              obtain ⟨ad192, e192, hx192_0, hx192_1, hx192_2, hx192_3⟩ := at_T66 HR0.out x4_1 p192 q192
              have hw192_3 := hx192_3
              have hw192_2 := hx192_2
              have hw192_1 := hx192_1
              have hw192_0 := hx192_0
              obtain rfl : ad188 = ad192 := (by injection e192)
              replace hx192_0 := (HB.out.cell (World.block_lt_of_cell? w _ hx192_0)).trans hx192_0
              replace hx192_1 := (HB.out.cell (World.block_lt_of_cell? w _ hx192_1)).trans hx192_1
              replace hx192_2 := (HB.out.cell (World.block_lt_of_cell? w _ hx192_2)).trans hx192_2
              replace hx192_3 := (HB.out.cell (World.block_lt_of_cell? w _ hx192_3)).trans hx192_3
              replace p192 := eq_true p192
              replace q192 := eq_true q192
              have p193 : 0 ≤ (x4_1 : Int) := of_decide_eq_true (by first | (with_reducible assumption) | assumption)
              have q193 : x4_1 < (l0.length : Int) := of_decide_eq_true (by first | (with_reducible assumption) | assumption)
              obtain ⟨ad193, e193, hx193_0, hx193_1, hx193_2, hx193_3⟩ := at_T66 HR0.out x4_1 p193 q193
              have hw193_3 := hx193_3
              have hw193_2 := hx193_2
              have hw193_1 := hx193_1
              have hw193_0 := hx193_0
              obtain rfl : ad188 = ad193 := (by injection e193)
              replace hx193_0 := (HB.out.cell (World.block_lt_of_cell? w _ hx193_0)).trans hx193_0
              replace hx193_1 := (HB.out.cell (World.block_lt_of_cell? w _ hx193_1)).trans hx193_1
              replace hx193_2 := (HB.out.cell (World.block_lt_of_cell? w _ hx193_2)).trans hx193_2
              replace hx193_3 := (HB.out.cell (World.block_lt_of_cell? w _ hx193_3)).trans hx193_3
              replace p193 := eq_true p193
              replace q193 := eq_true q193
              refine start_ (n := 22) (S := fun w' => w'.cell? (ad188.add ((x4_1).toNat * 4)) = some (.int .i64 ((rd_T66 l0 x4_1).f0.f0)) ∧ w'.cell? ⟨(ad188.add ((x4_1).toNat * 4)).block, (ad188.add ((x4_1).toNat * 4)).off + 1, none⟩ = some (.int .i64 ((rd_T66 l0 x4_1).f0.f1)) ∧ w'.cell? ⟨(ad188.add ((x4_1).toNat * 4)).block, (ad188.add ((x4_1).toNat * 4)).off + 2, none⟩ = some (.int .i64 ((rd_T66 l0 x4_1).f1.f0)) ∧ w'.cell? ⟨(ad188.add ((x4_1).toNat * 4)).block, (ad188.add ((x4_1).toNat * 4)).off + 3, none⟩ = some (.int .i64 ((rd_T66 l0 x4_1).f1.f1)) ∧ w'.cell? (ad188.add ((x4_1).toNat * 4)) = some (.int .i64 ((rd_T66 l0 x4_1).f0.f0)) ∧ w'.cell? ⟨(ad188.add ((x4_1).toNat * 4)).block, (ad188.add ((x4_1).toNat * 4)).off + 1, none⟩ = some (.int .i64 ((rd_T66 l0 x4_1).f0.f1)) ∧ w'.cell? ⟨(ad188.add ((x4_1).toNat * 4)).block, (ad188.add ((x4_1).toNat * 4)).off + 2, none⟩ = some (.int .i64 ((rd_T66 l0 x4_1).f1.f0)) ∧ w'.cell? ⟨(ad188.add ((x4_1).toNat * 4)).block, (ad188.add ((x4_1).toNat * 4)).off + 3, none⟩ = some (.int .i64 ((rd_T66 l0 x4_1).f1.f1)) ∧ w'.cell? (ad188.add ((x4_1).toNat * 4)) = some (.int .i64 ((rd_T66 l0 x4_1).f0.f0)) ∧ w'.cell? ⟨(ad188.add ((x4_1).toNat * 4)).block, (ad188.add ((x4_1).toNat * 4)).off + 1, none⟩ = some (.int .i64 ((rd_T66 l0 x4_1).f0.f1)) ∧ w'.cell? ⟨(ad188.add ((x4_1).toNat * 4)).block, (ad188.add ((x4_1).toNat * 4)).off + 2, none⟩ = some (.int .i64 ((rd_T66 l0 x4_1).f1.f0)) ∧ w'.cell? ⟨(ad188.add ((x4_1).toNat * 4)).block, (ad188.add ((x4_1).toNat * 4)).off + 3, none⟩ = some (.int .i64 ((rd_T66 l0 x4_1).f1.f1))) (ds := []) #[false, false, false, false, false, false, false, false, false, false, false, false, false, false, false, false, false, false, false, false, false, false] (by kernel_rfl) rfl rfl ⟨((HB.out.cell (World.block_lt_of_cell? w _ hw191_0)).trans hw191_0), ((HB.out.cell (World.block_lt_of_cell? w _ hw191_1)).trans hw191_1), ((HB.out.cell (World.block_lt_of_cell? w _ hw191_2)).trans hw191_2), ((HB.out.cell (World.block_lt_of_cell? w _ hw191_3)).trans hw191_3), ((HB.out.cell (World.block_lt_of_cell? w _ hw192_0)).trans hw192_0), ((HB.out.cell (World.block_lt_of_cell? w _ hw192_1)).trans hw192_1), ((HB.out.cell (World.block_lt_of_cell? w _ hw192_2)).trans hw192_2), ((HB.out.cell (World.block_lt_of_cell? w _ hw192_3)).trans hw192_3), ((HB.out.cell (World.block_lt_of_cell? w _ hw193_0)).trans hw193_0), ((HB.out.cell (World.block_lt_of_cell? w _ hw193_1)).trans hw193_1), ((HB.out.cell (World.block_lt_of_cell? w _ hw193_2)).trans hw193_2), ((HB.out.cell (World.block_lt_of_cell? w _ hw193_3)).trans hw193_3)⟩ (fun hHeld => ?_); refine with_tabW lighterref08_Count.tab8 lighterref08_Count.bits8 (fun HT_ HW_ => ?_)
              generalize wr.drew = w9 at HO_3 HB hx191_0 hx191_1 hx191_2 hx191_3 hx192_0 hx192_1 hx192_2 hx192_3 hx193_0 hx193_1 hx193_2 hx193_3 hHeld ⊢
              refine pure_ (i := 0) (N := some 29) (v := ?_) (a' := ?_) #[true, false, false, false, false, false, false, false, false, false, false, false, false, false, false, false, false, false, false, false, false, false] rfl rfl (any_of HT_.out (by kernel_rfl)) (fun _ _ _ h => h) (Or.inl ⟨by rfl, ?_⟩) ?_ ?_
              rotate_left
              · intro w'
                go_simp
                with_reducible rfl
              rotate_left
              · simp only [Act.put, List.setIfInBounds_toArray, List.set_cons_zero, List.set_cons_succ, i64_w, i32_w]
                rfl
              refine pure_ (i := 1) (N := some 30) (v := ?_) (a' := ?_) #[true, true, false, false, false, false, false, false, false, false, false, false, false, false, false, false, false, false, false, false, false, false] rfl rfl (any_of HT_.out (by kernel_rfl)) (fun _ _ _ h => h) (Or.inl ⟨by rfl, ?_⟩) ?_ ?_
              rotate_left
              · intro w'
                go_simp
                with_reducible rfl
              rotate_left
              · simp only [Act.put, List.setIfInBounds_toArray, List.set_cons_zero, List.set_cons_succ, i64_w, i32_w]
                rfl
              refine pure_ (i := 2) (N := some 31) (v := ?_) (a' := ?_) #[true, true, true, false, false, false, false, false, false, false, false, false, false, false, false, false, false, false, false, false, false, false] rfl rfl (any_of HT_.out (by kernel_rfl)) (fun _ _ _ h => h) (Or.inl ⟨by rfl, ?_⟩) ?_ ?_
              rotate_left
              · intro w'
                go_simp
                with_reducible rfl
              rotate_left
              · simp only [Act.put, List.setIfInBounds_toArray, List.set_cons_zero, List.set_cons_succ, i64_w, i32_w]
                rfl
              refine pure_ (i := 3) (N := some 32) (v := ?_) (a' := ?_) #[true, true, true, true, false, false, false, false, false, false, false, false, false, false, false, false, false, false, false, false, false, false] rfl rfl (any_of HT_.out (by kernel_rfl)) (fun _ _ _ h => h) (Or.inl ⟨by rfl, ?_⟩) ?_ ?_
              rotate_left
              · intro w'
                go_simp
                with_reducible rfl
              rotate_left
              · simp only [Act.put, List.setIfInBounds_toArray, List.set_cons_zero, List.set_cons_succ, i64_w, i32_w]
                rfl
              refine pure_ (i := 4) (N := some 33) (v := ?_) (a' := ?_) #[true, true, true, true, true, false, false, false, false, false, false, false, false, false, false, false, false, false, false, false, false, false] rfl rfl (any_of HT_.out (by kernel_rfl)) (fun _ _ _ h => h) (Or.inl ⟨by rfl, ?_⟩) ?_ ?_
              rotate_left
              · intro w'
                go_simp
                with_reducible rfl
              rotate_left
              · simp only [Act.put, List.setIfInBounds_toArray, List.set_cons_zero, List.set_cons_succ, i64_w, i32_w]
                rfl
              refine pure_ (i := 5) (N := some 34) (v := ?_) (a' := ?_) #[true, true, true, true, true, true, false, false, false, false, false, false, false, false, false, false, false, false, false, false, false, false] rfl rfl (any_of HT_.out (by kernel_rfl)) (fun _ _ _ h => h) (Or.inl ⟨by rfl, ?_⟩) ?_ ?_
              rotate_left
              · intro w'
                go_simp
                with_reducible rfl
              rotate_left
              · simp only [Act.put, List.setIfInBounds_toArray, List.set_cons_zero, List.set_cons_succ, i64_w, i32_w]
                rfl
              refine pure_ (i := 7) (N := some 36) (v := ?_) (a' := ?_) #[true, true, true, true, true, true, false, true, false, false, false, false, false, false, false, false, false, false, false, false, false, false] rfl rfl (any_of HT_.out (by kernel_rfl)) (fun _ _ _ h => h) (Or.inl ⟨by rfl, ?_⟩) ?_ ?_
              rotate_left
              · intro w'
                go_simp
                with_reducible rfl
              rotate_left
              · simp only [Act.put, List.setIfInBounds_toArray, List.set_cons_zero, List.set_cons_succ, i64_w, i32_w]
                rfl
              refine pure_ (i := 8) (N := some 37) (v := ?_) (a' := ?_) #[true, true, true, true, true, true, false, true, true, false, false, false, false, false, false, false, false, false, false, false, false, false] rfl rfl (any_of HT_.out (by kernel_rfl)) (fun _ _ _ h => h) (Or.inl ⟨by rfl, ?_⟩) ?_ ?_
              rotate_left
              · intro w'
                go_simp
                with_reducible rfl
              rotate_left
              · simp only [Act.put, List.setIfInBounds_toArray, List.set_cons_zero, List.set_cons_succ, i64_w, i32_w]
                rfl
              refine pure_ (i := 9) (N := some 38) (v := ?_) (a' := ?_) #[true, true, true, true, true, true, false, true, true, true, false, false, false, false, false, false, false, false, false, false, false, false] rfl rfl (any_of HT_.out (by kernel_rfl)) (fun _ _ _ h => h) (Or.inl ⟨by rfl, ?_⟩) ?_ ?_
              rotate_left
              · intro w'
                go_simp
                with_reducible rfl
              rotate_left
              · simp only [Act.put, List.setIfInBounds_toArray, List.set_cons_zero, List.set_cons_succ, i64_w, i32_w]
                rfl
              refine pure_ (i := 10) (N := some 39) (v := ?_) (a' := ?_) #[true, true, true, true, true, true, false, true, true, true, true, false, false, false, false, false, false, false, false, false, false, false] rfl rfl (any_of HT_.out (by kernel_rfl)) (fun _ _ _ h => h) (Or.inl ⟨by rfl, ?_⟩) ?_ ?_
              rotate_left
              · intro w'
                go_simp
                with_reducible rfl
              rotate_left
              · simp only [Act.put, List.setIfInBounds_toArray, List.set_cons_zero, List.set_cons_succ, i64_w, i32_w]
                rfl
              refine pure_ (i := 11) (N := some 40) (v := ?_) (a' := ?_) #[true, true, true, true, true, true, false, true, true, true, true, true, false, false, false, false, false, false, false, false, false, false] rfl rfl (any_of HT_.out (by kernel_rfl)) (fun _ _ _ h => h) (Or.inl ⟨by rfl, ?_⟩) ?_ ?_
              rotate_left
              · intro w'
                go_simp
                with_reducible rfl
              rotate_left
              · simp only [Act.put, List.setIfInBounds_toArray, List.set_cons_zero, List.set_cons_succ, i64_w, i32_w]
                rfl
              refine pure_ (i := 13) (N := some 42) (v := ?_) (a' := ?_) #[true, true, true, true, true, true, false, true, true, true, true, true, false, true, false, false, false, false, false, false, false, false] rfl rfl (any_of HT_.out (by kernel_rfl)) (fun _ _ _ h => h) (Or.inl ⟨by rfl, ?_⟩) ?_ ?_
              rotate_left
              · intro w'
                go_simp
                with_reducible rfl
              rotate_left
              · simp only [Act.put, List.setIfInBounds_toArray, List.set_cons_zero, List.set_cons_succ, i64_w, i32_w]
                rfl
              refine pure_ (i := 14) (N := some 43) (v := ?_) (a' := ?_) #[true, true, true, true, true, true, false, true, true, true, true, true, false, true, true, false, false, false, false, false, false, false] rfl rfl (any_of HT_.out (by kernel_rfl)) (fun _ _ _ h => h) (Or.inl ⟨by rfl, ?_⟩) ?_ ?_
              rotate_left
              · intro w'
                go_simp
                with_reducible rfl
              rotate_left
              · simp only [Act.put, List.setIfInBounds_toArray, List.set_cons_zero, List.set_cons_succ, i64_w, i32_w]
                rfl
              refine pure_ (i := 15) (N := some 44) (v := ?_) (a' := ?_) #[true, true, true, true, true, true, false, true, true, true, true, true, false, true, true, true, false, false, false, false, false, false] rfl rfl (any_of HT_.out (by kernel_rfl)) (fun _ _ _ h => h) (Or.inl ⟨by rfl, ?_⟩) ?_ ?_
              rotate_left
              · intro w'
                go_simp
                with_reducible rfl
              rotate_left
              · simp only [Act.put, List.setIfInBounds_toArray, List.set_cons_zero, List.set_cons_succ, i64_w, i32_w]
                rfl
              refine pure_ (i := 16) (N := some 45) (v := ?_) (a' := ?_) #[true, true, true, true, true, true, false, true, true, true, true, true, false, true, true, true, true, false, false, false, false, false] rfl rfl (any_of HT_.out (by kernel_rfl)) (fun _ _ _ h => h) (Or.inl ⟨by rfl, ?_⟩) ?_ ?_
              rotate_left
              · intro w'
                go_simp
                with_reducible rfl
              rotate_left
              · simp only [Act.put, List.setIfInBounds_toArray, List.set_cons_zero, List.set_cons_succ, i64_w, i32_w]
                rfl
              refine pure_ (i := 17) (N := some 46) (v := ?_) (a' := ?_) #[true, true, true, true, true, true, false, true, true, true, true, true, false, true, true, true, true, true, false, false, false, false] rfl rfl (any_of HT_.out (by kernel_rfl)) (fun _ _ _ h => h) (Or.inl ⟨by rfl, ?_⟩) ?_ ?_
              rotate_left
              · intro w'
                go_simp
                with_reducible rfl
              rotate_left
              · simp only [Act.put, List.setIfInBounds_toArray, List.set_cons_zero, List.set_cons_succ, i64_w, i32_w]
                rfl
              refine take_ (i := 6) (N := some 35) (v := ?_) (a' := ?_) #[true, true, true, true, true, true, true, true, true, true, true, true, false, true, true, true, true, true, false, false, false, false] rfl rfl (take_ofW HT_.out HW_.out (by kernel_rfl)) (fun _ _ _ h => h) (Or.inl ⟨by rfl, ?_⟩) hHeld ?_ ?_
              rotate_left
              · rintro w' ⟨s0, s1, s2, s3, s4, s5, s6, s7, s8, s9, s10, s11⟩
                go_simp
                with_reducible rfl
              rotate_left
              · simp only [Act.put, List.setIfInBounds_toArray, List.set_cons_zero, List.set_cons_succ, i64_w, i32_w]
                rfl
              refine take_ (i := 12) (N := some 41) (v := ?_) (a' := ?_) #[true, true, true, true, true, true, true, true, true, true, true, true, true, true, true, true, true, true, false, false, false, false] rfl rfl (take_ofW HT_.out HW_.out (by kernel_rfl)) (fun _ _ _ h => h) (Or.inl ⟨by rfl, ?_⟩) hHeld ?_ ?_
              rotate_left
              · rintro w' ⟨s0, s1, s2, s3, s4, s5, s6, s7, s8, s9, s10, s11⟩
                go_simp
                with_reducible rfl
              rotate_left
              · simp only [Act.put, List.setIfInBounds_toArray, List.set_cons_zero, List.set_cons_succ, i64_w, i32_w]
                rfl
              refine take_ (i := 18) (N := some 47) (v := ?_) (a' := ?_) #[true, true, true, true, true, true, true, true, true, true, true, true, true, true, true, true, true, true, true, false, false, false] rfl rfl (take_ofW HT_.out HW_.out (by kernel_rfl)) (fun _ _ _ h => h) (Or.inl ⟨by rfl, ?_⟩) hHeld ?_ ?_
              rotate_left
              · rintro w' ⟨s0, s1, s2, s3, s4, s5, s6, s7, s8, s9, s10, s11⟩
                go_simp
                with_reducible rfl
              rotate_left
              · simp only [Act.put, List.setIfInBounds_toArray, List.set_cons_zero, List.set_cons_succ, i64_w, i32_w]
                rfl
              refine pure_ (i := 19) (N := some 48) (v := ?_) (a' := ?_) #[true, true, true, true, true, true, true, true, true, true, true, true, true, true, true, true, true, true, true, true, false, false] rfl rfl (any_of HT_.out (by kernel_rfl)) (fun _ _ _ h => h) (Or.inl ⟨by rfl, ?_⟩) ?_ ?_
              rotate_left
              · intro w'
                go_simp
                with_reducible rfl
              rotate_left
              · simp only [Act.put, List.setIfInBounds_toArray, List.set_cons_zero, List.set_cons_succ, i64_w, i32_w]
                rfl
              refine one_ (i := 20) (N := some 49) #[true, true, true, true, true, true, true, true, true, true, true, true, true, true, true, true, true, true, true, true, true, false] rfl rfl (one_of HT_.out (by kernel_rfl)) (by decide) (fun K hK => ?_)
              refine goes_ Try.func35 (by kernel_rfl) rfl #[.slice Ao8 x3_1.length co8, .agg #[.int .i64 ((rd_T66 l0 x4_1).f1.f0), .int .i64 ((rd_T66 l0 x4_1).f0.f1), .int .i64 ((rd_T66 l0 x4_1).f0.f1)]] (by rfl) rfl rfl (by (try simp only [List.map_toArray, List.map_cons, List.map_nil]); first | done | rfl | (simp only [List.length_drop, List.length_take]; rfl)) ?_
              with_reducible refine (lighterref08_with.calls k1 _ _ x3_1 ((rd_T66 l0 x4_1).f1.f0) ((rd_T66 l0 x4_1).f0.f1) ((rd_T66 l0 x4_1).f0.f1) t194 _ ?side1 ?side2 A7.out).mono ?_
              (case side1 => repeat (first | exact (Kd.R_reads' HO_3.out).2.2 | (with_reducible refine Kd.C_alloc ?_ _) | (with_reducible refine Kd.C_drewN ?_ _) | (with_reducible refine Kd.C_drew ?_)))
              (case side2 => exact (Kd.R_reads' HO_3.out).2.1)
              rintro e w10 ⟨v195, rfl, ho0, hb⟩
              refine ⟨_, rfl, ?_⟩
              have n0_ := Aside0.mk (Kd.R_elder' (by (with_reducible repeat (first | apply Kd.R_alloc | apply Kd.R_drewN | apply Kd.R_drew)); exact HO_3.out) (Kd.R_base ho0) hb)
              have n1_ := Aside0.mk (Kd.R_lower (Kd.R_new' ho0 (Kd.R_lt (by (with_reducible repeat (first | apply Kd.R_alloc | apply Kd.R_drewN | apply Kd.R_drew)); exact HO_3.out))) (below_size (by repeat (first | (with_reducible first | exact HB.out | apply below_alloc | apply pw_below_drewN | apply below_drew1) | exact HB.out))))
              have n2_ := Aside0.mk (below_step (by repeat (first | (with_reducible first | exact HB.out | apply below_alloc | apply pw_below_drewN | apply below_drew1) | exact HB.out)) hb)
              clear HO_3
              clear HB
              have HO_3 := n0_
              have HO196 := n1_
              have HB := n2_
              clear n0_ n1_ n2_
              (try clear hb)
              (try clear hb2)
              (try clear hk)
              (try clear hi)
              (try clear ho0)
              refine hK.out _ _ ⟨((HB.out.cell (World.block_lt_of_cell? w _ hw191_0)).trans hw191_0), ((HB.out.cell (World.block_lt_of_cell? w _ hw191_1)).trans hw191_1), ((HB.out.cell (World.block_lt_of_cell? w _ hw191_2)).trans hw191_2), ((HB.out.cell (World.block_lt_of_cell? w _ hw191_3)).trans hw191_3), ((HB.out.cell (World.block_lt_of_cell? w _ hw192_0)).trans hw192_0), ((HB.out.cell (World.block_lt_of_cell? w _ hw192_1)).trans hw192_1), ((HB.out.cell (World.block_lt_of_cell? w _ hw192_2)).trans hw192_2), ((HB.out.cell (World.block_lt_of_cell? w _ hw192_3)).trans hw192_3), ((HB.out.cell (World.block_lt_of_cell? w _ hw193_0)).trans hw193_0), ((HB.out.cell (World.block_lt_of_cell? w _ hw193_1)).trans hw193_1), ((HB.out.cell (World.block_lt_of_cell? w _ hw193_2)).trans hw193_2), ((HB.out.cell (World.block_lt_of_cell? w _ hw193_3)).trans hw193_3)⟩ (fun hHeld => ?_)
              clear hK K
              refine norm_ (a' := ?_) ?_ ?_
              rotate_left
              · show Act.put _ (some 49) _ = _
                simp only [Act.put, List.setIfInBounds_toArray, List.set_cons_zero, List.set_cons_succ, i64_w, i32_w]
                rfl
              refine pure_ (i := 21) (N := some 3) (v := ?_) (a' := ?_) #[true, true, true, true, true, true, true, true, true, true, true, true, true, true, true, true, true, true, true, true, true, true] rfl rfl (any_of HT_.out (by kernel_rfl)) (fun _ _ _ h => h) (Or.inl ⟨by rfl, ?_⟩) ?_ ?_
              rotate_left
              · intro w'
                go_simp
                with_reducible rfl
              rotate_left
              · simp only [Act.put, List.setIfInBounds_toArray, List.set_cons_zero, List.set_cons_succ, i64_w, i32_w]
                rfl
              refine done_ (done_of HT_.out (by kernel_rfl)) ?_
              try go_wp2
              go_roundg k1
              case measure => have := HK1.out; omega
              case rel => exact ⟨(t194), (wrap64 (x4_1 + 1)), (by first | rfl | (simp; done) | (simp [*]; done)), H', ⟨by have := HK1.out; omega⟩, ⟨by (with_reducible repeat (first | apply Kd.R_alloc | apply Kd.R_drewN | apply Kd.R_drew)); exact Kd.R_mono HO196.out (fun _ hk => trivial)⟩, ⟨by repeat (first | (with_reducible first | exact HB.out | apply below_alloc | apply pw_below_drewN | apply below_drew1) | exact HB.out)⟩⟩
            · rw [if_neg c6] at H
              have c6b0 : decide (t190 < 0) = false := decide_eq_false c6
              clear c6
              by_cases c11 : 0 ≤ t190
              · rw [if_pos c11] at H
                have c11b0 : decide (0 ≤ t190) = true := decide_eq_true c11
                clear c11
                by_cases c12 : t190 < (x3_1.length : Int)
                · rw [if_pos c12] at H
                  have c12b0 : decide (t190 < (x3_1.length : Int)) = true := decide_eq_true c12
                  clear c12
                  obtain ⟨y199, hy199⟩ : ∃ y_ : List (S25), y_ = (x3_1.set (t190 : Int).toNat (⟨(rd_T25 x3_1 t190).f0, wrap64 (((rd_T25 x3_1 t190).f1) + ((rd_T66 l0 x4_1).f0.f1)), (rd_T25 x3_1 t190).f2⟩ : S25)) := ⟨_, rfl⟩
                  replace H : (lighterref08_Count.l0 k1 l0 (y199.set (t190 : Int).toNat (⟨(rd_T25 y199 t190).f0, (rd_T25 y199 t190).f1, wrap64 (((rd_T25 y199 t190).f2) + ((rd_T66 l0 x4_1).f0.f1))⟩ : S25)) (wrap64 (x4_1 + 1))) = some r := by first | (rw [hy199]; with_reducible exact H) | (have H2_ := (Option.bind_some _ _).symm.trans H; rw [hy199]; with_reducible exact H2_) | (have H2_ := (Option.bind_some _ _).symm.trans H; with_reducible exact H2_) | with_reducible exact H | (rw [hy199]; exact H) | exact H
                  have Ny199 := Aside0.mk hy199
                  clear hy199
                  obtain ⟨y202, hy202⟩ : ∃ y_ : List (S25), y_ = (y199.set (t190 : Int).toNat (⟨(rd_T25 y199 t190).f0, (rd_T25 y199 t190).f1, wrap64 (((rd_T25 y199 t190).f2) + ((rd_T66 l0 x4_1).f0.f1))⟩ : S25)) := ⟨_, rfl⟩
                  replace H : (lighterref08_Count.l0 k1 l0 y202 (wrap64 (x4_1 + 1))) = some r := by first | (rw [hy202]; with_reducible exact H) | (have H2_ := (Option.bind_some _ _).symm.trans H; rw [hy202]; with_reducible exact H2_) | (have H2_ := (Option.bind_some _ _).symm.trans H; with_reducible exact H2_) | with_reducible exact H | (rw [hy202]; exact H) | exact H
                  have Ny202 := Aside0.mk hy202
                  clear hy202
                  have H' := Aside0.mk H
                  clear H
                  have p188 : 0 ≤ (x4_1 : Int) := of_decide_eq_true (by first | (with_reducible assumption) | assumption)
                  have q188 : x4_1 < (l0.length : Int) := of_decide_eq_true (by first | (with_reducible assumption) | assumption)
                  obtain ⟨ad188, e188, hx188_0, hx188_1, hx188_2, hx188_3⟩ := at_T66 HR0.out x4_1 p188 q188
                  cases e188
                  replace hx188_0 := (HB.out.cell (World.block_lt_of_cell? w _ hx188_0)).trans hx188_0
                  replace hx188_1 := (HB.out.cell (World.block_lt_of_cell? w _ hx188_1)).trans hx188_1
                  replace hx188_2 := (HB.out.cell (World.block_lt_of_cell? w _ hx188_2)).trans hx188_2
                  replace hx188_3 := (HB.out.cell (World.block_lt_of_cell? w _ hx188_3)).trans hx188_3
                  replace p188 := eq_true p188
                  replace q188 := eq_true q188
                  have p189 : 0 ≤ (x4_1 : Int) := of_decide_eq_true (by first | (with_reducible assumption) | assumption)
                  have q189 : x4_1 < (l0.length : Int) := of_decide_eq_true (by first | (with_reducible assumption) | assumption)
                  obtain ⟨ad189, e189, hx189_0, hx189_1, hx189_2, hx189_3⟩ := at_T66 HR0.out x4_1 p189 q189
                  obtain rfl : ad188 = ad189 := (by injection e189)
                  replace hx189_0 := (HB.out.cell (World.block_lt_of_cell? w _ hx189_0)).trans hx189_0
                  replace hx189_1 := (HB.out.cell (World.block_lt_of_cell? w _ hx189_1)).trans hx189_1
                  replace hx189_2 := (HB.out.cell (World.block_lt_of_cell? w _ hx189_2)).trans hx189_2
                  replace hx189_3 := (HB.out.cell (World.block_lt_of_cell? w _ hx189_3)).trans hx189_3
                  replace p189 := eq_true p189
                  replace q189 := eq_true q189
                  obtain ⟨Ao15, co15, eo15⟩ := Kd.R_slice HO_3.out
                  subst eo15
                  try go_wp2_with (first | ((with_reducible refine gate_callee (f := 34) rfl ?_); refine goesL_ (some 26) rfl rfl Try.func34 (by kernel_rfl) rfl #[.slice Ao15 x3_1.length co15, .int .i64 ((rd_T66 l0 x4_1).f1.f0)] rfl (by (try simp only [List.map_toArray, List.map_cons, List.map_nil]); first | done | rfl | (simp only [List.length_drop, List.length_take]; rfl)) ?_; (with_reducible refine (lighterref08_Find.calls k1 _ _ x3_1 ((rd_T66 l0 x4_1).f1.f0) t190 _ ?side1 ?side2 A5.out).mono ?_); (case side1 => repeat (first | exact (Kd.R_reads' HO_3.out).2.2 | (with_reducible refine Kd.C_alloc ?_ _) | (with_reducible refine Kd.C_drewN ?_ _) | (with_reducible refine Kd.C_drew ?_))); (case side2 => exact (Kd.R_reads' HO_3.out).2.1); rintro e w' ⟨rfl, ⟨nd, rfl⟩⟩; refine ⟨_, rfl, ?_⟩; (try (rw [drewN_self wr]; generalize hq_ : World.drewN wr _ = wr; have n0_ : Aside0 (Kd.R k25 25 wr w.heap.size (fun _ => True) (.slice Ao15 x3_1.length co15) x3_1) := ⟨by rw [← hq_]; exact (by (with_reducible repeat (first | apply Kd.R_alloc | apply Kd.R_drewN | apply Kd.R_drew)); exact HO_3.out)⟩; have n1_ : Aside0 (Below w.heap.size w wr) := ⟨by rw [← hq_]; exact (by repeat (first | (with_reducible first | exact HB.out | apply below_alloc | apply pw_below_drewN | apply below_drew1) | exact HB.out))⟩; clear HO_3 HB hq_; have HO_3 := n0_; have HB := n1_; clear n0_ n1_))))
                  have n0_ := Aside0.mk (Kd.R_drew HO_3.out)
                  have n1_ := Aside0.mk (below_drew1 HB.out)
                  clear HO_3
                  clear HB
                  have HO_3 := n0_
                  have HB := n1_
                  clear n0_ n1_
                  have p197 : 0 ≤ (t190 : Int) := of_decide_eq_true (by first | (with_reducible assumption) | assumption)
                  have q197 : t190 < (x3_1.length : Int) := of_decide_eq_true (by first | (with_reducible assumption) | assumption)
                  obtain ⟨ad197, e197, hx197_0, hx197_1, hx197_2⟩ := at_T25 (Kd.R_reads' HO_3.out).2.2 t190 p197 q197
                  cases e197
                  replace p197 := eq_true p197
                  replace q197 := eq_true q197
                  have p198 : 0 ≤ (x4_1 : Int) := of_decide_eq_true (by first | (with_reducible assumption) | assumption)
                  have q198 : x4_1 < (l0.length : Int) := of_decide_eq_true (by first | (with_reducible assumption) | assumption)
                  obtain ⟨ad198, e198, hx198_0, hx198_1, hx198_2, hx198_3⟩ := at_T66 HR0.out x4_1 p198 q198
                  have hw198_3 := hx198_3
                  have hw198_2 := hx198_2
                  have hw198_1 := hx198_1
                  have hw198_0 := hx198_0
                  obtain rfl : ad188 = ad198 := (by injection e198)
                  replace hx198_0 := (HB.out.cell (World.block_lt_of_cell? w _ hx198_0)).trans hx198_0
                  replace hx198_1 := (HB.out.cell (World.block_lt_of_cell? w _ hx198_1)).trans hx198_1
                  replace hx198_2 := (HB.out.cell (World.block_lt_of_cell? w _ hx198_2)).trans hx198_2
                  replace hx198_3 := (HB.out.cell (World.block_lt_of_cell? w _ hx198_3)).trans hx198_3
                  replace p198 := eq_true p198
                  replace q198 := eq_true q198
                  have p13 : 0 ≤ (t190 : Int) := of_decide_eq_true (by first | (with_reducible assumption) | assumption)
                  have q13 : (t190 : Int) < ((x3_1.length : Int) : Int) := of_decide_eq_true (by first | (with_reducible assumption) | assumption)
                  obtain ⟨go13, co13, eo13, gb13, gl13, cl13, HG13⟩ := Kd.R_form HO_3.out (by omega)
                  (first | cases eo13 | (injection eo13 with ea_ en_ ec_; (first | subst ea_ | (injection ea_ with ea_; subst ea_)); subst ec_; clear en_))
                  have GB13 := Aside0.mk gb13
                  have GG13 := Aside0.mk HG13
                  clear gb13 gl13 HG13
                  (first | simp only [add_plain] at hx197_0 | skip)
                  (first | simp only [add_plain] at hx197_1 | skip)
                  (first | simp only [add_plain] at hx197_2 | skip)
                  obtain ⟨ce13, hcl13, hM13, hcc13, hfr13⟩ := Kd.R_elem HO_3.out z25 (t190 : Int) p13 q13
                  obtain rfl := k25_openM hM13
                  have hx13_0 : World.cell? _ ⟨go13, (t190 : Int).toNat * 3, none⟩ = some (.int .i64 ((rd_T25 x3_1 t190).f0)) := hcc13 0 _ rfl
                  have hx13_1 : World.cell? _ ⟨go13, (t190 : Int).toNat * 3 + 1, none⟩ = some (.int .i64 ((rd_T25 x3_1 t190).f1)) := hcc13 1 _ rfl
                  have hx13_2 : World.cell? _ ⟨go13, (t190 : Int).toNat * 3 + 2, none⟩ = some (.int .i64 ((rd_T25 x3_1 t190).f2)) := hcc13 2 _ rfl
                  have hf13_0 : World.frozen? _ ⟨go13, (t190 : Int).toNat * 3, none⟩ = false := hfr13 0
                  have hf13_1 : World.frozen? _ ⟨go13, (t190 : Int).toNat * 3 + 1, none⟩ = false := hfr13 1
                  have hf13_2 : World.frozen? _ ⟨go13, (t190 : Int).toNat * 3 + 2, none⟩ = false := hfr13 2
                  clear hcl13 hcc13 hfr13 hM13
                  replace p13 := eq_true p13
                  replace q13 := eq_true q13
                  obtain ⟨ce17, hcl17, hM17, hcc17, hfr17⟩ := Kd.R_elem HO_3.out z25 (t190 : Int) (of_decide_eq_true (by first | (with_reducible assumption) | assumption)) (by have h_ : (t190 : Int) < ((x3_1.length : Int) : Int) := of_decide_eq_true (by first | (with_reducible assumption) | assumption); first | exact h_ | (have e_ := (Kd.R_reads' HO_3.out).1; omega) | simpa using h_)
                  obtain rfl := k25_openM hM17
                  have HP17 := (Kd.R_seg HO_3.out (t190 : Int) (of_decide_eq_true (by first | (with_reducible assumption) | assumption)) (by have h_ : (t190 : Int) < ((x3_1.length : Int) : Int) := of_decide_eq_true (by first | (with_reducible assumption) | assumption); first | exact h_ | (have e_ := (Kd.R_reads' HO_3.out).1; omega) | simpa using h_) (seg := [.int .i64 (wrap64 (((rd_T25 x3_1 t190).f1) + ((rd_T66 l0 x4_1).f0.f1)))]) (j := 1) hcl17 hcc17 (show 2 ≤ 3 from by decide) (x' := (⟨(rd_T25 x3_1 t190).f0, wrap64 (((rd_T25 x3_1 t190).f1) + ((rd_T66 l0 x4_1).f0.f1)), (rd_T25 x3_1 t190).f2⟩ : S25)) (k25_mkM _ _ _ (⟨(rd_T25 x3_1 t190).f0, wrap64 (((rd_T25 x3_1 t190).f1) + ((rd_T66 l0 x4_1).f0.f1)), (rd_T25 x3_1 t190).f2⟩ : S25) ) (fun _ hk => hk)).1
                  rw [← Ny199.out] at HP17
                  have HQ17 := Aside0.mk HP17
                  clear hcl17 hcc17 hfr17 hM17 HP17
                  refine start_ (n := 17) (S := fun w' => w'.cell? ⟨go13, ((t190).toNat * 3), none⟩ = some (.int .i64 ((rd_T25 x3_1 t190).f0)) ∧ w'.cell? ⟨go13, ((t190).toNat * 3) + 1, none⟩ = some (.int .i64 ((rd_T25 x3_1 t190).f1)) ∧ w'.cell? ⟨go13, ((t190).toNat * 3) + 2, none⟩ = some (.int .i64 ((rd_T25 x3_1 t190).f2)) ∧ w'.cell? (ad188.add ((x4_1).toNat * 4)) = some (.int .i64 ((rd_T66 l0 x4_1).f0.f0)) ∧ w'.cell? ⟨(ad188.add ((x4_1).toNat * 4)).block, (ad188.add ((x4_1).toNat * 4)).off + 1, none⟩ = some (.int .i64 ((rd_T66 l0 x4_1).f0.f1)) ∧ w'.cell? ⟨(ad188.add ((x4_1).toNat * 4)).block, (ad188.add ((x4_1).toNat * 4)).off + 2, none⟩ = some (.int .i64 ((rd_T66 l0 x4_1).f1.f0)) ∧ w'.cell? ⟨(ad188.add ((x4_1).toNat * 4)).block, (ad188.add ((x4_1).toNat * 4)).off + 3, none⟩ = some (.int .i64 ((rd_T66 l0 x4_1).f1.f1))) (ds := [16]) #[false, false, false, false, false, false, false, false, false, false, false, false, false, false, false, false, false] (by kernel_rfl) rfl rfl ⟨hx197_0, hx197_1, hx197_2, ((HB.out.cell (World.block_lt_of_cell? w _ hw198_0)).trans hw198_0), ((HB.out.cell (World.block_lt_of_cell? w _ hw198_1)).trans hw198_1), ((HB.out.cell (World.block_lt_of_cell? w _ hw198_2)).trans hw198_2), ((HB.out.cell (World.block_lt_of_cell? w _ hw198_3)).trans hw198_3)⟩ (fun hHeld => ?_); refine with_tabW lighterref08_Count.tab9 lighterref08_Count.bits9 (fun HT_ HW_ => ?_)
                  generalize wr.drew = w16 at HO_3 HB GG13 HQ17 hf13_0 hf13_1 hf13_2 hx13_0 hx13_1 hx13_2 hx197_0 hx197_1 hx197_2 hx198_0 hx198_1 hx198_2 hx198_3 hHeld ⊢
                  refine pure_ (i := 0) (N := some 50) (v := ?_) (a' := ?_) #[true, false, false, false, false, false, false, false, false, false, false, false, false, false, false, false, false] rfl rfl (any_of HT_.out (by kernel_rfl)) (fun _ _ _ h => h) (Or.inl ⟨by rfl, ?_⟩) ?_ ?_
                  rotate_left
                  · intro w'
                    go_simp
                    with_reducible rfl
                  rotate_left
                  · simp only [Act.put, List.setIfInBounds_toArray, List.set_cons_zero, List.set_cons_succ, i64_w, i32_w]
                    rfl
                  refine pure_ (i := 1) (N := some 51) (v := ?_) (a' := ?_) #[true, true, false, false, false, false, false, false, false, false, false, false, false, false, false, false, false] rfl rfl (any_of HT_.out (by kernel_rfl)) (fun _ _ _ h => h) (Or.inl ⟨by rfl, ?_⟩) ?_ ?_
                  rotate_left
                  · intro w'
                    go_simp
                    with_reducible rfl
                  rotate_left
                  · simp only [Act.put, List.setIfInBounds_toArray, List.set_cons_zero, List.set_cons_succ, i64_w, i32_w]
                    rfl
                  refine pure_ (i := 2) (N := some 52) (v := ?_) (a' := ?_) #[true, true, true, false, false, false, false, false, false, false, false, false, false, false, false, false, false] rfl rfl (any_of HT_.out (by kernel_rfl)) (fun _ _ _ h => h) (Or.inl ⟨by rfl, ?_⟩) ?_ ?_
                  rotate_left
                  · intro w'
                    go_simp
                    with_reducible rfl
                  rotate_left
                  · simp only [Act.put, List.setIfInBounds_toArray, List.set_cons_zero, List.set_cons_succ, i64_w, i32_w]
                    rfl
                  refine pure_ (i := 3) (N := some 53) (v := ?_) (a' := ?_) #[true, true, true, true, false, false, false, false, false, false, false, false, false, false, false, false, false] rfl rfl (any_of HT_.out (by kernel_rfl)) (fun _ _ _ h => h) (Or.inl ⟨by rfl, ?_⟩) ?_ ?_
                  rotate_left
                  · intro w'
                    go_simp
                    with_reducible rfl
                  rotate_left
                  · simp only [Act.put, List.setIfInBounds_toArray, List.set_cons_zero, List.set_cons_succ, i64_w, i32_w]
                    rfl
                  refine pure_ (i := 4) (N := some 54) (v := ?_) (a' := ?_) #[true, true, true, true, true, false, false, false, false, false, false, false, false, false, false, false, false] rfl rfl (any_of HT_.out (by kernel_rfl)) (fun _ _ _ h => h) (Or.inl ⟨by rfl, ?_⟩) ?_ ?_
                  rotate_left
                  · intro w'
                    go_simp
                    with_reducible rfl
                  rotate_left
                  · simp only [Act.put, List.setIfInBounds_toArray, List.set_cons_zero, List.set_cons_succ, i64_w, i32_w]
                    rfl
                  refine pure_ (i := 5) (N := some 55) (v := ?_) (a' := ?_) #[true, true, true, true, true, true, false, false, false, false, false, false, false, false, false, false, false] rfl rfl (any_of HT_.out (by kernel_rfl)) (fun _ _ _ h => h) (Or.inl ⟨by rfl, ?_⟩) ?_ ?_
                  rotate_left
                  · intro w'
                    go_simp
                    with_reducible rfl
                  rotate_left
                  · simp only [Act.put, List.setIfInBounds_toArray, List.set_cons_zero, List.set_cons_succ, i64_w, i32_w]
                    rfl
                  refine pure_ (i := 7) (N := some 57) (v := ?_) (a' := ?_) #[true, true, true, true, true, true, false, true, false, false, false, false, false, false, false, false, false] rfl rfl (any_of HT_.out (by kernel_rfl)) (fun _ _ _ h => h) (Or.inl ⟨by rfl, ?_⟩) ?_ ?_
                  rotate_left
                  · intro w'
                    go_simp
                    with_reducible rfl
                  rotate_left
                  · simp only [Act.put, List.setIfInBounds_toArray, List.set_cons_zero, List.set_cons_succ, i64_w, i32_w]
                    rfl
                  refine pure_ (i := 8) (N := some 58) (v := ?_) (a' := ?_) #[true, true, true, true, true, true, false, true, true, false, false, false, false, false, false, false, false] rfl rfl (any_of HT_.out (by kernel_rfl)) (fun _ _ _ h => h) (Or.inl ⟨by rfl, ?_⟩) ?_ ?_
                  rotate_left
                  · intro w'
                    go_simp
                    with_reducible rfl
                  rotate_left
                  · simp only [Act.put, List.setIfInBounds_toArray, List.set_cons_zero, List.set_cons_succ, i64_w, i32_w]
                    rfl
                  refine pure_ (i := 9) (N := some 59) (v := ?_) (a' := ?_) #[true, true, true, true, true, true, false, true, true, true, false, false, false, false, false, false, false] rfl rfl (any_of HT_.out (by kernel_rfl)) (fun _ _ _ h => h) (Or.inl ⟨by rfl, ?_⟩) ?_ ?_
                  rotate_left
                  · intro w'
                    go_simp
                    with_reducible rfl
                  rotate_left
                  · simp only [Act.put, List.setIfInBounds_toArray, List.set_cons_zero, List.set_cons_succ, i64_w, i32_w]
                    rfl
                  refine pure_ (i := 10) (N := some 60) (v := ?_) (a' := ?_) #[true, true, true, true, true, true, false, true, true, true, true, false, false, false, false, false, false] rfl rfl (any_of HT_.out (by kernel_rfl)) (fun _ _ _ h => h) (Or.inl ⟨by rfl, ?_⟩) ?_ ?_
                  rotate_left
                  · intro w'
                    go_simp
                    with_reducible rfl
                  rotate_left
                  · simp only [Act.put, List.setIfInBounds_toArray, List.set_cons_zero, List.set_cons_succ, i64_w, i32_w]
                    rfl
                  refine pure_ (i := 11) (N := some 61) (v := ?_) (a' := ?_) #[true, true, true, true, true, true, false, true, true, true, true, true, false, false, false, false, false] rfl rfl (any_of HT_.out (by kernel_rfl)) (fun _ _ _ h => h) (Or.inl ⟨by rfl, ?_⟩) ?_ ?_
                  rotate_left
                  · intro w'
                    go_simp
                    with_reducible rfl
                  rotate_left
                  · simp only [Act.put, List.setIfInBounds_toArray, List.set_cons_zero, List.set_cons_succ, i64_w, i32_w]
                    rfl
                  refine take_ (i := 6) (N := some 56) (v := ?_) (a' := ?_) #[true, true, true, true, true, true, true, true, true, true, true, true, false, false, false, false, false] rfl rfl (take_ofW HT_.out HW_.out (by kernel_rfl)) (fun _ _ _ h => h) (Or.inl ⟨by rfl, ?_⟩) hHeld ?_ ?_
                  rotate_left
                  · rintro w' ⟨s0, s1, s2, s3, s4, s5, s6⟩
                    go_simp
                    with_reducible rfl
                  rotate_left
                  · simp only [Act.put, List.setIfInBounds_toArray, List.set_cons_zero, List.set_cons_succ, i64_w, i32_w]
                    rfl
                  refine take_ (i := 12) (N := some 62) (v := ?_) (a' := ?_) #[true, true, true, true, true, true, true, true, true, true, true, true, true, false, false, false, false] rfl rfl (take_ofW HT_.out HW_.out (by kernel_rfl)) (fun _ _ _ h => h) (Or.inl ⟨by rfl, ?_⟩) hHeld ?_ ?_
                  rotate_left
                  · rintro w' ⟨s0, s1, s2, s3, s4, s5, s6⟩
                    go_simp
                    with_reducible rfl
                  rotate_left
                  · simp only [Act.put, List.setIfInBounds_toArray, List.set_cons_zero, List.set_cons_succ, i64_w, i32_w]
                    rfl
                  refine pure_ (i := 13) (N := some 63) (v := ?_) (a' := ?_) #[true, true, true, true, true, true, true, true, true, true, true, true, true, true, false, false, false] rfl rfl (any_of HT_.out (by kernel_rfl)) (fun _ _ _ h => h) (Or.inl ⟨by rfl, ?_⟩) ?_ ?_
                  rotate_left
                  · intro w'
                    go_simp
                    with_reducible rfl
                  rotate_left
                  · simp only [Act.put, List.setIfInBounds_toArray, List.set_cons_zero, List.set_cons_succ, i64_w, i32_w]
                    rfl
                  refine pure_ (i := 14) (N := some 64) (v := ?_) (a' := ?_) #[true, true, true, true, true, true, true, true, true, true, true, true, true, true, true, false, false] rfl rfl (any_of HT_.out (by kernel_rfl)) (fun _ _ _ h => h) (Or.inl ⟨by rfl, ?_⟩) ?_ ?_
                  rotate_left
                  · intro w'
                    go_simp
                    with_reducible rfl
                  rotate_left
                  · simp only [Act.put, List.setIfInBounds_toArray, List.set_cons_zero, List.set_cons_succ, i64_w, i32_w]
                    rfl
                  refine pure_ (i := 15) (N := some 65) (v := ?_) (a' := ?_) #[true, true, true, true, true, true, true, true, true, true, true, true, true, true, true, true, false] rfl rfl (any_of HT_.out (by kernel_rfl)) (fun _ _ _ h => h) (Or.inl ⟨by rfl, ?_⟩) ?_ ?_
                  rotate_left
                  · intro w'
                    go_simp
                    with_reducible rfl
                  rotate_left
                  · simp only [Act.put, List.setIfInBounds_toArray, List.set_cons_zero, List.set_cons_succ, i64_w, i32_w]
                    rfl
                  refine last_ (i := 16) (N := none) #[true, true, true, true, true, true, true, true, true, true, true, true, true, true, true, true, true] rfl rfl (one_of HT_.out (by kernel_rfl)) (by decide) (fun K hK => ?_)
                  refine skip_ (w1 := ?_) (by rfl) rfl ?_ ?_
                  rotate_left
                  · go_simp
                    rfl
                  refine hK.out _ _ ?_
                  clear hK K
                  refine done_ (done_of HT_.out (by kernel_rfl)) ?_
                  try go_wp2
                  have n0_ : Aside0 (Kd.R k25 25 (w16.setCell ⟨go13, (t190 : Int).toNat * 3 + 1, none⟩ (.int .i64 (wrap64 (((rd_T25 x3_1 t190).f1) + ((rd_T66 l0 x4_1).f0.f1))))) w.heap.size (fun _ => True) (.slice (some ⟨go13, 0, none⟩) x3_1.length co15) y199) := ⟨by (with_reducible repeat (first | apply Kd.R_alloc | apply Kd.R_drewN | apply Kd.R_drew)); exact HQ17.out⟩
                  have n1_ : Aside0 (Below w.heap.size w (w16.setCell ⟨go13, (t190 : Int).toNat * 3 + 1, none⟩ (.int .i64 (wrap64 (((rd_T25 x3_1 t190).f1) + ((rd_T66 l0 x4_1).f0.f1)))))) := ⟨by repeat (first | (with_reducible first | exact HB.out | apply below_alloc | apply pw_below_drewN | apply below_drew1 | refine below_set ?_ GB13.out) | exact HB.out)⟩
                  (try clear HO_3)
                  (try clear HB)
                  generalize (w16.setCell ⟨go13, (t190 : Int).toNat * 3 + 1, none⟩ (.int .i64 (wrap64 (((rd_T25 x3_1 t190).f1) + ((rd_T66 l0 x4_1).f0.f1))))) = w18 at n0_ n1_ ⊢
                  have HO_3 := n0_
                  have HB := n1_
                  clear n0_ n1_
                  have n0_ := Aside0.mk (Kd.R_drew HO_3.out)
                  have n1_ := Aside0.mk (below_drew1 HB.out)
                  clear HO_3
                  clear HB
                  have HO_3 := n0_
                  have HB := n1_
                  clear n0_ n1_
                  have p200 : 0 ≤ (t190 : Int) := of_decide_eq_true (by first | (with_reducible assumption) | assumption)
                  have q200 : t190 < (y199.length : Int) := (by have h_ : (t190 : Int) < ((x3_1.length : Int) : Int) := of_decide_eq_true (by first | (with_reducible assumption) | assumption); first | (have e_ := (Kd.R_reads' HO_3.out).1; omega) | simpa only [Ny199.out, List.length_set] using h_)
                  have ql200 : ((t190 : Int) < ((x3_1.length : Int) : Int)) = True := eq_true (of_decide_eq_true (by first | (with_reducible assumption) | assumption))
                  obtain ⟨ad200, e200, hx200_0, hx200_1, hx200_2⟩ := at_T25 (Kd.R_reads' HO_3.out).2.2 t190 p200 q200
                  obtain rfl : (⟨go13, 0, none⟩ : Addr) = ad200 := (by injection e200)
                  (first | simp only [add_plain] at hx200_0 | simp only [add_at] at hx200_0 | simp only [Addr.add, Nat.zero_add] at hx200_0 | skip)
                  (first | simp only [add_plain] at hx200_1 | simp only [add_at] at hx200_1 | simp only [Addr.add, Nat.zero_add] at hx200_1 | skip)
                  (first | simp only [add_plain] at hx200_2 | simp only [add_at] at hx200_2 | simp only [Addr.add, Nat.zero_add] at hx200_2 | skip)
                  replace p200 := eq_true p200
                  replace q200 := eq_true q200
                  have p201 : 0 ≤ (x4_1 : Int) := of_decide_eq_true (by first | (with_reducible assumption) | assumption)
                  have q201 : x4_1 < (l0.length : Int) := of_decide_eq_true (by first | (with_reducible assumption) | assumption)
                  obtain ⟨ad201, e201, hx201_0, hx201_1, hx201_2, hx201_3⟩ := at_T66 HR0.out x4_1 p201 q201
                  have hw201_3 := hx201_3
                  have hw201_2 := hx201_2
                  have hw201_1 := hx201_1
                  have hw201_0 := hx201_0
                  obtain rfl : ad188 = ad201 := (by injection e201)
                  replace hx201_0 := (HB.out.cell (World.block_lt_of_cell? w _ hx201_0)).trans hx201_0
                  replace hx201_1 := (HB.out.cell (World.block_lt_of_cell? w _ hx201_1)).trans hx201_1
                  replace hx201_2 := (HB.out.cell (World.block_lt_of_cell? w _ hx201_2)).trans hx201_2
                  replace hx201_3 := (HB.out.cell (World.block_lt_of_cell? w _ hx201_3)).trans hx201_3
                  replace p201 := eq_true p201
                  replace q201 := eq_true q201
                  have p14 : 0 ≤ (t190 : Int) := of_decide_eq_true (by first | (with_reducible assumption) | assumption)
                  have q14 : (t190 : Int) < ((x3_1.length : Int) : Int) := of_decide_eq_true (by first | (with_reducible assumption) | assumption)
                  obtain ⟨ce14, hcl14, hM14, hcc14, hfr14⟩ := Kd.R_elem HO_3.out z25 (t190 : Int) p14 q14
                  obtain rfl := k25_openM hM14
                  have hx14_0 : World.cell? _ ⟨go13, (t190 : Int).toNat * 3, none⟩ = some (.int .i64 ((rd_T25 y199 t190).f0)) := hcc14 0 _ rfl
                  have hx14_1 : World.cell? _ ⟨go13, (t190 : Int).toNat * 3 + 1, none⟩ = some (.int .i64 ((rd_T25 y199 t190).f1)) := hcc14 1 _ rfl
                  have hx14_2 : World.cell? _ ⟨go13, (t190 : Int).toNat * 3 + 2, none⟩ = some (.int .i64 ((rd_T25 y199 t190).f2)) := hcc14 2 _ rfl
                  have hf14_0 : World.frozen? _ ⟨go13, (t190 : Int).toNat * 3, none⟩ = false := hfr14 0
                  have hf14_1 : World.frozen? _ ⟨go13, (t190 : Int).toNat * 3 + 1, none⟩ = false := hfr14 1
                  have hf14_2 : World.frozen? _ ⟨go13, (t190 : Int).toNat * 3 + 2, none⟩ = false := hfr14 2
                  clear hcl14 hcc14 hfr14 hM14
                  replace p14 := eq_true p14
                  replace q14 := eq_true q14
                  obtain ⟨ce20, hcl20, hM20, hcc20, hfr20⟩ := Kd.R_elem HO_3.out z25 (t190 : Int) (of_decide_eq_true (by first | (with_reducible assumption) | assumption)) (by have h_ : (t190 : Int) < ((x3_1.length : Int) : Int) := of_decide_eq_true (by first | (with_reducible assumption) | assumption); first | exact h_ | (have e_ := (Kd.R_reads' HO_3.out).1; omega) | simpa using h_)
                  obtain rfl := k25_openM hM20
                  have HP20 := (Kd.R_seg HO_3.out (t190 : Int) (of_decide_eq_true (by first | (with_reducible assumption) | assumption)) (by have h_ : (t190 : Int) < ((x3_1.length : Int) : Int) := of_decide_eq_true (by first | (with_reducible assumption) | assumption); first | exact h_ | (have e_ := (Kd.R_reads' HO_3.out).1; omega) | simpa using h_) (seg := [.int .i64 (wrap64 (((rd_T25 y199 t190).f2) + ((rd_T66 l0 x4_1).f0.f1)))]) (j := 2) hcl20 hcc20 (show 3 ≤ 3 from by decide) (x' := (⟨(rd_T25 y199 t190).f0, (rd_T25 y199 t190).f1, wrap64 (((rd_T25 y199 t190).f2) + ((rd_T66 l0 x4_1).f0.f1))⟩ : S25)) (k25_mkM _ _ _ (⟨(rd_T25 y199 t190).f0, (rd_T25 y199 t190).f1, wrap64 (((rd_T25 y199 t190).f2) + ((rd_T66 l0 x4_1).f0.f1))⟩ : S25) ) (fun _ hk => hk)).1
                  rw [← Ny202.out] at HP20
                  have HQ20 := Aside0.mk HP20
                  clear hcl20 hcc20 hfr20 hM20 HP20
                  refine start_ (n := 17) (S := fun w' => w'.cell? ⟨go13, (t190).toNat * 3, none⟩ = some (.int .i64 ((rd_T25 y199 t190).f0)) ∧ w'.cell? ⟨go13, (t190).toNat * 3 + 1, none⟩ = some (.int .i64 ((rd_T25 y199 t190).f1)) ∧ w'.cell? ⟨go13, (t190).toNat * 3 + 2, none⟩ = some (.int .i64 ((rd_T25 y199 t190).f2)) ∧ w'.cell? (ad188.add ((x4_1).toNat * 4)) = some (.int .i64 ((rd_T66 l0 x4_1).f0.f0)) ∧ w'.cell? ⟨(ad188.add ((x4_1).toNat * 4)).block, (ad188.add ((x4_1).toNat * 4)).off + 1, none⟩ = some (.int .i64 ((rd_T66 l0 x4_1).f0.f1)) ∧ w'.cell? ⟨(ad188.add ((x4_1).toNat * 4)).block, (ad188.add ((x4_1).toNat * 4)).off + 2, none⟩ = some (.int .i64 ((rd_T66 l0 x4_1).f1.f0)) ∧ w'.cell? ⟨(ad188.add ((x4_1).toNat * 4)).block, (ad188.add ((x4_1).toNat * 4)).off + 3, none⟩ = some (.int .i64 ((rd_T66 l0 x4_1).f1.f1))) (ds := [16]) #[false, false, false, false, false, false, false, false, false, false, false, false, false, false, false, false, false] (by kernel_rfl) rfl rfl ⟨hx200_0, hx200_1, hx200_2, ((HB.out.cell (World.block_lt_of_cell? w _ hw201_0)).trans hw201_0), ((HB.out.cell (World.block_lt_of_cell? w _ hw201_1)).trans hw201_1), ((HB.out.cell (World.block_lt_of_cell? w _ hw201_2)).trans hw201_2), ((HB.out.cell (World.block_lt_of_cell? w _ hw201_3)).trans hw201_3)⟩ (fun hHeld => ?_); refine with_tabW lighterref08_Count.tab10 lighterref08_Count.bits10 (fun HT_ HW_ => ?_)
                  generalize w18.drew = w19 at HO_3 HB HQ17 HQ20 hf14_0 hf14_1 hf14_2 hx14_0 hx14_1 hx14_2 hx200_0 hx200_1 hx200_2 hx201_0 hx201_1 hx201_2 hx201_3 hHeld ⊢
                  refine pure_ (i := 0) (N := some 66) (v := ?_) (a' := ?_) #[true, false, false, false, false, false, false, false, false, false, false, false, false, false, false, false, false] rfl rfl (any_of HT_.out (by kernel_rfl)) (fun _ _ _ h => h) (Or.inl ⟨by rfl, ?_⟩) ?_ ?_
                  rotate_left
                  · intro w'
                    go_simp
                    with_reducible rfl
                  rotate_left
                  · simp only [Act.put, List.setIfInBounds_toArray, List.set_cons_zero, List.set_cons_succ, i64_w, i32_w]
                    rfl
                  refine pure_ (i := 1) (N := some 67) (v := ?_) (a' := ?_) #[true, true, false, false, false, false, false, false, false, false, false, false, false, false, false, false, false] rfl rfl (any_of HT_.out (by kernel_rfl)) (fun _ _ _ h => h) (Or.inl ⟨by rfl, ?_⟩) ?_ ?_
                  rotate_left
                  · intro w'
                    go_simp
                    with_reducible rfl
                  rotate_left
                  · simp only [Act.put, List.setIfInBounds_toArray, List.set_cons_zero, List.set_cons_succ, i64_w, i32_w]
                    rfl
                  refine pure_ (i := 2) (N := some 68) (v := ?_) (a' := ?_) #[true, true, true, false, false, false, false, false, false, false, false, false, false, false, false, false, false] rfl rfl (any_of HT_.out (by kernel_rfl)) (fun _ _ _ h => h) (Or.inl ⟨by rfl, ?_⟩) ?_ ?_
                  rotate_left
                  · intro w'
                    go_simp
                    with_reducible rfl
                  rotate_left
                  · simp only [Act.put, List.setIfInBounds_toArray, List.set_cons_zero, List.set_cons_succ, i64_w, i32_w]
                    rfl
                  refine pure_ (i := 3) (N := some 69) (v := ?_) (a' := ?_) #[true, true, true, true, false, false, false, false, false, false, false, false, false, false, false, false, false] rfl rfl (any_of HT_.out (by kernel_rfl)) (fun _ _ _ h => h) (Or.inl ⟨by rfl, ?_⟩) ?_ ?_
                  rotate_left
                  · intro w'
                    go_simp
                    with_reducible rfl
                  rotate_left
                  · simp only [Act.put, List.setIfInBounds_toArray, List.set_cons_zero, List.set_cons_succ, i64_w, i32_w]
                    rfl
                  refine pure_ (i := 4) (N := some 70) (v := ?_) (a' := ?_) #[true, true, true, true, true, false, false, false, false, false, false, false, false, false, false, false, false] rfl rfl (any_of HT_.out (by kernel_rfl)) (fun _ _ _ h => h) (Or.inl ⟨by rfl, ?_⟩) ?_ ?_
                  rotate_left
                  · intro w'
                    go_simp
                    with_reducible rfl
                  rotate_left
                  · simp only [Act.put, List.setIfInBounds_toArray, List.set_cons_zero, List.set_cons_succ, i64_w, i32_w]
                    rfl
                  refine pure_ (i := 5) (N := some 71) (v := ?_) (a' := ?_) #[true, true, true, true, true, true, false, false, false, false, false, false, false, false, false, false, false] rfl rfl (any_of HT_.out (by kernel_rfl)) (fun _ _ _ h => h) (Or.inl ⟨by rfl, ?_⟩) ?_ ?_
                  rotate_left
                  · intro w'
                    go_simp
                    with_reducible rfl
                  rotate_left
                  · simp only [Act.put, List.setIfInBounds_toArray, List.set_cons_zero, List.set_cons_succ, i64_w, i32_w]
                    rfl
                  refine pure_ (i := 7) (N := some 73) (v := ?_) (a' := ?_) #[true, true, true, true, true, true, false, true, false, false, false, false, false, false, false, false, false] rfl rfl (any_of HT_.out (by kernel_rfl)) (fun _ _ _ h => h) (Or.inl ⟨by rfl, ?_⟩) ?_ ?_
                  rotate_left
                  · intro w'
                    go_simp
                    with_reducible rfl
                  rotate_left
                  · simp only [Act.put, List.setIfInBounds_toArray, List.set_cons_zero, List.set_cons_succ, i64_w, i32_w]
                    rfl
                  refine pure_ (i := 8) (N := some 74) (v := ?_) (a' := ?_) #[true, true, true, true, true, true, false, true, true, false, false, false, false, false, false, false, false] rfl rfl (any_of HT_.out (by kernel_rfl)) (fun _ _ _ h => h) (Or.inl ⟨by rfl, ?_⟩) ?_ ?_
                  rotate_left
                  · intro w'
                    go_simp
                    with_reducible rfl
                  rotate_left
                  · simp only [Act.put, List.setIfInBounds_toArray, List.set_cons_zero, List.set_cons_succ, i64_w, i32_w]
                    rfl
                  refine pure_ (i := 9) (N := some 75) (v := ?_) (a' := ?_) #[true, true, true, true, true, true, false, true, true, true, false, false, false, false, false, false, false] rfl rfl (any_of HT_.out (by kernel_rfl)) (fun _ _ _ h => h) (Or.inl ⟨by rfl, ?_⟩) ?_ ?_
                  rotate_left
                  · intro w'
                    go_simp
                    with_reducible rfl
                  rotate_left
                  · simp only [Act.put, List.setIfInBounds_toArray, List.set_cons_zero, List.set_cons_succ, i64_w, i32_w]
                    rfl
                  refine pure_ (i := 10) (N := some 76) (v := ?_) (a' := ?_) #[true, true, true, true, true, true, false, true, true, true, true, false, false, false, false, false, false] rfl rfl (any_of HT_.out (by kernel_rfl)) (fun _ _ _ h => h) (Or.inl ⟨by rfl, ?_⟩) ?_ ?_
                  rotate_left
                  · intro w'
                    go_simp
                    with_reducible rfl
                  rotate_left
                  · simp only [Act.put, List.setIfInBounds_toArray, List.set_cons_zero, List.set_cons_succ, i64_w, i32_w]
                    rfl
                  refine pure_ (i := 11) (N := some 77) (v := ?_) (a' := ?_) #[true, true, true, true, true, true, false, true, true, true, true, true, false, false, false, false, false] rfl rfl (any_of HT_.out (by kernel_rfl)) (fun _ _ _ h => h) (Or.inl ⟨by rfl, ?_⟩) ?_ ?_
                  rotate_left
                  · intro w'
                    go_simp
                    with_reducible rfl
                  rotate_left
                  · simp only [Act.put, List.setIfInBounds_toArray, List.set_cons_zero, List.set_cons_succ, i64_w, i32_w]
                    rfl
                  refine take_ (i := 6) (N := some 72) (v := ?_) (a' := ?_) #[true, true, true, true, true, true, true, true, true, true, true, true, false, false, false, false, false] rfl rfl (take_ofW HT_.out HW_.out (by kernel_rfl)) (fun _ _ _ h => h) (Or.inl ⟨by rfl, ?_⟩) hHeld ?_ ?_
                  rotate_left
                  · rintro w' ⟨s0, s1, s2, s3, s4, s5, s6⟩
                    go_simp
                    with_reducible rfl
                  rotate_left
                  · simp only [Act.put, List.setIfInBounds_toArray, List.set_cons_zero, List.set_cons_succ, i64_w, i32_w]
                    rfl
                  refine take_ (i := 12) (N := some 78) (v := ?_) (a' := ?_) #[true, true, true, true, true, true, true, true, true, true, true, true, true, false, false, false, false] rfl rfl (take_ofW HT_.out HW_.out (by kernel_rfl)) (fun _ _ _ h => h) (Or.inl ⟨by rfl, ?_⟩) hHeld ?_ ?_
                  rotate_left
                  · rintro w' ⟨s0, s1, s2, s3, s4, s5, s6⟩
                    go_simp
                    with_reducible rfl
                  rotate_left
                  · simp only [Act.put, List.setIfInBounds_toArray, List.set_cons_zero, List.set_cons_succ, i64_w, i32_w]
                    rfl
                  refine pure_ (i := 13) (N := some 79) (v := ?_) (a' := ?_) #[true, true, true, true, true, true, true, true, true, true, true, true, true, true, false, false, false] rfl rfl (any_of HT_.out (by kernel_rfl)) (fun _ _ _ h => h) (Or.inl ⟨by rfl, ?_⟩) ?_ ?_
                  rotate_left
                  · intro w'
                    go_simp
                    with_reducible rfl
                  rotate_left
                  · simp only [Act.put, List.setIfInBounds_toArray, List.set_cons_zero, List.set_cons_succ, i64_w, i32_w]
                    rfl
                  refine pure_ (i := 14) (N := some 80) (v := ?_) (a' := ?_) #[true, true, true, true, true, true, true, true, true, true, true, true, true, true, true, false, false] rfl rfl (any_of HT_.out (by kernel_rfl)) (fun _ _ _ h => h) (Or.inl ⟨by rfl, ?_⟩) ?_ ?_
                  rotate_left
                  · intro w'
                    go_simp
                    with_reducible rfl
                  rotate_left
                  · simp only [Act.put, List.setIfInBounds_toArray, List.set_cons_zero, List.set_cons_succ, i64_w, i32_w]
                    rfl
                  refine pure_ (i := 15) (N := some 81) (v := ?_) (a' := ?_) #[true, true, true, true, true, true, true, true, true, true, true, true, true, true, true, true, false] rfl rfl (any_of HT_.out (by kernel_rfl)) (fun _ _ _ h => h) (Or.inl ⟨by rfl, ?_⟩) ?_ ?_
                  rotate_left
                  · intro w'
                    go_simp
                    with_reducible rfl
                  rotate_left
                  · simp only [Act.put, List.setIfInBounds_toArray, List.set_cons_zero, List.set_cons_succ, i64_w, i32_w]
                    rfl
                  refine last_ (i := 16) (N := none) #[true, true, true, true, true, true, true, true, true, true, true, true, true, true, true, true, true] rfl rfl (one_of HT_.out (by kernel_rfl)) (by decide) (fun K hK => ?_)
                  refine skip_ (w1 := ?_) (by rfl) rfl ?_ ?_
                  rotate_left
                  · go_simp
                    rfl
                  refine hK.out _ _ ?_
                  clear hK K
                  refine done_ (done_of HT_.out (by kernel_rfl)) ?_
                  try go_wp2
                  go_roundg k1
                  case measure => have := HK1.out; omega
                  case rel => exact ⟨(y202), (wrap64 (x4_1 + 1)), (by first | rfl | (simp; done) | (simp [*]; done)), H', ⟨by have := HK1.out; omega⟩, ⟨by (with_reducible repeat (first | apply Kd.R_alloc | apply Kd.R_drewN | apply Kd.R_drew)); exact HQ20.out⟩, ⟨by repeat (first | (with_reducible first | exact HB.out | apply below_alloc | apply pw_below_drewN | apply below_drew1 | refine below_set ?_ GB13.out) | exact HB.out)⟩⟩
                · rw [if_neg c12] at H
                  exact absurd H (by simp)
              · rw [if_neg c11] at H
                exact absurd H (by simp)
        · rw [if_neg c3] at H
          exact absurd H (by simp)
      · rw [if_neg c2] at H
        have c2b0 : decide (x4_1 < (l0.length : Int)) = false := decide_eq_false c2
        clear c2
        obtain rfl := Option.some.inj H
        go_wp2
        go_ret
        exact ⟨_, by first | rfl | (simp [errW_none, errW_some] <;> rfl) | (simp [*, errW_none, errW_some] <;> rfl), by (with_reducible repeat (first | apply Kd.R_alloc | apply Kd.R_drewN | apply Kd.R_drew)); exact HO_3.out, by repeat (first | (with_reducible first | exact HB.out | apply below_alloc | apply pw_below_drewN | apply below_drew1) | exact HB.out)⟩
end Go.Proofs.Ytcjeegomonegpaa.PLivePlays
namespace Go.Proofs.Ytcjeegomonegpaa.PLivePlays
open Go.RowKit Go.Maps Go.Sort Go.Proofs.YtcjeegomonegpaaW.PrintWords Go.Proofs.YtcjeegomonegpaaW.PrintLast Go.Proofs.YtcjeegomonegpaaW.PrintMore
set_option linter.unusedVariables false
set_option linter.unusedSimpArgs false
def toP (x : S23) : S25 := ⟨x.f0, x.f1, x.f2⟩
theorem wrap64_in (a : Int) (h : -9223372036854775808 ≤ a ∧ a ≤ 9223372036854775807) : wrap64 a = a := by unfold wrap64; omega
theorem rd25_get {T : List S23} {i : Nat} (h : i < T.length) : rd_T25 (T.map toP) (i : Int) = toP T[i] := by
  unfold rd_T25
  rw [List.getD_eq_getElem?_getD, Int.toNat_natCast, List.getElem?_eq_getElem (by simpa using h)]
  simp
theorem rd23_get {T : List S23} {i : Nat} (h : i < T.length) : rd_T23 T (i : Int) = T[i] := by
  unfold rd_T23
  rw [List.getD_eq_getElem?_getD, Int.toNat_natCast, List.getElem?_eq_getElem h]
  rfl
theorem succ_wrap {i n : Nat} (hi : i < n) (hn : n ≤ 1000000) : wrap64 ((i : Int) + 1) = ((i + 1 : Nat) : Int) := by
  rw [wrap64_in _ (by omega)]
  omega
theorem plain_l0 (T : List S23) (hn : T.length ≤ 1000000) : ∀ m i, i ≤ T.length → T.length - i ≤ m → lighterlaw08_Plain.l0 (m + 1) T ((T.take i).map toP) (i : Int) = some (T.map toP)
  | 0, i, hi, hm => by
    have e : i = T.length := by omega
    subst e
    unfold lighterlaw08_Plain.l0
    rw [if_neg (by omega), List.take_length]
  | m + 1, i, hi, hm => by
    unfold lighterlaw08_Plain.l0
    by_cases h : i < T.length
    · rw [if_pos (by omega), if_pos (by omega), if_pos (by simp; omega), rd23_get h, succ_wrap h hn]
      have e : (T.take i).map toP ++ [(⟨T[i].f0, T[i].f1, T[i].f2⟩ : S25)] = (T.take (i + 1)).map toP := by
        rw [List.take_add_one, List.getElem?_eq_getElem h, List.map_append]
        rfl
      rw [e]
      exact plain_l0 T hn m (i + 1) h (by omega)
    · have e : i = T.length := by omega
      subst e
      rw [if_neg (by omega), List.take_length]
theorem plain_f (T : List S23) (hn : T.length ≤ 1000000) (k : Nat) (hk : T.length < k) : lighterlaw08_Plain.f k T = some (T.map toP) := by
  obtain ⟨m, rfl⟩ : ∃ m, k = m + 1 := ⟨k - 1, by omega⟩
  exact plain_l0 T hn m 0 (by omega) (by omega)
theorem same_l0 (T : List S23) (hn : T.length ≤ 1000000) : ∀ m i, i ≤ T.length → T.length - i ≤ m → lighterlaw08_Same.l0 (m + 1) (T.map toP) (T.map toP) (i : Int) = some true
  | 0, i, hi, hm => by
    have e : i = T.length := by omega
    subst e
    unfold lighterlaw08_Same.l0
    rw [if_neg (by simp)]
  | m + 1, i, hi, hm => by
    unfold lighterlaw08_Same.l0
    by_cases h : i < T.length
    · rw [if_pos (by simp; omega), if_pos (by omega), if_pos (by simp; omega), if_neg (by simp), succ_wrap h hn]
      exact same_l0 T hn m (i + 1) h (by omega)
    · rw [if_neg (by simp; omega)]
theorem same_f (T : List S23) (hn : T.length ≤ 1000000) (k : Nat) (hk : T.length < k) : lighterlaw08_Same.f k T (T.map toP) = some true := by
  unfold lighterlaw08_Same.f
  rw [plain_f T hn k hk]
  obtain ⟨m, rfl⟩ : ∃ m, k = m + 1 := ⟨k - 1, by omega⟩
  simp only [Option.bind_some]
  rw [if_pos trivial]
  exact same_l0 T hn m 0 (by omega) (by omega)
theorem find_l0 (T : List S23) (q : Int) (hn : T.length ≤ 1000000) : ∀ m i, i ≤ T.length → T.length - i ≤ m → (∀ j (h : j < T.length), j < i → T[j].f0 ≠ q) →
    (lighterref08_Find.l0 (m + 1) (T.map toP) q (i : Int) = some (-1) ∧ ∀ x ∈ T, x.f0 ≠ q) ∨ ∃ (j : Nat) (h : j < T.length), lighterref08_Find.l0 (m + 1) (T.map toP) q (i : Int) = some (j : Int) ∧ T[j].f0 = q
  | m, i, hi, hm, hb => by
    unfold lighterref08_Find.l0
    by_cases h : i < T.length
    · rw [if_pos (by simp; omega), if_pos (by omega), rd25_get h]
      by_cases e : T[i].f0 = q
      · rw [if_pos (show (toP T[i]).f0 = q from e)]
        exact .inr ⟨i, h, rfl, e⟩
      · rw [if_neg (show ¬ (toP T[i]).f0 = q from e), succ_wrap h hn]
        match m with
        | 0 => omega
        | m + 1 =>
          refine find_l0 T q hn m (i + 1) h (by omega) fun j hj hji => ?_
          by_cases e2 : j = i
          · subst e2
            exact e
          · exact hb j hj (by omega)
    · rw [if_neg (by simp; omega)]
      refine .inl ⟨rfl, fun x hx => ?_⟩
      obtain ⟨j, hj, rfl⟩ := List.mem_iff_getElem.1 hx
      exact hb j hj (by omega)
theorem find_f (T : List S23) (q : Int) (hn : T.length ≤ 1000000) (k : Nat) (hk : T.length < k) :
    (lighterref08_Find.f k (T.map toP) q = some (-1) ∧ ∀ x ∈ T, x.f0 ≠ q) ∨ ∃ (j : Nat) (h : j < T.length), lighterref08_Find.f k (T.map toP) q = some (j : Int) ∧ T[j].f0 = q := by
  obtain ⟨m, rfl⟩ : ∃ m, k = m + 1 := ⟨k - 1, by omega⟩
  exact find_l0 T q hn m 0 (by omega) (by omega) (fun j _ h => absurd h (Nat.not_lt_zero _))
theorem putT_split (x : S23) : ∀ (T : List S23) (i : Nat), i ≤ T.length → (∀ j (h : j < T.length), j < i → T[j].f0 < x.f0) → (∀ h : i < T.length, x.f0 < T[i].f0) → putT x T = T.take i ++ x :: T.drop i
  | [], i, hi, _, _ => by
    have : i = 0 := by simpa using hi
    subst this
    rfl
  | y :: T, 0, _, _, h2 => by
    have := h2 (by simp)
    simp at this
    simp [putT, this]
  | y :: T, i + 1, hi, h1, h2 => by
    have hy := h1 0 (by simp) (by omega)
    simp at hy
    have e : putT x (y :: T) = y :: putT x T := by
      show (if x.f0 < y.f0 then x :: y :: T else if x.f0 = y.f0 then x :: T else y :: putT x T) = _
      rw [if_neg (by omega), if_neg (by omega)]
    rw [e, putT_split x T i (by simpa using hi) (fun j h hj => by have := h1 (j + 1) (by simpa using h) (by omega); simpa using this) (fun h => by have := h2 (by simpa using h); simpa using this)]
    rfl
theorem putT_set (x : S23) : ∀ (T : List S23) (i : Nat) (hi : i < T.length), T.Pairwise (fun x y => x.f0 < y.f0) → T[i].f0 = x.f0 → putT x T = T.set i x
  | [], i, hi, _, _ => absurd hi (Nat.not_lt_zero _)
  | y :: T, 0, _, _, h2 => by
    simp at h2
    simp [putT, h2]
  | y :: T, i + 1, hi, hs, h2 => by
    obtain ⟨h3, h4⟩ := List.pairwise_cons.1 hs
    simp at h2
    have := h3 (T[i]'(by simpa using hi)) (List.getElem_mem _)
    show (if x.f0 < y.f0 then x :: y :: T else if x.f0 = y.f0 then x :: T else y :: putT x T) = _
    rw [if_neg (by omega), if_neg (by omega), putT_set x T i (by simpa using hi) h4 h2]
    rfl
theorem with_l0 (x : S23) (T : List S23) (hn : T.length ≤ 1000000) (hx : ∀ y ∈ T, y.f0 ≠ x.f0) (hs : T.Pairwise (fun x y => x.f0 < y.f0)) : ∀ m i, i ≤ T.length → T.length - i ≤ m → (∀ j (h : j < T.length), j < i → T[j].f0 < x.f0) →
    lighterref08_with.l0 (m + 1) (T.map toP) ((T.take i).map toP) (i : Int) x.f0 x.f1 x.f2 = some ((putT x T).map toP)
  | m, i, hi, hm, hb => by
    unfold lighterref08_with.l0
    have hl : ((T.take i).map toP).length = i := by simp; omega
    have hd : (((T.map toP).drop i).length) = T.length - i := by simp
    by_cases h : i < T.length
    · rw [if_pos (by simp; omega), if_pos (by omega), rd25_get h]
      by_cases e : T[i].f0 < x.f0
      · rw [if_pos (show (toP T[i]).f0 < x.f0 from e), if_pos (by omega), succ_wrap h hn]
        match m with
        | 0 => omega
        | m + 1 =>
          have e2 : (T.take i).map toP ++ [(⟨(toP T[i]).f0, (toP T[i]).f1, (toP T[i]).f2⟩ : S25)] = (T.take (i + 1)).map toP := by
            rw [List.take_add_one, List.getElem?_eq_getElem h, List.map_append]
            rfl
          rw [e2]
          refine with_l0 x T hn hx hs m (i + 1) h (by omega) fun j hj hji => ?_
          by_cases e3 : j = i
          · subst e3
            exact e
          · exact hb j hj (by omega)
      · rw [if_neg (show ¬ (toP T[i]).f0 < x.f0 from e), if_pos (by omega)]
        simp only [Option.bind_some, Int.toNat_natCast]
        rw [if_pos (by simp; omega), if_pos (by rw [List.length_append, hl, hd]; simp; omega)]
        have hne := hx T[i] (List.getElem_mem _)
        rw [putT_split x T i hi hb (fun _ => by omega)]
        simp [toP]
    · have hil : i = T.length := by omega
      rw [if_neg (by simp; omega), if_pos (by omega)]
      simp only [Option.bind_some, Int.toNat_natCast]
      rw [if_pos (by omega), if_pos (by simp; omega), if_pos (by rw [List.length_append, hl, hd]; simp; omega)]
      rw [putT_split x T i hi hb (fun hh => absurd hh h)]
      simp [toP]
theorem with_f (x : S23) (T : List S23) (hn : T.length ≤ 1000000) (hx : ∀ y ∈ T, y.f0 ≠ x.f0) (hs : T.Pairwise (fun x y => x.f0 < y.f0)) (k : Nat) (hk : T.length < k) :
    lighterref08_with.f k (T.map toP) x.f0 x.f1 x.f2 = some ((putT x T).map toP) := by
  obtain ⟨m, rfl⟩ : ∃ m, k = m + 1 := ⟨k - 1, by omega⟩
  exact with_l0 x T hn hx hs m 0 (by omega) (by omega) (fun j _ h => absurd h (Nat.not_lt_zero _))
theorem findT_get {T : List S23} (hs : T.Pairwise (fun x y => x.f0 < y.f0)) {j : Nat} (hj : j < T.length) : findT T T[j].f0 = some T[j] := by
  cases hf : findT T T[j].f0 with
  | none => exact absurd rfl (findT_none hf T[j] (List.getElem_mem _))
  | some y =>
    obtain ⟨h1, h2⟩ := findT_some hf
    rw [sorted_inj hs h1 (List.getElem_mem _) h2]
theorem findT_not {T : List S23} {q : Int} (h : ∀ x ∈ T, x.f0 ≠ q) : findT T q = none := by
  cases hf : findT T q with
  | none => rfl
  | some y =>
    obtain ⟨h1, h2⟩ := findT_some hf
    exact absurd h2 (h y h1)
theorem addE_len (T : List S23) (x : S66) : (addE T x).length ≤ T.length + 1 := by
  unfold addE
  split
  · omega
  · exact putT_len _ _
theorem addE_sorted {T : List S23} (hs : T.Pairwise (fun x y => x.f0 < y.f0)) (x : S66) : (addE T x).Pairwise (fun x y => x.f0 < y.f0) := by
  unfold addE
  split
  · exact hs
  · exact putT_sorted hs
theorem addE_cnt {T : List S23} (hs : T.Pairwise (fun x y => x.f0 < y.f0)) {x : S66} (hm : MayE x) {B : Int} (hB : 0 ≤ B) (hT : ∀ y ∈ T, 0 ≤ y.f1 ∧ y.f1 ≤ B ∧ y.f2 = y.f1) : ∀ y ∈ addE T x, 0 ≤ y.f1 ∧ y.f1 ≤ B + 65536 ∧ y.f2 = y.f1 := by
  obtain ⟨m1, m2, m3, m4, m5, m6, m7⟩ := hm
  obtain ⟨v1, v2⟩ := valT_bound (T := T) (B := B) (fun y hy => ⟨(hT y hy).1, (hT y hy).2.1⟩) hB x.f1.f0
  unfold addE
  split
  · intro y hy
    have := hT y hy
    exact ⟨this.1, by omega, this.2.2⟩
  · intro y hy
    rcases (mem_putT hs).1 hy with rfl | ⟨hy, _⟩
    · exact ⟨by simp only; omega, by simp only; omega, rfl⟩
    · have := hT y hy
      exact ⟨this.1, by omega, this.2.2⟩
theorem count_l0 (l : List S66) (hl : l.length ≤ 1000) (hm : ∀ x ∈ l, MayE x) : ∀ m i (T : List S23), i ≤ l.length → l.length - i ≤ m → l.length + 1 < m + 1 - (l.length - i) → T.length ≤ i → T.Pairwise (fun x y => x.f0 < y.f0) → (∀ y ∈ T, 0 ≤ y.f1 ∧ y.f1 ≤ 65536 * (i : Int) ∧ y.f2 = y.f1) →
    lighterref08_Count.l0 (m + 1) l (T.map toP) (i : Int) = some ((cntE T (l.drop i)).map toP)
  | m, i, T, hi, hk, hk2, hT, hs, hv => by
    unfold lighterref08_Count.l0
    by_cases h : i < l.length
    · have hmx := hm l[i] (List.getElem_mem _)
      have hstep := addE_cnt hs hmx (B := 65536 * (i : Int)) (by omega) hv
      have hlen := addE_len T l[i]
      have hsor := addE_sorted hs l[i]
      have hrec : lighterref08_Count.l0 m l ((addE T l[i]).map toP) ((i + 1 : Nat) : Int) = some ((cntE T (l.drop i)).map toP) := by
        match m with
        | 0 => omega
        | m + 1 =>
          rw [count_l0 l hl hm m (i + 1) (addE T l[i]) h (by omega) (by omega) (by omega) hsor (fun y hy => by have := hstep y hy; exact ⟨this.1, by omega, this.2.2⟩)]
          rw [drop_cons66 h]
          rfl
      rw [if_pos (by omega), if_pos (by omega), rd_T66_get h, succ_wrap h (by omega)]
      by_cases hz : l[i].f1.f0 = 0
      · rw [if_pos hz]
        have e : addE T l[i] = T := by unfold addE; rw [if_pos hz]
        rw [e] at hrec
        exact hrec
      · rw [if_neg hz]
        have e : addE T l[i] = putT ⟨l[i].f1.f0, valT T l[i].f1.f0 + l[i].f0.f1, valT T l[i].f1.f0 + l[i].f0.f1⟩ T := by unfold addE; rw [if_neg hz]
        rw [e] at hrec
        rcases find_f T l[i].f1.f0 (by omega) m (by omega) with ⟨h1, h2⟩ | ⟨j, hj, h1, h2⟩
        · rw [h1]
          have hv0 : valT T l[i].f1.f0 = 0 := by unfold valT; rw [findT_not h2]; rfl
          rw [hv0] at hrec
          simp only [Option.bind_some]
          have hw := with_f ⟨l[i].f1.f0, l[i].f0.f1, l[i].f0.f1⟩ T (by omega) h2 hs m (by omega)
          simp only at hw
          rw [if_pos (by omega), hw]
          simp only [Option.bind_some]
          simp only [Int.zero_add] at hrec
          exact hrec
        · rw [h1]
          simp only [Option.bind_some]
          rw [if_neg (by omega), if_pos (by omega), if_pos (by simp; omega), rd25_get hj]
          have hjm : j < (T.map toP).length := by simpa using hj
          have hrd : ∀ z : S25, rd_T25 ((T.map toP).set j z) (j : Int) = z := fun z => by
            unfold rd_T25
            rw [List.getD_eq_getElem?_getD, Int.toNat_natCast, List.getElem?_set_self hjm]
            rfl
          simp only [Int.toNat_natCast, hrd]
          obtain ⟨b1, b2, b3⟩ := hv T[j] (List.getElem_mem _)
          obtain ⟨m1, m2, m3, m4, m5, m6, m7⟩ := hmx
          have hv0 : valT T l[i].f1.f0 = T[j].f1 := by
            unfold valT
            rw [← h2, findT_get hs hj]
            rfl
          rw [hv0] at hrec
          rw [putT_set _ T j hj hs (by simpa using h2)] at hrec
          rw [List.set_set]
          have e1 : wrap64 ((toP T[j]).f1 + l[i].f0.f1) = T[j].f1 + l[i].f0.f1 := wrap64_in _ (by show -9223372036854775808 ≤ T[j].f1 + l[i].f0.f1 ∧ T[j].f1 + l[i].f0.f1 ≤ 9223372036854775807; omega)
          have e2 : wrap64 ((toP T[j]).f2 + l[i].f0.f1) = T[j].f1 + l[i].f0.f1 := by rw [← b3]; exact wrap64_in _ (by show -9223372036854775808 ≤ T[j].f2 + l[i].f0.f1 ∧ T[j].f2 + l[i].f0.f1 ≤ 9223372036854775807; omega)
          rw [e1, e2]
          have e3 : (T.set j ⟨l[i].f1.f0, T[j].f1 + l[i].f0.f1, T[j].f1 + l[i].f0.f1⟩).map toP = (T.map toP).set j ⟨(toP T[j]).f0, T[j].f1 + l[i].f0.f1, T[j].f1 + l[i].f0.f1⟩ := by
            rw [List.map_set]
            simp only [toP]
            rw [h2]
          rw [← e3]
          exact hrec
    · have hil : i = l.length := by omega
      rw [if_neg (by omega)]
      subst hil
      rw [List.drop_length]
      rfl
theorem refCount_f (l : List S66) (hl : l.length ≤ 1000) (hm : ∀ x ∈ l, MayE x) : lighterref08_Count.f 5000 l = some ((cntE [] l).map toP) := by
  have := count_l0 l hl hm 4999 0 [] (by omega) (by omega) (by omega) (by simp) List.Pairwise.nil (by simp)
  rw [List.drop_zero] at this
  exact this
theorem refMay_f (x : S66) : lighterref07_May.f x.f0.f0 x.f0.f1 x.f1.f0 x.f1.f1 = some (decide (MayE x)) := by
  unfold lighterref07_May.f lighterref01_May.f lighterref07_Place.f
  by_cases h1 : x.f0.f0 ≥ 0
  · by_cases h2 : x.f0.f0 ≤ 65536
    · by_cases h3 : x.f0.f1 ≥ 1
      · by_cases h4 : x.f0.f1 ≤ 65536
        · have hw : wrap64 (x.f0.f0 + x.f0.f1) = x.f0.f0 + x.f0.f1 := wrap64_in _ (by omega)
          by_cases h5 : x.f0.f0 + x.f0.f1 ≤ 65536
          · by_cases h6 : x.f1.f0 ≥ 0
            · by_cases h7 : x.f1.f0 < 1099511627776
              · by_cases h8 : x.f1.f1 ≥ 0
                · simp [h1, h2, h3, h4, hw, h5, h6, h7, h8]
                  unfold MayE
                  omega
                · simp [h1, h2, h3, h4, hw, h5, h6, h7, h8]
                  unfold MayE
                  omega
              · simp [h1, h2, h3, h4, hw, h5, h6, h7]
                unfold MayE
                omega
            · simp [h1, h2, h3, h4, hw, h5, h6]
              unfold MayE
              omega
          · simp [h1, h2, h3, h4, hw, h5]
            unfold MayE
            omega
        · simp [h1, h2, h3, h4]
          unfold MayE
          omega
      · simp [h1, h2, h3]
        unfold MayE
        omega
    · simp [h1, h2]
      unfold MayE
      omega
  · simp [h1]
    unfold MayE
    omega
theorem all_l0 (l : List S66) (hl : l.length ≤ 1000000) : ∀ m i, i ≤ l.length → l.length - i ≤ m → lighterref08_All.l0 (m + 1) l (i : Int) = some (decide (∀ x ∈ l.drop i, MayE x))
  | m, i, hi, hk => by
    unfold lighterref08_All.l0
    by_cases h : i < l.length
    · rw [if_pos (by omega), if_pos (by omega), rd_T66_get h, refMay_f, succ_wrap h (by omega)]
      simp only [Option.bind_some]
      have e : (∀ x ∈ l.drop i, MayE x) ↔ MayE l[i] ∧ ∀ x ∈ l.drop (i + 1), MayE x := by
        rw [drop_cons66 h]
        exact List.forall_mem_cons
      by_cases hx : MayE l[i]
      · rw [if_pos (by simpa using hx)]
        match m with
        | 0 => omega
        | m + 1 =>
          rw [all_l0 l hl m (i + 1) h (by omega)]
          exact congrArg some (decide_eq_decide.2 ⟨fun h => e.2 ⟨hx, h⟩, fun h => (e.1 h).2⟩)
      · rw [if_neg (by simpa using hx)]
        exact congrArg some (decide_eq_false (fun h => hx (e.1 h).1)).symm
    · have hil : i = l.length := by omega
      rw [if_neg (by omega)]
      subst hil
      simp
theorem refAll_f (l : List S66) (hl : l.length ≤ 1000000) (k : Nat) (hk : l.length < k) : lighterref08_All.f k l = some (decide (∀ x ∈ l, MayE x)) := by
  obtain ⟨m, rfl⟩ : ∃ m, k = m + 1 := ⟨k - 1, by omega⟩
  exact all_l0 l hl m 0 (by omega) (by omega)
end Go.Proofs.Ytcjeegomonegpaa.PLivePlays
namespace Go.Proofs.Ytcjeegomonegpaa.PLivePlays
open Go.RowKit Go.Maps Go.Sort Go.Proofs.YtcjeegomonegpaaW.PrintWords Go.Proofs.YtcjeegomonegpaaW.PrintLast Go.Proofs.YtcjeegomonegpaaW.PrintMore
set_option linter.unusedVariables false
set_option linter.unusedSimpArgs false
def Uniq (l : List S23) : Prop := ∀ x ∈ l, ∀ y ∈ l, x.f0 = y.f0 → x = y
theorem uniq_sorted {T : List S23} (h : T.Pairwise (fun x y => x.f0 < y.f0)) : Uniq T := fun x hx y hy e => sorted_inj h hx hy e
theorem find_iff {l : List S23} (h : Uniq l) {k : Int} {x : S23} : findT l k = some x ↔ x ∈ l ∧ x.f0 = k := by
  constructor
  · exact findT_some
  · rintro ⟨hx, rfl⟩
    cases hf : findT l x.f0 with
    | none => exact absurd rfl (findT_none hf x hx)
    | some y =>
      obtain ⟨h1, h2⟩ := findT_some hf
      rw [h y h1 x hx h2]
theorem find_none_iff {l : List S23} {k : Int} : findT l k = none ↔ ∀ x ∈ l, x.f0 ≠ k := ⟨findT_none, fun h => by
  cases hf : findT l k with
  | none => rfl
  | some y =>
    obtain ⟨h1, h2⟩ := findT_some hf
    exact absurd h2 (h y h1)⟩
theorem find_put {T : List S23} (hT : T.Pairwise (fun x y => x.f0 < y.f0)) (x : S23) (k : Int) : findT (putT x T) k = if k = x.f0 then some x else findT T k := by
  have hu := uniq_sorted (putT_sorted (x := x) hT)
  by_cases h : k = x.f0
  · rw [if_pos h]
    exact (find_iff hu).2 ⟨(mem_putT hT).2 (.inl rfl), h.symm⟩
  · rw [if_neg h]
    cases hf : findT T k with
    | none =>
      rw [find_none_iff]
      intro y hy
      rcases (mem_putT hT).1 hy with rfl | ⟨hy, _⟩
      · exact fun e => h e.symm
      · exact findT_none hf y hy
    | some y =>
      obtain ⟨h1, h2⟩ := findT_some hf
      exact (find_iff hu).2 ⟨(mem_putT hT).2 (.inr ⟨h1, by omega⟩), h2⟩
theorem find_snoc (l : List S23) (x : S23) (k : Int) (hn : findT l x.f0 = none) : findT (l ++ [x]) k = if k = x.f0 then some x else findT l k := by
  have e : findT (l ++ [x]) k = (findT l k).or (findT [x] k) := List.find?_append
  rw [e]
  by_cases h : k = x.f0
  · subst h
    rw [hn, if_pos rfl]
    simp [findT]
  · rw [if_neg h]
    have : findT [x] k = none := by
      rw [find_none_iff]
      intro y hy
      simp at hy
      subst hy
      exact fun e => h e.symm
    rw [this]
    simp
theorem find_perm {l T : List S23} (hp : l.Perm T) (hT : Uniq T) (k : Int) : findT l k = findT T k := by
  have hl : Uniq l := fun x hx y hy e => hT x (hp.subset hx) y (hp.subset hy) e
  cases hf : findT T k with
  | none =>
    rw [find_none_iff]
    exact fun x hx => findT_none hf x (hp.subset hx)
  | some y =>
    obtain ⟨h1, h2⟩ := findT_some hf
    exact (find_iff hl).2 ⟨hp.symm.subset h1, h2⟩
theorem val_none {l : List S23} {k : Int} (h : findT l k = none) : valT l k = 0 := by unfold valT; rw [h]; rfl
theorem val_some {l : List S23} {k : Int} {x : S23} (h : findT l k = some x) : valT l k = x.f1 := by unfold valT; rw [h]; rfl
theorem val_congr {l l' : List S23} {k : Int} (h : findT l k = findT l' k) : valT l k = valT l' k := by unfold valT; rw [h]
def NetP (A ps T : List S23) : Prop := (∀ k, (findT T k).isSome = ((findT A k).isSome || (findT ps k).isSome)) ∧ ∀ k, valT T k = valT A k - valT ps k
theorem NetP.start (A : List S23) : NetP A [] A := ⟨fun k => by simp [findT], fun k => by rw [val_none (l := []) rfl]; omega⟩
theorem NetP.step {A ps T : List S23} {x : S23} (h : NetP A ps T) (hT : T.Pairwise (fun x y => x.f0 < y.f0)) (hn : findT ps x.f0 = none) (v : Int) (hv : v = valT T x.f0 - x.f1) : NetP A (ps ++ [x]) (putT ⟨x.f0, v, v⟩ T) := by
  obtain ⟨h1, h2⟩ := h
  refine ⟨fun k => ?_, fun k => ?_⟩
  · rw [find_put hT, find_snoc _ _ _ hn]
    by_cases e : k = x.f0
    · simp [e]
    · rw [if_neg e, if_neg e, h1]
  · unfold valT at h2 hv ⊢
    rw [find_put hT, find_snoc _ _ _ hn]
    by_cases e : k = x.f0
    · rw [if_pos e, if_pos e]
      have := h2 x.f0
      rw [hn] at this
      subst e
      simp at this ⊢
      rw [hv, this]
    · rw [if_neg e, if_neg e]
      exact h2 k
def updL (T ps : List S23) : List S23 := T.map fun r => ⟨r.f0, r.f1, r.f2 + valT ps r.f0⟩
theorem updL_nil (T : List S23) : updL T [] = T := by
  unfold updL
  have : ∀ r : S23, (⟨r.f0, r.f1, r.f2 + valT [] r.f0⟩ : S23) = r := fun r => by
    rw [val_none (l := []) rfl, Int.add_zero]
  simp only [this, List.map_id']
theorem updL_sorted {T ps : List S23} (h : T.Pairwise (fun x y => x.f0 < y.f0)) : (updL T ps).Pairwise (fun x y => x.f0 < y.f0) := by
  unfold updL
  rw [List.pairwise_map]
  exact h
theorem updL_find (T ps : List S23) (k : Int) : findT (updL T ps) k = (findT T k).map fun r => ⟨r.f0, r.f1, r.f2 + valT ps r.f0⟩ := by
  unfold updL findT
  rw [List.find?_map]
  rfl
theorem sorted_ext {l l' : List S23} (h : l.Pairwise (fun x y => x.f0 < y.f0)) (h' : l'.Pairwise (fun x y => x.f0 < y.f0)) (he : ∀ k, findT l k = findT l' k) : l = l' := by
  refine sorted_eq ?_ h h'
  have hn : ∀ {l : List S23}, l.Pairwise (fun x y => x.f0 < y.f0) → l.Nodup := fun h => h.imp (fun h e => by rw [e] at h; omega)
  refine (List.perm_ext_iff_of_nodup (hn h) (hn h')).2 fun x => ⟨fun hx => ?_, fun hx => ?_⟩
  · have := (find_iff (uniq_sorted h)).2 ⟨hx, rfl⟩
    rw [he] at this
    exact (findT_some this).1
  · have := (find_iff (uniq_sorted h')).2 ⟨hx, rfl⟩
    rw [← he] at this
    exact (findT_some this).1
theorem updL_step {T ps : List S23} {x r : S23} (hT : T.Pairwise (fun x y => x.f0 < y.f0)) (hn : findT ps x.f0 = none) (hr : findT T x.f0 = some r) : putT ⟨r.f0, r.f1, r.f2 + x.f1⟩ (updL T ps) = updL T (ps ++ [x]) := by
  have hr0 := (findT_some hr).2
  refine sorted_ext (putT_sorted (updL_sorted hT)) (updL_sorted hT) fun k => ?_
  rw [find_put (updL_sorted hT), updL_find, updL_find]
  simp only
  by_cases e : k = r.f0
  · rw [if_pos e, e, hr0, hr]
    simp only [Option.map_some, hr0]
    unfold valT
    rw [find_snoc _ _ _ hn, if_pos rfl]
    rfl
  · rw [if_neg e]
    cases hf : findT T k with
    | none => rfl
    | some y =>
      have hy := (findT_some hf).2
      simp only [Option.map_some]
      unfold valT
      rw [find_snoc _ _ _ hn, if_neg (by omega)]
theorem updL_old {T ps : List S23} {x r : S23} (hn : findT ps x.f0 = none) (hr : findT T x.f0 = some r) : findT (updL T ps) x.f0 = some r := by
  have hr0 := (findT_some hr).2
  rw [updL_find, hr]
  simp only [Option.map_some]
  rw [hr0, val_none hn, Int.add_zero, ← hr0]
theorem updL_may {T ps : List S23} {x r : S23} (hT : T.Pairwise (fun x y => x.f0 < y.f0)) (hm : ∀ y ∈ T, MayR y) (hn : findT ps x.f0 = none) (hr : findT T x.f0 = some r) :
    (∀ y ∈ updL T (ps ++ [x]), MayR y) ↔ MayR ⟨r.f0, r.f1, r.f2 + x.f1⟩ ∧ ∀ y ∈ updL T ps, MayR y := by
  rw [← updL_step hT hn hr]
  have hs := updL_sorted (ps := ps) hT
  have hold := updL_old hn hr
  have hr0 := (findT_some hr).2
  constructor
  · intro h
    refine ⟨h _ ((mem_putT hs).2 (.inl rfl)), fun y hy => ?_⟩
    by_cases e : y.f0 = x.f0
    · have := (find_iff (uniq_sorted hs)).2 ⟨hy, e⟩
      rw [hold] at this
      cases this
      exact hm r (findT_some hr).1
    · exact h y ((mem_putT hs).2 (.inr ⟨hy, by simp only; omega⟩))
  · rintro ⟨h1, h2⟩ y hy
    rcases (mem_putT hs).1 hy with rfl | ⟨hy, _⟩
    · exact h1
    · exact h2 y hy
def chgT (T : List S23) (more less : List S66) : List S23 := T.map fun r => ⟨r.f0, r.f1, r.f2 + (valT (cntE [] more) r.f0 - valT (cntE [] less) r.f0)⟩
def Known (T l : List S23) : Prop := ∀ x ∈ l, (findT T x.f0).isSome = true
instance (T l : List S23) : Decidable (Known T l) := by unfold Known; infer_instance
def chgR (T : List S23) (more less : List S66) : List S23 × Int :=
  if (∀ x ∈ more, MayE x) ∧ ∀ x ∈ less, MayE x then
    if Known T (cntE [] more) ∧ Known T (cntE [] less) then if ∀ r ∈ chgT T more less, MayR r then (chgT T more less, 0) else (T, 31) else (T, 15)
  else (T, 1)
theorem chgT_upd {T ps : List S23} {more less : List S66} (h : ∀ k, valT ps k = valT (cntE [] more) k - valT (cntE [] less) k) : updL T ps = chgT T more less := by
  unfold updL chgT
  simp only [h]
end Go.Proofs.Ytcjeegomonegpaa.PLivePlays
namespace Go.Proofs.Ytcjeegomonegpaa.PLivePlays
open Go.RowKit Go.Maps Go.Sort Go.Proofs.YtcjeegomonegpaaW.PrintWords Go.Proofs.YtcjeegomonegpaaW.PrintLast Go.Proofs.YtcjeegomonegpaaW.PrintMore
set_option linter.unusedVariables false
set_option linter.unusedSimpArgs false
set_option maxRecDepth 100000 in
set_option maxHeartbeats 2000000 in
theorem cloneN_run (b : Nat) (es : Array MapEntry) (clock : Nat) (w : World) (hb : w.heap[b]? = some (.map es clock)) :
    Calls Try.prog 51 #[.map (some b)] w fun e w' => e = .returned (.map (some w.heap.size)) ∧ w' = w.alloc (.map es clock) := by
  have hq := fun w => run_eql_map_nil_sl (P := Try.prog) w 70 _ _ (some b) Try.underlying70
  go_enter Try.func51, Try.ntmps51
  go_wp2
  rw [run_callFunc_extern Try.func64 (by kernel_rfl) (by kernel_rfl) (by kernel_rfl) (e := Extern.MapsClone.clone) (by kernel_rfl), run_maps_clone_sl w 70 hb]
  simp only [Result.andThen]
  rw [Oper.upon_value]
  go_wp2
  rw [run_typeAssert_map_sl _ 70 20 _ _ _ Try.underlying70]
  simp only [Result.andThen]
  rw [Oper.upon_value]
  go_wp2
  go_ret
  exact ⟨rfl, rfl⟩
theorem cloneN_calls (b N : Nat) (T : List S23) (w : World) (h : NMap w b N T) :
    Calls Try.prog 51 #[.map (some b)] w fun e w' => e = .returned (.map (some w.heap.size)) ∧ NMap w' w.heap.size N T ∧ Below w.heap.size w w' := by
  obtain ⟨h0, D, ⟨es, clock, hb, F, hs, hD⟩, h1⟩ := h
  refine (cloneN_run b es clock w hb).mono fun e w' ⟨he, hw⟩ => ?_
  subst hw
  exact ⟨he, ⟨h0, D, ⟨es, clock, (MapKept.heap_alloc w _).1, F, hs, hD⟩, h1⟩, (Below.refl _ w).alloc (Nat.le_refl _) _⟩
set_option maxRecDepth 100000 in
set_option maxHeartbeats 4000000 in
theorem change_bad (g b N : Nat) (T : List S23) (A : Option Addr) (c : Nat) (more : List S66) (B : Option Addr) (d : Nat) (less : List S66) (h1 : more.length ≤ 40) (h2 : less.length ≤ 40) (w : World) (hT : TbB w g b N T) (hr : Kd.C k66 w A more.length more) (hs : Kd.C k66 w B less.length less)
    (hbad : ¬ ((∀ x ∈ more, MayE x) ∧ ∀ x ∈ less, MayE x)) :
    Calls Try.prog 29 #[.pointer (some ⟨g, 0, none⟩), .slice A more.length c, .slice B less.length d] w fun e w' => e = .returned (.int .i64 1) ∧ Below w.heap.size w w' := by
  have HM := Aside0.mk (counted_calls A c more h1 w hr)
  have HL := Aside0.mk (fun w1 (hb : Below w.heap.size w w1) => counted_calls B d less h2 w1 (Kd.C_below hs hb))
  have HBad := Aside0.mk hbad
  clear hT hr hs hbad
  go_enter Try.func29, Try.ntmps29
  go_wp2_with (fail)
  refine HM.out.mono ?_
  rintro e w1 ⟨hb1, hor⟩
  have HB1 := Aside0.mk hb1
  have HL1 := Aside0.mk (HL.out w1 hb1)
  clear hb1 HM HL
  rcases hor with ⟨hg, rfl, -⟩ | ⟨-, rfl⟩
  · have HG := Aside0.mk hg
    clear hg
    go_wp2_with (fail)
    refine HL1.out.mono ?_
    rintro e w2 ⟨hb2, hor⟩
    have HB2 := Aside0.mk (below_step HB1.out hb2)
    clear hb2 HL1
    rcases hor with ⟨hg, -, -⟩ | ⟨-, rfl⟩
    · exact absurd ⟨HG.out, hg⟩ HBad.out
    · go_wp2_with (fail)
      go_ret
      exact ⟨rfl, HB2.out⟩
  · go_wp2_with (fail)
    refine HL1.out.mono ?_
    rintro e w2 ⟨hb2, hor⟩
    have HB2 := Aside0.mk (below_step HB1.out hb2)
    clear hb2 HL1
    rcases hor with ⟨-, rfl, -⟩ | ⟨-, rfl⟩
    · go_wp2_with (fail)
      go_ret
      exact ⟨rfl, HB2.out⟩
    · go_wp2_with (fail)
      go_ret
      exact ⟨rfl, HB2.out⟩
theorem NetOf.came {D : DataW Unit} {T : List S23} (h : NetOf D T) : Came T (Maps.has D) [] :=
  ⟨List.nodup_nil, by simp, fun x hx => .inl ((h.2.2.1 _).2 ⟨x, hx, rfl⟩), fun kl hk => (h.2.2.1 kl).1 hk⟩
theorem CMap.bound {w : World} {b N : Nat} {T : List S23} (h : CMap w b N T) : ∀ x ∈ T, 0 ≤ x.f1 ∧ x.f1 ≤ 1000000000 := by
  obtain ⟨_, D, _, h⟩ := h
  exact fun x hx => ⟨(h.2.1 x hx).2.2.1, (h.2.1 x hx).2.2.2.1⟩
theorem NMap.sorted {w : World} {b N : Nat} {T : List S23} (h : NMap w b N T) : T.Pairwise (fun x y => x.f0 < y.f0) := by
  obtain ⟨_, D, _, h⟩ := h
  exact h.1
theorem came_none {T : List S23} (hT : T.Pairwise (fun x y => x.f0 < y.f0)) {left : Lit → Bool} {ps : List S23} (h : Came T left ps) {x : S23} (hx : x ∈ T) (hl : left (.int .i64 x.f0) = true) : findT ps x.f0 = none := by
  rw [find_none_iff]
  intro y hy e
  have h2 := h.2.1 y hy
  rw [e, hl] at h2
  cases h2.2
set_option maxRecDepth 100000 in
set_option maxHeartbeats 1600000 in
theorem change_good (g b N : Nat) (hN : N < 500000) (T : List S23) (A : Option Addr) (c : Nat) (more : List S66) (B : Option Addr) (d : Nat) (less : List S66) (h1 : more.length ≤ 40) (h2 : less.length ≤ 40) (w : World) (hT : TbB w g b N T) (hr : Kd.C k66 w A more.length more) (hs : Kd.C k66 w B less.length less)
    (hgm : ∀ x ∈ more, MayE x) (hgl : ∀ x ∈ less, MayE x) (ta tb : List S23) (hta : cntE [] more = ta) (htb : cntE [] less = tb) :
    Calls Try.prog 29 #[.pointer (some ⟨g, 0, none⟩), .slice A more.length c, .slice B less.length d] w fun e w' =>
      (Known T ta ∧ Known T tb ∧ (∀ r ∈ chgT T more less, MayR r) ∧ e = .returned (.int .i64 0) ∧ ∃ b', w.heap.size ≤ b' ∧ TbB w' g b' (N + 80) (chgT T more less) ∧ w.grownBy w' (some g)) ∨
      (Known T ta ∧ Known T tb ∧ (¬ ∀ r ∈ chgT T more less, MayR r) ∧ e = .returned (.int .i64 31) ∧ Below w.heap.size w w') ∨
      (¬ (Known T ta ∧ Known T tb) ∧ e = .returned (.int .i64 15) ∧ Below w.heap.size w w') := by
  have hu77 := Try.underlying77
  have hu79 := Try.underlying79
  have hu70 := Try.underlying70
  have hu23 := Try.underlying23
  have HM := Aside0.mk (counted_calls A c more h1 w hr)
  have HL := Aside0.mk (fun w1 (hb : Below w.heap.size w w1) => counted_calls B d less h2 w1 (Kd.C_below hs hb))
  have HGM := Aside0.mk hgm
  have HGL := Aside0.mk hgl
  have HT := Aside0.mk hT
  have HTA := Aside0.mk hta
  have HTB := Aside0.mk htb
  have hgsz := blk_lt hT.1
  clear hT hr hs hgm hgl hta htb
  go_enter Try.func29, Try.ntmps29
  go_wp2_with (fail)
  refine HM.out.mono ?_
  rintro e w1 ⟨hb1, hor⟩
  have hor : e = .returned (.tuple #[.map (some w.heap.size), .bool true]) ∧ CMap w1 w.heap.size 40 (cntE [] more) := by
    rcases hor with ⟨-, h⟩ | ⟨h, -⟩
    · exact h
    · exact absurd HGM.out h
  obtain ⟨rfl, hMa⟩ := hor
  have HB1 := Aside0.mk hb1
  have HL1 := Aside0.mk (HL.out w1 hb1)
  have HMA := Aside0.mk hMa
  have HBA := Aside0.mk (show ∀ x ∈ ta, 0 ≤ x.f1 ∧ x.f1 ≤ 1000000000 by rw [← HTA.out]; exact hMa.bound)
  clear hb1 HM HL hMa
  go_wp2_with (fail)
  refine HL1.out.mono ?_
  rintro e w2 ⟨hb2, hor⟩
  have hor : e = .returned (.tuple #[.map (some w1.heap.size), .bool true]) ∧ CMap w2 w1.heap.size 40 (cntE [] less) := by
    rcases hor with ⟨-, h⟩ | ⟨h, -⟩
    · exact h
    · exact absurd HGL.out h
  obtain ⟨rfl, hMb⟩ := hor
  have HB2 := Aside0.mk (below_step HB1.out hb2)
  have HMA2 := Aside0.mk (HMA.out.below hb2)
  have HMB := Aside0.mk hMb
  have HBB := Aside0.mk (show ∀ x ∈ tb, 0 ≤ x.f1 ∧ x.f1 ≤ 1000000000 by rw [← HTB.out]; exact hMb.bound)
  have HC := Aside0.mk (cloneN_calls w.heap.size 40 _ w2 HMA2.out.net)
  clear hb2 hMb HL1 HMA HMA2
  go_wp2_with (fail)
  refine HC.out.mono ?_
  rintro e w3 ⟨rfl, hN3, hb3⟩
  have HB3 := Aside0.mk (below_step HB2.out hb3)
  have HMB3 := Aside0.mk ((HMB.out.below hb3).net)
  have HN3 := Aside0.mk hN3
  have hz1 : w.heap.size ≤ w1.heap.size := HB1.out.size
  have hz2 : w1.heap.size < w2.heap.size := HMB.out.lt
  have hz3 : w2.heap.size < w3.heap.size := hN3.lt
  clear HC hb3 hN3 HMB HB1 HB2
  rw [HTA.out] at HN3
  rw [HTB.out] at HMB3
  obtain ⟨hTN, DB, hownB, hDB⟩ := HMB3.out
  have HDB := Aside0.mk hDB
  have hslB := hownB.size_le
  have HSLB := Aside0.mk hslB
  clear hTN hDB hslB HMB3
  go_wp2_with (at_range; refine wpList_range_own _ rfl _ 70 rfl 3 3 keyed3 Try.underlying70 _ w1.heap.size 40 _ rfl hownB ?_; intro w4 hrg4 hg4 hs4)
  have HB4 := Aside0.mk (HB3.out.grown hg4 HB3.out.size (fun j hj => by cases hj))
  have HN4 := Aside0.mk (HN3.out.kept hg4 (by simp))
  have HRG := Aside0.mk hrg4
  clear hownB hg4 hrg4 HB3 HN3 hs4
  generalize w3.heap.size = r0 at HRG hz3 ⊢
  generalize w2.heap.size = bn at HN4 hz2 hz3 ⊢
  generalize w1.heap.size = bb at HRG hz1 hz2 ⊢
  go_frame
  go_loopw [] (fun wr => ∃ (left : Lit → Bool) (cnt : Nat) (ps T' : List S23), wr.ranges Try.prog 3 intR bb r0 40 DB left cnt ∧ ps.length + cnt ≤ 40 ∧ Aside0 (Came tb left ps) ∧ Aside0 (NMap wr bn (40 + ps.length) T') ∧ Aside0 (NetP ta ps T') ∧ Aside0 (Below w.heap.size w wr)) (fun wr => wr.rangeLeft bb r0)
  case atStart => exact ⟨_, _, [], ta, HRG.out, by simpa using HSLB.out, ⟨HDB.out.came⟩, HN4, ⟨NetP.start ta⟩, HB4⟩
  case round =>
    clear HN4 HRG HB4
    obtain ⟨left, cnt, ps, T', hrg, hcs, HCm, HNm, HNp, HB⟩ := hrel
    go_wp2_with (at_next; refine wpList_next_ranges_ii _ rfl _ rfl 3 3 .i64 .i64 keyed3 Try.underlying3 Try.underlying3 bb r0 40 DB _ _ rfl hrg ?_ ?_)
    · intro hc0 hl0
      have hp := HCm.out.perm HDB.out.1 hl0
      have HNf := Aside0.mk (show NetP ta tb T' from ⟨fun k => by rw [HNp.out.1 k, find_perm hp (uniq_sorted HDB.out.1) k], fun k => by rw [HNp.out.2 k, val_congr (find_perm hp (uniq_sorted HDB.out.1) k)]⟩)
      have HN6 := Aside0.mk (HNm.out.mono (M := 80) (by omega))
      have HT6 := Aside0.mk (HT.out.below (Below.mk HB.out.os HB.out.tape HB.out.output HB.out.size HB.out.block))
      have hb6 := HB.out.size
      have c0 : wr.cell? ⟨g, 0, none⟩ = some (.map (some b)) := (blk_cell HT6.out.1 0).trans rfl
      have HC := Aside0.mk (clone_calls b N T wr HT6.out.2)
      have hbnz := HNm.out.lt
      have hrz := hrg.lt
      clear hrg hcs HCm HNm HNp hp hl0 hc0
      go_wp2_with (fail)
      refine HC.out.mono ?_
      rintro e w6 ⟨rfl, hT7, hb7⟩
      have HB7 := Aside0.mk (below_step HB.out hb7)
      have HN7 := Aside0.mk (HN6.out.below hb7)
      have HT7 := Aside0.mk (HT6.out.below hb7)
      have HX7 := Aside0.mk hT7.loose
      have hxz := hT7.lt
      clear hb7 hT7 HC HN6 HB HT6
      generalize wr.heap.size = bx at HX7 hxz hb6 hbnz hrz ⊢
      obtain ⟨hTN, DN, hownN, hDN⟩ := HN7.out
      have HDN := Aside0.mk hDN
      have HSLN := Aside0.mk hownN.size_le
      clear hTN hDN HN7
      go_wp2_with (at_range; refine wpList_range_own _ rfl _ 70 rfl 3 3 keyed3 Try.underlying70 _ bn 80 _ rfl hownN ?_; intro w7 hrg7 hg7 hs7)
      have HB8 := Aside0.mk (HB7.out.grown hg7 HB7.out.size (fun j hj => by cases hj))
      have HX8 := Aside0.mk (HX7.out.kept hg7 (by simp))
      have HT8 := Aside0.mk (HT7.out.grown hg7 (by simp) (by simp))
      have HRG8 := Aside0.mk hrg7
      clear hownN hg7 hrg7 HB7 HX7 HT7 hs7
      generalize w6.heap.size = r1 at HRG8 hxz ⊢
      go_frame
      go_loopg [15] 80 (fun kx v15 wr => ∃ (left : Lit → Bool) (cnt : Nat) (ps : List S23) (ez : Int), v15 = .int .i64 ez ∧ cnt ≤ kx ∧ wr.ranges Try.prog 3 intR bn r1 80 DN left cnt ∧ ps.length + cnt ≤ 80 ∧ Aside0 (Came T' left ps) ∧ Aside0 (LMap wr bx (N + ps.length) (updL T ps)) ∧ Aside0 (Known T ps) ∧ Aside0 (ez = if ∀ r ∈ updL T ps, MayR r then 0 else 31) ∧ Aside0 (Below w.heap.size w wr))
      case atStart =>
        exact ⟨_, _, [], 0, rfl, HSLN.out, HRG8.out, by simpa using HSLN.out, ⟨HDN.out.came⟩, ⟨by rw [updL_nil]; exact HX8.out⟩, ⟨fun x hx => by cases hx⟩, ⟨by rw [updL_nil, if_pos HT.out.2.may]⟩, HB8⟩
      case round =>
        clear HX8 HRG8 HB8 HT8
        obtain ⟨left, cnt, ps, ez, rfl, hck, hrg, hcs, HCm, HXm, HKn, HEz, HB⟩ := hrel
        go_wp2_with (at_next; refine wpList_next_ranges_ii _ rfl _ rfl 3 3 .i64 .i64 keyed3 Try.underlying3 Try.underlying3 bn r1 80 DN _ _ rfl hrg ?_ ?_)
        · intro hc0 hl0
          have hp := HCm.out.perm HDN.out.1 hl0
          have hval : ∀ k, valT ps k = valT (cntE [] more) k - valT (cntE [] less) k := fun k => by
            rw [val_congr (find_perm hp (uniq_sorted HDN.out.1) k), HNf.out.2 k, HTA.out, HTB.out]
          have hupd := chgT_upd (T := T) hval
          have hkn : ∀ k, (findT T' k).isSome = true → (findT T k).isSome = true := fun k h => by
            obtain ⟨y, hy⟩ := Option.isSome_iff_exists.1 h
            obtain ⟨h1, h2⟩ := findT_some hy
            have := HKn.out y (hp.symm.subset h1)
            rwa [h2] at this
          have hka : Known T ta := fun x hx => hkn _ (by
            rw [HNf.out.1]
            refine Bool.or_eq_true_iff.2 (.inl ?_)
            cases hf : findT ta x.f0 with
            | none => exact absurd rfl (findT_none hf x hx)
            | some y => rfl)
          have hkb : Known T tb := fun x hx => hkn _ (by
            rw [HNf.out.1]
            refine Bool.or_eq_true_iff.2 (.inr ?_)
            cases hf : findT tb x.f0 with
            | none => exact absurd rfl (findT_none hf x hx)
            | some y => rfl)
          have HK := Aside0.mk (And.intro hka hkb)
          rw [hupd] at HXm HEz
          have HX9 := Aside0.mk (HXm.out.mono (M := N + 80) (by omega))
          have hT9 := HT.out.below (Below.mk HB.out.os HB.out.tape HB.out.output HB.out.size HB.out.block)
          have HT9 := Aside0.mk hT9
          have hgx : bx ≠ g := by omega
          clear hp hval hupd hkn hka hkb HXm HKn HCm hrg hl0 hc0
          by_cases hall : ∀ r ∈ chgT T more less, MayR r
          · as_aux_lemma =>
              have hez := HEz.out
              rw [if_pos hall] at hez
              subst hez
              have HAll := Aside0.mk hall
              clear hall HEz
              have c9 : wr.cell? ⟨g, 0, none⟩ = some (.map (some b)) := (blk_cell hT9.1 0).trans rfl
              have f9 := blk_frozen hT9.1 0
              clear hT9
              go_wp2_with (fail)
              go_ret
              have hgr : wr.grownBy (wr.setCell ⟨g, 0, none⟩ (.map (some bx))) (some g) := grown_set _ _ _ _
              exact .inl ⟨HK.out.1, HK.out.2, HAll.out, rfl, bx, hb6, ⟨by simpa using blk_set HT9.out.1 0 (.map (some bx)), (HX9.out.tight HAll.out).kept hgr (fun e => hgx (Option.some.inj e))⟩, grown_trans (grown_of_below HB.out (some g)) hgr (fun j hj => .inr hj)⟩
          · as_aux_lemma =>
              have hez := HEz.out
              rw [if_neg hall] at hez
              subst hez
              have HAll := Aside0.mk hall
              clear hall HEz hT9
              go_wp2_with (fail)
              go_ret
              exact .inr (.inl ⟨HK.out.1, HK.out.2, HAll.out, rfl, HB.out⟩)
        · intro x n w8 cnt2 hwx hwc hlx hat hrg2 hlt hg2 hs2 hen
          obtain ⟨t, ht, et⟩ := HCm.out.2.2.2 _ hlx
          injection et with _ et
          subst et
          have hct := HDN.out.2.1 t ht
          have hn : n = t.f1 := by
            have h1 := hat (.lit .nil)
            rw [HDN.out.2.2.2 t ht] at h1
            simpa [numD] using h1.symm
          subst hn
          have HCt := Aside0.mk hct
          have HTm := Aside0.mk ht
          have HC2 := Aside0.mk (HCm.out.step HDN.out.1 ht hlx)
          have HNone := Aside0.mk (came_none HDN.out.1 HCm.out ht hlx)
          have hlt2 := hlt
          have HX8 := Aside0.mk (HXm.out.kept hg2 (by simp; omega))
          have HB8 := Aside0.mk (HB.out.grown hg2 HB.out.size (fun j hj => by obtain rfl := Option.some.inj hj; omega))
          have HRG2 := Aside0.mk hrg2
          have hlk := HX8.out.look (k := t.f0) hwx
          clear hs2 hat hwx hwc hlx ht hct hrg hrg2 hg2 hlt HXm HB
          cases hq : findT T t.f0 with
          | none =>
            as_aux_lemma =>
              rw [updL_find, hq] at hlk
              simp only [rowV, Option.map_none, Option.getD_none, Option.isSome_none] at hlk
              have HQ := Aside0.mk hq
              clear hq
              have hwr : IntKind.i64.wrap t.f1 = t.f1 := IntWalk.i64_in _ (by have := HCt.out.2.2.1; have := HCt.out.2.2.2.1; omega)
              have hwr0 : IntKind.i64.wrap (0 + t.f1) = t.f1 := by rw [Int.zero_add]; exact hwr
              go_wp2_with (fail)
              go_ret
              refine .inr (.inr ⟨?_, rfl, below_alloc HB8.out _⟩)
              intro k1 k2
              have hu := uniq_sorted HDN.out.1
              have h0 : (findT T' t.f0).isSome = true := by rw [(find_iff hu).2 ⟨HTm.out, rfl⟩]; rfl
              rw [HNf.out.1] at h0
              have hq := HQ.out
              rcases Bool.or_eq_true_iff.1 h0 with h0 | h0
              · obtain ⟨y, hy⟩ := Option.isSome_iff_exists.1 h0
                have := k1 y (findT_some hy).1
                rw [(findT_some hy).2, hq] at this
                cases this
              · obtain ⟨y, hy⟩ := Option.isSome_iff_exists.1 h0
                have := k2 y (findT_some hy).1
                rw [(findT_some hy).2, hq] at this
                cases this
          | some r =>
            as_aux_lemma =>
              obtain ⟨r0, r1, r2⟩ := r
              have hr0 : r0 = t.f0 := (findT_some hq).2
              subst hr0
              rw [updL_old HNone.out hq] at hlk
              simp only [rowV, Option.getD_some, Option.isSome_some] at hlk
              have hrm := HT.out.2.may _ (findT_some hq).1
              have hrm' : MayR ⟨t.f0, r1, r2⟩ := hrm
              simp only [MayR] at hrm
              have hwr : IntKind.i64.wrap (r2 + t.f1) = r2 + t.f1 := IntWalk.i64_in _ (by have := HCt.out.2.2.1; have := HCt.out.2.2.2.1; have := hrm.2.2.2.2.1; have := hrm.2.2.2.2.2; have := hrm.2.2.2.1; omega)
              have hmc := fun W => may_calls ⟨t.f0, r1, r2 + t.f1⟩ W
              simp only [rowV] at hmc
              have HStep := Aside0.mk (updL_step (ps := ps) HT.out.2.sorted HNone.out hq)
              have HMay := Aside0.mk (updL_may (ps := ps) HT.out.2.sorted HT.out.2.may HNone.out hq)
              have HLo : Aside0 (LooseR ⟨t.f0, r1, r2 + t.f1⟩) := ⟨⟨hrm.1, hrm.2.1, by have := hrm.2.2.1; simp only; omega, by have := hrm.2.2.2.1; simp only; omega, by have := HCt.out.2.2.1; have := hrm.2.2.2.2.1; simp only; omega, by have := HCt.out.2.2.2.1; have := hrm.2.2.2.2.2; have := hrm.2.2.2.1; simp only; omega⟩⟩
              have HX9 := Aside0.mk (HX8.out.below (below_alloc (Below.refl _ _) (.cells #[.int .i64 t.f0, .int .i64 r1, .int .i64 (r2 + t.f1)] 23)))
              have HB9 := Aside0.mk (below_alloc HB8.out (.cells #[.int .i64 t.f0, .int .i64 r1, .int .i64 (r2 + t.f1)] 23))
              have HRG9 := Aside0.mk (HRG2.out.alloc (.cells #[.int .i64 t.f0, .int .i64 r1, .int .i64 (r2 + t.f1)] 23))
              have HBX := Aside0.mk (blk_new w8 (.cells #[.int .i64 t.f0, .int .i64 r1, .int .i64 (r2 + t.f1)] 23))
              have HKn2 : Aside0 (Known T (ps ++ [t])) := ⟨fun y hy => by
                rcases List.mem_append.1 hy with hy | hy
                · exact HKn.out y hy
                · simp at hy
                  rw [hy, hq]
                  rfl⟩
              have hps : ps.length < 80 := by omega
              clear hq hrm HKn
              cases hd : decide (MayR ⟨t.f0, r1, r2 + t.f1⟩) with
              | true =>
                rw [hd] at hmc
                have HD2 : Aside0 (∀ e2 : Int, (e2 = if ∀ y ∈ updL T ps, MayR y then 0 else 31) → e2 = if ∀ y ∈ updL T (ps ++ [t]), MayR y then 0 else 31) := ⟨fun e2 h => by
                  rw [h]
                  by_cases hc : ∀ y ∈ updL T ps, MayR y
                  · rw [if_pos hc, if_pos (HMay.out.2 ⟨of_decide_eq_true hd, hc⟩)]
                  · rw [if_neg hc, if_neg (fun h => hc (HMay.out.1 h).2)]⟩
                clear hd
                as_aux_lemma =>
                go_wp2_with (fail)
                refine (hmc _).mono ?_
                rintro e w9 ⟨rfl, hb9⟩
                have HX10 := Aside0.mk (HX9.out.below hb9)
                have HB10 := Aside0.mk (below_step HB9.out hb9)
                have HRG10 := Aside0.mk (HRG9.out.kept (grown_of_below hb9 none) (by simp) (by simp))
                have bx10 := blk_below HBX.out hb9
                have k0 : w9.cell? ⟨w8.heap.size, 0, none⟩ = some (.int .i64 t.f0) := (blk_cell bx10 0).trans rfl
                have k1 : w9.cell? ⟨w8.heap.size, 1, none⟩ = some (.int .i64 r1) := (blk_cell bx10 1).trans rfl
                have k2 : w9.cell? ⟨w8.heap.size, 2, none⟩ = some (.int .i64 (r2 + t.f1)) := (blk_cell bx10 2).trans rfl
                have hMX := HX10.out
                clear hb9 bx10 hlk hmc
                go_wp2_with (at_mapUpdate; go_loud (refine wp_putL rfl _ _ _ rfl hMX (by omega) ⟨t.f0, r1, r2 + t.f1⟩ HLo.out rfl rfl rfl ?_); intro w10 hX10 hg10)
                have hr10 := HRG10.out.kept hg10 (by simp; omega) (by simp; omega)
                go_roundg (gk - 1)
                case measure => omega
                case rel => exact ⟨_, cnt2, ps ++ [t], ez, rfl, by omega, hr10, by simp; omega, HC2, ⟨by rw [List.length_append, ← HStep.out]; exact hX10⟩, HKn2, ⟨HD2.out ez HEz.out⟩, ⟨HB10.out.grown hg10 HB10.out.size (fun j hj => by obtain rfl := Option.some.inj hj; omega)⟩⟩
              | false =>
                rw [hd] at hmc
                have HD2 : Aside0 ((31 : Int) = if ∀ y ∈ updL T (ps ++ [t]), MayR y then 0 else 31) := ⟨by
                  rw [if_neg (fun h => of_decide_eq_false hd (HMay.out.1 h).1)]⟩
                clear hd
                as_aux_lemma =>
                go_wp2_with (fail)
                refine (hmc _).mono ?_
                rintro e w9 ⟨rfl, hb9⟩
                have HX10 := Aside0.mk (HX9.out.below hb9)
                have HB10 := Aside0.mk (below_step HB9.out hb9)
                have HRG10 := Aside0.mk (HRG9.out.kept (grown_of_below hb9 none) (by simp) (by simp))
                have bx10 := blk_below HBX.out hb9
                have k0 : w9.cell? ⟨w8.heap.size, 0, none⟩ = some (.int .i64 t.f0) := (blk_cell bx10 0).trans rfl
                have k1 : w9.cell? ⟨w8.heap.size, 1, none⟩ = some (.int .i64 r1) := (blk_cell bx10 1).trans rfl
                have k2 : w9.cell? ⟨w8.heap.size, 2, none⟩ = some (.int .i64 (r2 + t.f1)) := (blk_cell bx10 2).trans rfl
                have hMX := HX10.out
                clear hb9 bx10 hlk hmc
                go_wp2_with (at_mapUpdate; go_loud (refine wp_putL rfl _ _ _ rfl hMX (by omega) ⟨t.f0, r1, r2 + t.f1⟩ HLo.out rfl rfl rfl ?_); intro w10 hX10 hg10)
                have hr10 := HRG10.out.kept hg10 (by simp; omega) (by simp; omega)
                go_roundg (gk - 1)
                case measure => omega
                case rel => exact ⟨_, cnt2, ps ++ [t], 31, rfl, by omega, hr10, by simp; omega, HC2, ⟨by rw [List.length_append, ← HStep.out]; exact hX10⟩, HKn2, HD2, ⟨HB10.out.grown hg10 HB10.out.size (fun j hj => by obtain rfl := Option.some.inj hj; omega)⟩⟩
    · intro x n w5 cnt2 hwx hwc hlx hat hrg2 hlt hg2 hs2 hen
      obtain ⟨t, ht, et⟩ := HCm.out.2.2.2 _ hlx
      injection et with _ et
      subst et
      have hct := HDB.out.2.1 t ht
      have hn : n = t.f1 := by
        have h1 := hat (.lit .nil)
        rw [HDB.out.2.2.2 t ht] at h1
        simpa [numD] using h1.symm
      subst hn
      have HC2 := Aside0.mk (HCm.out.step HDB.out.1 ht hlx)
      have hnone := came_none HDB.out.1 HCm.out ht hlx
      have HNone := Aside0.mk hnone
      have HLT := Aside0.mk (show cnt2 < cnt ∧ wr.rangeLeft bb r0 = cnt from ⟨hlt, hrg.left_eq⟩)
      have HN5 := Aside0.mk (HNm.out.kept hg2 (by simp; omega))
      have HB5 := Aside0.mk (HB.out.grown hg2 HB.out.size (fun j hj => by obtain rfl := Option.some.inj hj; omega))
      have hlk := HN5.out.look (k := t.f0) hwx
      have hv1 := HNp.out.2 t.f0
      rw [val_none hnone] at hv1
      obtain ⟨hv2, hv3⟩ := valT_bound HBA.out (by decide) t.f0
      obtain ⟨hv4, hv5⟩ := HBB.out t ht
      have hps : ps.length < 40 := by omega
      have hX : NetR ⟨t.f0, valT T' t.f0 - t.f1, valT T' t.f0 - t.f1⟩ := ⟨hct.1, hct.2.1, by simp only; omega, by simp only; omega, rfl⟩
      have HX := Aside0.mk hX
      have HP2 := Aside0.mk (HNp.out.step HNm.out.sorted hnone (valT T' t.f0 - t.f1) rfl)
      have hwr : IntKind.i64.wrap (valT T' t.f0 - t.f1) = valT T' t.f0 - t.f1 := IntWalk.i64_in _ (by omega)
      have hMN := HN5.out
      have HRG2 := Aside0.mk hrg2
      clear hs2 hat hwx hwc hlx ht hct hrg hrg2 hg2 hnone hv1 hv2 hv3 hv4 hv5 hX hlt
      generalize valT T' t.f0 = vv at hlk HX HP2 hwr ⊢
      obtain ⟨t0, t1, t2⟩ := t
      simp only at hlk HX HP2 hwr hen ⊢
      go_wp2_with (at_mapUpdate; go_loud (refine wp_putN rfl _ _ _ rfl hMN (by omega) ⟨t0, vv - t1, vv - t1⟩ HX.out rfl rfl rfl ?_); intro w6 hN6 hg6)
      have hr6 := HRG2.out.kept hg6 (by simp; omega) (by simp; omega)
      refine ⟨⟨_, cnt2, hr6, ps ++ [⟨t0, t1, t2⟩], by simp; have := HLT.out.1; omega, HC2, _, ⟨?_⟩, HP2, ⟨HB5.out.grown hg6 HB5.out.size (fun j hj => by obtain rfl := Option.some.inj hj; omega)⟩⟩, ?_⟩
      · rw [List.length_append]
        exact hN6
      · rw [hr6.left_eq, HLT.out.2]
        exact HLT.out.1
theorem change_calls (g b N : Nat) (hN : N < 500000) (T : List S23) (A : Option Addr) (c : Nat) (more : List S66) (B : Option Addr) (d : Nat) (less : List S66) (h1 : more.length ≤ 40) (h2 : less.length ≤ 40) (w : World) (hT : TbB w g b N T) (hr : Kd.C k66 w A more.length more) (hs : Kd.C k66 w B less.length less) :
    Calls Try.prog 29 #[.pointer (some ⟨g, 0, none⟩), .slice A more.length c, .slice B less.length d] w fun e w' =>
      e = .returned (.int .i64 (chgR T more less).2) ∧ ∃ b', (b' = b ∨ w.heap.size ≤ b') ∧ TbB w' g b' (N + 80) (chgR T more less).1 ∧ w.grownBy w' (some g) := by
  by_cases hb : (∀ x ∈ more, MayE x) ∧ ∀ x ∈ less, MayE x
  · refine (change_good g b N hN T A c more B d less h1 h2 w hT hr hs hb.1 hb.2 _ _ rfl rfl).mono ?_
    rintro e w' (⟨k1, k2, k3, rfl, b', q1, q2, q3⟩ | ⟨k1, k2, k3, rfl, q1⟩ | ⟨k1, rfl, q1⟩)
    · have e1 : chgR T more less = (chgT T more less, 0) := by unfold chgR; rw [if_pos hb, if_pos ⟨k1, k2⟩, if_pos k3]
      rw [e1]
      exact ⟨rfl, b', .inr q1, q2, q3⟩
    · have e1 : chgR T more less = (T, 31) := by unfold chgR; rw [if_pos hb, if_pos ⟨k1, k2⟩, if_neg k3]
      rw [e1]
      exact ⟨rfl, b, .inl rfl, (hT.below q1).mono (by omega), grown_of_below q1 _⟩
    · have e1 : chgR T more less = (T, 15) := by unfold chgR; rw [if_pos hb, if_neg k1]
      rw [e1]
      exact ⟨rfl, b, .inl rfl, (hT.below q1).mono (by omega), grown_of_below q1 _⟩
  · refine (change_bad g b N T A c more B d less h1 h2 w hT hr hs hb).mono ?_
    rintro e w' ⟨rfl, q1⟩
    have e1 : chgR T more less = (T, 1) := by unfold chgR; rw [if_neg hb]
    rw [e1]
    exact ⟨rfl, b, .inl rfl, (hT.below q1).mono (by omega), grown_of_below q1 _⟩
end Go.Proofs.Ytcjeegomonegpaa.PLivePlays
