/- The list of places that RingBack keeps: appended to at its end, taken from at its head. Conditions: what each theorem says. -/
import Derived.Test.YtkbohbelmgmlnaaBack0
import Derived.Test.YtkbohbelmgmlnaaAsksFuns
namespace Go.Proofs.Ytkbohbelmgmlnaa.PRingAsks
open Go.RowKit Go.Proofs.YtkbohbelmgmlnaaW.PrintWords Go.Proofs.YtkbohbelmgmlnaaW.PrintLast Go.Proofs.YtkbohbelmgmlnaaW.PrintMore
set_option linter.unusedVariables false
set_option linter.unusedSimpArgs false
section
variable {P : Program}
theorem run_append_room_o (w : World) (t ty e : TypeId) (i : TypeInfo) (ht : P.underlying t = some (.slice e)) (hi : P.info? e = some i) (hsz : i.size = 1)
    (g o sLen sCap : Nat) (cur : Array Value) (hg : w.heap[g]? = some (.cells cur e (0, 0)))
    (a : Addr) (c : Nat) (u : Value) (hnews : w.cell? a = some u) (h1 : u.oneCell' = true)
    (hroom : sLen + 1 ≤ sCap) (hfit : o + sLen + 1 ≤ cur.size) :
    (Builtin.append_ #[t, t] ty #[.slice (some ⟨g, o, none⟩) sLen sCap, .slice (some a) 1 c]).run P w =
      .ok (.slice (some ⟨g, o, none⟩) (sLen + 1) sCap) (w.setRow g (cur.toList.take (o + sLen) ++ [u] ++ cur.toList.drop (o + sLen + 1)).toArray) := by
  have hnews' : ∀ j v, [u][j]? = some v → w.cell? (a.add j) = some v := by
    intro j v hj
    match j, hj with
    | 0, hj =>
      simp at hj
      subst hj
      have : a.add 0 = a := by simp [Addr.add]
      rw [this]
      exact hnews
  have hf := run_firstCells_some (P := P) w i.size 1 a 1 c [u] (by simp [hsz]) hnews'
  rw [hsz] at hf
  have hst := run_storeCells_at P g (o + sLen) e [u] 0 cur w hg (by simpa using hfit) (by simpa using h1)
  simp only [Nat.add_zero, List.length_singleton] at hst
  simp [Builtin.append_, run_underlying ht, sizeOf, typeInfo, hi, Builtin.lenOf, hroom, hf, Addr.add_lit, hst, hsz]
/-- append(v, y): the goal's world holds y's box last. -/
theorem Tk.append {ops : Array Oper} {rest : List Oper} {o : Oper} {a : Act} {Q : Exit → Act → World → Prop} {W : World} (base : Nat) (hgd : o.guard = none) (s x : Operand)
    (ho : o.op = .call { callee := .builtin .append, args := #[s, x], argTypes := #[45, 45] })
    (ht : P.underlying 45 = some (.slice 3)) (i : TypeInfo) (hi : P.info? 3 = some i) (hz : i.zero = some (.int .i64 0)) (hsz : i.size = 1) (hby : i.bytes = 8)
    (v : Value) (xs : List Int) (y : Int) (hs : a.eval s = v) (hx : a.eval x = .slice (some ⟨W.heap.size, 0, none⟩) 1 1) (HO : Tk W base v xs) (hbase : base ≤ W.heap.size) (hl : xs.length ≤ 1000000)
    (h : ∀ v1 w1, Tk w1 base v1 (xs ++ [y]) → (W.alloc (.cells #[.int .i64 y] 3)).grownBy w1 v.ownBlock → wpList P ops Q rest (a.put o.dst v1) w1) :
    wpList P ops Q (o :: rest) a (W.alloc (.cells #[.int .i64 y] 3)) := by
  have hlt : W.heap.size < (W.alloc (.cells #[.int .i64 y] 3)).heap.size := by simp
  have HO' : Tk (W.alloc (.cells #[.int .i64 y] 3)) base v xs := HO.below (below_alloc (Below.refl _ _) _)
  have hnews := cell_one_new W (.int .i64 y) 3
  have hnew0 : (W.alloc (.cells #[.int .i64 y] 3)).cell? ⟨W.heap.size, 0, none⟩ = some (.int .i64 y) := (blk_cell (blk_new W _) 0).trans rfl
  generalize (W.alloc (.cells #[.int .i64 y] 3)) = W1 at HO' hnews hnew0 hlt h ⊢
  have hrun : ∃ v1 w1, (Builtin.append_ #[45, 45] o.type #[v, .slice (some ⟨W.heap.size, 0, none⟩) 1 1]).run P W1 = .ok v1 w1 ∧ Tk w1 base v1 (xs ++ [y]) ∧ W1.grownBy w1 v.ownBlock := by
    rcases HO' with ⟨rfl, rfl⟩ | ⟨g, off, cap, cur, rfl, hb, hg, hfit, hcap, hcur⟩
    · have hr := run_append_nil (P := P) W1 45 o.type 3 i (.int .i64 0) ht hi hz ⟨W.heap.size, 0, none⟩ 1 1 [.int .i64 y] (by simp [hsz]) hnews (by omega) (by omega) (by rw [hby]; omega)
      have hge := grownCap_ge W1 1 0 3
      refine ⟨_, _, hr, .inr ⟨W1.heap.size, 0, _, _, rfl, by omega, heap_alloc_new W1.drew _, ?_, by simpa using hge, ?_⟩, ⟨rfl, rfl, rfl, by simp, fun k hk _ => heap_alloc_old W1.drew _ hk⟩⟩
      · simp only [Array.size_append, List.size_toArray, size_zeroCells, Value.cells]
        simp
        omega
      · intro j hj
        have : j = 0 := by simp at hj; omega
        subst this
        rw [Array.getElem?_append_left (by simp)]
        simp
    · by_cases hroom : xs.length + 1 ≤ cap
      · have hr := run_append_room_o (P := P) W1 45 o.type 3 i ht hi hsz g off xs.length cap cur hg ⟨W.heap.size, 0, none⟩ 1 (.int .i64 y) hnew0 rfl hroom (by omega)
        refine ⟨_, _, hr, .inr ⟨g, off, cap, _, by rw [List.length_append, List.length_singleton], hb, setRow_heap W1 g cur _ 3 _ hg, ?_, by simpa using hroom, ?_⟩, ⟨rfl, rfl, rfl, by simp, fun k _ hk => setRow_other W1 g k _ (fun e => hk (by simp [Value.ownBlock, e]))⟩⟩
        · simp
          omega
        · intro j hj
          simp only [List.length_append, List.length_singleton] at hj
          rw [List.getElem?_toArray, List.append_assoc]
          by_cases hjx : j < xs.length
          · rw [List.getElem?_append_left (by simp; omega), List.getElem?_take_of_lt (by omega), Array.getElem?_toList, hcur j hjx]
            congr 2
            rw [List.getElem_append_left hjx]
          · have : j = xs.length := by omega
            subst this
            rw [List.getElem?_append_right (by simp; omega)]
            simp
            rw [show off + xs.length - min (off + xs.length) cur.size = 0 by omega]
            simp
      · have holds : ∀ j u, (xs.map (Value.int .i64))[j]? = some u → W1.cell? ((⟨g, off, none⟩ : Addr).add j) = some u := by
          intro j u hj
          have hjl : j < xs.length := by
            have := (List.getElem?_eq_some_iff.1 hj).1
            simpa using this
          have e1 : (⟨g, off, none⟩ : Addr).add j = ⟨g, off + j, none⟩ := by simp [Addr.add]
          rw [e1, blk_cell hg, hcur j hjl, ← hj]
          simp [hjl]
        have hr := run_append_grow (P := P) W1 45 o.type 3 i (.int .i64 0) ht hi hz ⟨g, off, none⟩ xs.length cap (xs.map (Value.int .i64)) (by simp [hsz]) holds ⟨W.heap.size, 0, none⟩ 1 1 [.int .i64 y] (by simp [hsz]) hnews (by omega) (by omega) (growslice_fits (by omega) (by rw [hby]; omega))
        have hge := grownCap_ge W1 (xs.length + 1) cap 3
        refine ⟨_, _, hr, .inr ⟨W1.heap.size, 0, _, _, by rw [List.length_append, List.length_singleton], by omega, heap_alloc_new W1.drew _, ?_, by simpa using hge, ?_⟩, ⟨rfl, rfl, rfl, by simp, fun k hk _ => heap_alloc_old W1.drew _ hk⟩⟩
        · simp only [Array.size_append, List.size_toArray, size_zeroCells, Value.cells]
          simp
          omega
        · intro j hj
          simp only [List.length_append, List.length_singleton] at hj
          rw [Array.getElem?_append_left (by simp; omega)]
          simp only [Nat.zero_add]
          by_cases hjx : j < xs.length
          · rw [Array.getElem?_append_left (by simpa using hjx)]
            simp [hjx]
          · have : j = xs.length := by omega
            subst this
            rw [Array.getElem?_append_right (by simp)]
            simp
  obtain ⟨v1, w1, hr, h2, h3⟩ := hrun
  refine wpList_plain hgd fun K hK => ?_
  unfold Oper.wp execOp
  simp only [ho, resolve, invoke, builtin, Sem.run_bind, Sem.run_pure, Result.andThen_ok, List.map_toArray, List.map_cons, List.map_nil, hs, hx, hr]
  exact hK _ _ (h v1 w1 h2 h3)
end
theorem sp_nil (s pos : Int) : SP s pos 0 [] := ⟨rfl, by simp, fun k x h => by simp at h⟩
theorem push_any {s h t : Int} (n : Int) (m : MayP s h t) (hh : h ≤ 100000) (hs : s ≤ 300) : ∃ h' L e, ring_Ring_Push.f 3 s h t n = some (s, h', t, L, e) ∧ MayP s h' t ∧ h ≤ h' ∧ h' ≤ h + 300 ∧ SP s h (h' - h) L ∧ (e = 0 ∨ L = []) := by
  obtain ⟨m1, m2, m3, m4, m5, m6⟩ := m
  have m : MayP s h t := ⟨m1, m2, m3, m4, m5, m6⟩
  by_cases h0 : n < 0 ∨ 1099511627776 - h ≤ n
  · exact ⟨h, [], 1, push_arg m h0 3 (by omega), m, by omega, by omega, by rw [Int.sub_self]; exact sp_nil s h, .inr rfl⟩
  · by_cases h2 : s - (h - t) < n
    · exact ⟨h, [], 32, push_full m (by omega) (by omega) h2 3 (by omega), m, by omega, by omega, by rw [Int.sub_self]; exact sp_nil s h, .inr rfl⟩
    · refine ⟨h + n, spansL s h n, 0, push_ok m (by omega) (by omega) (by omega) 3 (by omega), ⟨m1, m2, m3, by omega, by omega, by omega⟩, by omega, by omega, ?_, .inl rfl⟩
      rw [show h + n - h = n by omega]
      exact sp_spans s h n m1 (by omega) (by omega) (by omega)
theorem pop_any {s h t : Int} (n : Int) (m : MayP s h t) (hh : h ≤ 100000) (hs : s ≤ 300) : ∃ t' L e, ring_Ring_Pop.f 3 s h t n = some (s, h, t', L, e) ∧ MayP s h t' ∧ t ≤ t' ∧ t' ≤ h ∧ SP s t (t' - t) L ∧ (e = 0 ∨ L = []) := by
  obtain ⟨m1, m2, m3, m4, m5, m6⟩ := m
  have m : MayP s h t := ⟨m1, m2, m3, m4, m5, m6⟩
  by_cases h0 : n < 0
  · exact ⟨t, [], 1, pop_arg m h0 3 (by omega), m, by omega, by omega, by rw [Int.sub_self]; exact sp_nil s t, .inr rfl⟩
  · by_cases h2 : h - t < n
    · exact ⟨t, [], 31, pop_range m (by omega) h2 3 (by omega), m, by omega, by omega, by rw [Int.sub_self]; exact sp_nil s t, .inr rfl⟩
    · refine ⟨t + n, spansL s t n, 0, pop_ok m (by omega) (by omega) 3 (by omega), ⟨m1, m2, by omega, by omega, by omega, by omega⟩, by omega, by omega, ?_, .inl rfl⟩
      rw [show t + n - t = n by omega]
      exact sp_spans s t n m1 (by omega) (by omega) (by omega)
end Go.Proofs.Ytkbohbelmgmlnaa.PRingAsks
