/- slices.DeleteFunc at rows with the test that Victims hands in. Conditions: what each theorem says. -/
import Derived.Test.YtcjeegomonegpaaLv5
namespace Go.Proofs.Ytcjeegomonegpaa.PLivePlays
open Go.RowKit Go.Maps Go.Sort Go.Proofs.YtcjeegomonegpaaW.PrintWords Go.Proofs.YtcjeegomonegpaaW.PrintLast Go.Proofs.YtcjeegomonegpaaW.PrintMore
set_option linter.unusedVariables false
set_option linter.unusedSimpArgs false
/-- Victims' test of a row. -/
def dead (pct : Int) (x : S23) : Bool := decide (wrap64 (x.f2 * 100) ≥ wrap64 (pct * x.f1))
set_option maxRecDepth 100000 in
theorem vict1_calls (pct : Int) (Bp : Nat) (x : S23) (W : World) (hB : Boxed W Bp 3 (.int .i64 pct)) :
    Calls Try.prog 41 #[.agg #[.int .i64 x.f0, .int .i64 x.f1, .int .i64 x.f2], .pointer (some ⟨Bp, 0, none⟩)] W fun e w' => e = .returned (.bool (dead pct x)) ∧ Below W.heap.size W w' := by
  have hu3 := Try.underlying3
  have hu23 := Try.underlying23
  unfold dead
  obtain ⟨x0, x1, x2⟩ := x
  simp only
  have h1 := (hB.alloc (.cells #[.int .i64 x0, .int .i64 x1, .int .i64 x2] 23)).cell
  go_enter Try.func41, Try.ntmps41
  go_wp2
  go_ret
  exact ⟨rfl, below_alloc (Below.refl _ _) _⟩
theorem setMany_set (d : List S23) (i : Nat) (x : S23) (hi : i < d.length) : setMany (flatK rowL 3 d.toArray) (i * 3) (rowL x) = flatK rowL 3 (d.set i x).toArray := by
  refine ext_get! (by simp) fun t ht => ?_
  have ht' : t < d.length * 3 := by simpa using ht
  rw [get_setMany _ _ _ t (by simpa using ht'), get_flatK _ _ _ t (by simpa using ht'), get_flatK _ _ _ t (by simpa using ht'), rowL_len]
  have e1 : (d.set i x).toArray[t / 3]! = if t / 3 = i then x else d.toArray[t / 3]! := by
    rw [arr_bang _ _ (by rw [List.length_set]; omega), arr_bang _ _ (by omega), List.getElem_set]
    by_cases e : i = t / 3
    · rw [if_pos e, if_pos e.symm]
    · rw [if_neg e, if_neg (fun h => e h.symm)]
  rw [e1]
  by_cases h : i * 3 ≤ t ∧ t < i * 3 + 3
  · rw [if_pos h, if_pos (by omega), show t - i * 3 = t % 3 by omega]
  · rw [if_neg h, if_neg (by omega)]
theorem holds_set {W : World} {g o : Nat} {d : List S23} {i : Nat} {x : S23} (h : HoldsK rowL 3 W g o d.toArray) (hi : i < d.length) : HoldsK rowL 3 (W.setCells g (o + i * 3) (rowL x)) g o (d.set i x).toArray := by
  have e : W.setCells g (o + i * 3) (rowL x) = putRowK rowL 3 W g o (d.set i x).toArray := by
    conv => lhs; rw [← putRowK_self rowL 3 W g o d.toArray h]
    unfold putRowK
    rw [setCells_putRow _ _ _ _ _ _ (by rw [rowL_len, size_flatK]; simp; omega), setMany_set d i x hi]
  rw [e]
  exact holdsK_putRowK rowL 3 W g o d.toArray _ h (by simp)
theorem holds_grown {W W' : World} {g o : Nat} {d : Array S23} {row : Option Nat} (h : HoldsK rowL 3 W g o d) (hg : W.grownBy W' row) (hgs : g < W.heap.size) (hne : some g ≠ row) : HoldsK rowL 3 W' g o d := by
  intro t ht
  obtain ⟨q1, q2⟩ := h t ht
  have := hg.block g hgs hne
  refine ⟨?_, ?_⟩
  · rw [World.cell?_of_block (a := ⟨g, o + t, none⟩) this]; exact q1
  · rw [World.frozen?_of_block (a := ⟨g, o + t, none⟩) this]; exact q2
theorem holds_below {W W' : World} {g o : Nat} {d : Array S23} (h : HoldsK rowL 3 W g o d) (hb : Below W.heap.size W W') (hgs : g < W.heap.size) : HoldsK rowL 3 W' g o d := holds_grown h (grown_of_below hb none) hgs (by simp)
theorem grown_sets (g : Nat) : ∀ (vs : List Value) (o : Nat) (W : World), W.grownBy (W.setCells g o vs) (some g)
  | [], _, W => ⟨rfl, rfl, rfl, Nat.le_refl _, fun _ _ _ => rfl⟩
  | v :: vs, o, W => grown_trans (grown_set W g o v) (grown_sets g vs (o + 1) _) (fun j hj => .inr hj)
theorem holds_take {W W' : World} {g o : Nat} {d : List S23} {i : Nat} (h : HoldsK rowL 3 W g o d.toArray) (hi : i ≤ d.length) (hc : ∀ t, t < i * 3 → W'.cell? ⟨g, o + t, none⟩ = W.cell? ⟨g, o + t, none⟩ ∧ W'.frozen? ⟨g, o + t, none⟩ = W.frozen? ⟨g, o + t, none⟩) : HoldsK rowL 3 W' g o (d.take i).toArray := by
  refine holdsK_of_cells fun j hj c hc' => ?_
  have hj' : j < i := by
    simp at hj
    omega
  have h1 := h.cell (i := j) (c := c) (by simp; omega) hc'
  have h2 := hc (j * 3 + c) (by omega)
  rw [← Nat.add_assoc] at h2
  rw [h2.1, h2.2, arr_bang _ _ (by simpa using hj), List.getElem_take]
  rw [arr_bang _ _ (by omega)] at h1
  exact h1
theorem three_cells {W : World} {g o : Nat} {d : List S23} {i : Nat} (h : HoldsK rowL 3 W g o d.toArray) (hi : i < d.length) :
    (W.cell? ⟨g, o + i * 3, none⟩ = some (.int .i64 d[i].f0) ∧ W.cell? ⟨g, o + i * 3 + 1, none⟩ = some (.int .i64 d[i].f1) ∧ W.cell? ⟨g, o + i * 3 + 2, none⟩ = some (.int .i64 d[i].f2)) ∧
    W.frozen? ⟨g, o + i * 3, none⟩ = false ∧ W.frozen? ⟨g, o + i * 3 + 1, none⟩ = false ∧ W.frozen? ⟨g, o + i * 3 + 2, none⟩ = false := by
  have h0 := h.cell (i := i) (c := 0) (by simpa using hi) (by omega)
  have h1 := h.cell (i := i) (c := 1) (by simpa using hi) (by omega)
  have h2 := h.cell (i := i) (c := 2) (by simpa using hi) (by omega)
  rw [arr_bang _ _ hi] at h0 h1 h2
  exact ⟨⟨h0.1, h1.1, h2.1⟩, h0.2, h1.2, h2.2⟩
theorem zero23' (w : World) : (zeroValue 23).run Try.prog w = .ok (rowV ⟨0, 0, 0⟩) w := zero23 w
theorem clear_run {W : World} {g o : Nat} {d : List S23} {i cap : Nat} (h : HoldsK rowL 3 W g o d.toArray) (hi : i < d.length) :
    ∃ zs : List Value, ∀ ty, (Builtin.clear_ #[28] ty #[.slice (some ⟨g, o + i * 3, none⟩) (d.length - i) cap]).run Try.prog W = .ok (.tuple #[]) (W.setCells g (o + i * 3) zs) := by
  have hone : ∀ v ∈ (Builtin.zeroCells (rowV ⟨0, 0, 0⟩).cells (d.length - i)).toList, v.oneCell' = true := by
    intro v hv
    simp only [Builtin.zeroCells, rowV, Value.cells] at hv
    simp at hv
    obtain ⟨a, ha, rfl⟩ := hv
    have : a % 3 < 3 := Nat.mod_lt _ (by omega)
    match a % 3, this with
    | 0, _ => rfl
    | 1, _ => rfl
    | 2, _ => rfl
  have hlen : (Builtin.zeroCells (rowV ⟨0, 0, 0⟩).cells (d.length - i)).toList.length = (d.length - i) * 3 := by
    simp [Builtin.zeroCells, rowV, Value.cells, Nat.mul_comm]
  have hat : ∀ j, j < (d.length - i) * 3 → (W.cell? ⟨g, o + i * 3 + j, none⟩).isSome = true ∧ W.frozen? ⟨g, o + i * 3 + j, none⟩ = false := by
    intro j hj
    have h1 := h.cell (i := i + j / 3) (c := j % 3) (by simp; omega) (by omega)
    rw [show o + (i + j / 3) * 3 + j % 3 = o + i * 3 + j by omega] at h1
    rw [h1.1]
    exact ⟨rfl, h1.2⟩
  have hst := run_storeCells_cells (P := Try.prog) g (o + i * 3) (Builtin.zeroCells (rowV ⟨0, 0, 0⟩).cells (d.length - i)).toList 0 W (by rw [hlen]; exact fun j hj => (hat j hj).1) (by rw [hlen]; exact fun j hj => (hat j hj).2) hone
  simp only [Nat.add_zero] at hst
  obtain ⟨m, hm⟩ : ∃ m, d.length - i = m + 1 := ⟨d.length - i - 1, by omega⟩
  refine ⟨(Builtin.zeroCells (rowV ⟨0, 0, 0⟩).cells (d.length - i)).toList, fun ty => ?_⟩
  rw [hm] at hst ⊢
  simp only [rowV] at hst ⊢
  simp [Builtin.clear_, run_underlying Try.underlying28, zero23', rowV, hst]
theorem filter_step {p : S23 → Bool} {l : List S23} {k : Nat} (h : k < l.length) : (l.take (k + 1)).filter p = (l.take k).filter p ++ (if p l[k] then [l[k]] else []) := by
  rw [List.take_add_one, List.getElem?_eq_getElem h, List.filter_append]
  simp only [Option.toList_some]
  by_cases hp : p l[k] = true
  · simp [hp]
  · simp [hp]
set_option maxRecDepth 100000 in
set_option maxHeartbeats 4000000 in
theorem delete_calls (pct : Int) (Bp g o cap : Nat) (l : List S23) (w : World) (hH : HoldsK rowL 3 w g o l.toArray) (hgl : g < w.heap.size) (hne : Bp ≠ g) (hB : Boxed w Bp 3 (.int .i64 pct)) (hl : l.length ≤ 1000000) (hcap : l.length ≤ cap) :
    Calls Try.prog 40 #[.slice (some ⟨g, o, none⟩) l.length cap, .func (.func 41) #[] #[.pointer (some ⟨Bp, 0, none⟩)]] w fun e w' =>
      e = .returned (.slice (some ⟨g, o, none⟩) (l.filter fun x => !dead pct x).length cap) ∧ HoldsK rowL 3 w' g o (l.filter fun x => !dead pct x).toArray ∧ w.grownBy w' (some g) := by
  have hu28 := Try.underlying28
  have hu23 := Try.underlying23
  have hu3 := Try.underlying3
  have HH := Aside0.mk hH
  have HB := Aside0.mk hB
  have HI := index_calls 41 #[.pointer (some ⟨Bp, 0, none⟩)] (dead pct) (some ⟨g, o, none⟩) cap l w (reads_of_holds hH (by omega)) (enters_of Try.func41 (by kernel_rfl) rfl)
    (fun W x hb => vict1_calls pct Bp x W (blk_below hB hb))
  clear hH hB
  cases hf : l.findIdx? (dead pct) with
  | none =>
    have e1 : idxOf (dead pct) l = -1 := by unfold idxOf; rw [hf]
    have e2 : (l.filter fun x => !dead pct x) = l := by
      rw [List.filter_eq_self]
      intro x hx
      rw [List.findIdx?_eq_none_iff.1 hf x hx]
      rfl
    rw [e1] at HI
    rw [e2]
    clear e1 e2
    go_enter Try.func40, Try.ntmps40
    go_wp2_with (fail)
    refine HI.mono ?_
    rintro e w1 ⟨rfl, hb1⟩
    go_wp2_with (fail)
    go_ret
    exact ⟨rfl, holds_below HH.out hb1 hgl, grown_of_below hb1 _⟩
  | some k0 =>
    have e1 : idxOf (dead pct) l = (k0 : Int) := by unfold idxOf; rw [hf]
    obtain ⟨hk0, hd0, hd1⟩ := List.findIdx?_eq_some_iff_getElem.1 hf
    have e3 : (l.take k0).filter (fun x => !dead pct x) = l.take k0 := by
      rw [List.filter_eq_self]
      intro x hx
      obtain ⟨j, hj, rfl⟩ := List.getElem_of_mem hx
      rw [List.getElem_take]
      have := hd1 j (by simp at hj; omega)
      simpa using this
    have HF0 := Aside0.mk (show l.take k0 = (l.take (k0 + 1)).filter fun x => !dead pct x by rw [filter_step hk0, e3, hd0]; simp)
    rw [e1] at HI
    clear e1 e3 hd0 hd1 hf
    have hne1 : ((k0 : Int) == -1) = false := beq_eq_false_iff_ne.2 (by omega)
    go_enter Try.func40, Try.ntmps40
    go_wp2_with (fail)
    refine HI.mono ?_
    rintro e w1 ⟨rfl, hb1⟩
    have HB1 := Aside0.mk (blk_below HB.out hb1)
    have HH1 := Aside0.mk (holds_below HH.out hb1 hgl)
    have HG1 := Aside0.mk (grown_of_below hb1 (some g))
    clear hb1 HI
    go_wp2_with (fail)
    go_loopw [5, 6] (fun v5 v6 wr => ∃ (i k : Nat) (d : List S23), i < k ∧ k ≤ l.length ∧ d.length = l.length ∧ v5 = .int .i64 i ∧ v6 = .int .i64 k ∧ Aside0 (d.take i = (l.take k).filter fun x => !dead pct x) ∧ Aside0 (d.drop k = l.drop k) ∧ Aside0 (HoldsK rowL 3 wr g o d.toArray) ∧ Aside0 (w.grownBy wr (some g))) (fun _ v6 _ => l.length - (intOf v6).toNat)
    case atStart => exact ⟨k0, k0 + 1, l, by omega, by omega, rfl, rfl, by go_num, HF0, ⟨rfl⟩, HH1, HG1⟩
    case round =>
      as_aux_lemma =>
        clear HB1 HH1 HG1 HF0
        obtain ⟨i, k, d, hik, hk, hd, rfl, rfl, HT, HDr, HHd, HG⟩ := hrel
        have HBr := Aside0.mk (HB.out.kept HG.out (fun e => hne (Option.some.inj e)))
        have hgr : g < wr.heap.size := Nat.lt_of_lt_of_le hgl HG.out.size
        by_cases hlt : k < l.length
        · have hk1 : k + 1 ≤ l.length := hlt
          have hkd : k < d.length := by omega
          have hdk : d[k] = l[k] := by
            have h1 := congrArg (fun z => z[0]?) HDr.out
            simp only [List.getElem?_drop, Nat.add_zero] at h1
            rw [List.getElem?_eq_getElem hkd, List.getElem?_eq_getElem hlt] at h1
            exact Option.some.inj h1
          obtain ⟨⟨c0, c1, c2⟩, -⟩ := three_cells HHd.out hkd
          have HX := Aside0.mk (rfl : l[k] = l[k])
          rw [hdk] at c0 c1 c2
          clear hdk HX
          generalize hx : l[k] = x at c0 c1 c2
          have HX := Aside0.mk hx
          clear hx
          obtain ⟨x0, x1, x2⟩ := x
          simp only at c0 c1 c2
          have HBa := HBr.out.alloc (.cells #[.int .i64 x0, .int .i64 x1, .int .i64 x2] 23)
          have hcall := vict1_calls pct Bp ⟨x0, x1, x2⟩ _ HBa
          have HHa := Aside0.mk (holds_below HHd.out (below_alloc (Below.refl _ _) (.cells #[.int .i64 x0, .int .i64 x1, .int .i64 x2] 23)) hgr)
          have HGa := Aside0.mk (grown_trans HG.out (World.grownBy_alloc wr (.cells #[.int .i64 x0, .int .i64 x1, .int .i64 x2] 23) none) (fun j hj => by cases hj))
          have hnew := Aside0.mk (blk_new wr (.cells #[.int .i64 x0, .int .i64 x1, .int .i64 x2] 23))
          clear HBa
          cases hq : dead pct ⟨x0, x1, x2⟩ with
          | true =>
            as_aux_lemma =>
              rw [hq] at hcall
              go_wp2_with (fail)
              refine hcall.mono ?_
              rintro e w2 ⟨rfl, hb2⟩
              have hH2 := Aside0.mk (holds_below HHa.out hb2 (by simp; omega))
              have hG2 := Aside0.mk (grown_trans HGa.out (grown_of_below hb2 none) (fun j hj => by cases hj))
              clear hb2
              go_wp2_with (fail)
              refine ⟨⟨i, k + 1, d, by omega, hk1, hd, rfl, by go_num, ⟨?_⟩, ⟨?_⟩, hH2, hG2⟩, by simp [intOf]; omega⟩
              · rw [filter_step hlt, HX.out, hq]
                simpa using HT.out
              · have := congrArg (List.drop 1) HDr.out
                simpa [List.drop_drop] using this
          | false =>
            as_aux_lemma =>
              rw [hq] at hcall
              go_wp2_with (fail)
              refine hcall.mono ?_
              rintro e w2 ⟨rfl, hb2⟩
              have hH2 := Aside0.mk (holds_below HHa.out hb2 (by simp; omega))
              have hG2 := Aside0.mk (grown_trans HGa.out (grown_of_below hb2 none) (fun j hj => by cases hj))
              have bn := blk_below hnew.out hb2
              have bz := blk_lt bn
              have b0 : w2.cell? ⟨wr.heap.size, 0, none⟩ = some (.int .i64 x0) := (blk_cell bn 0).trans rfl
              have b1 : w2.cell? ⟨wr.heap.size, 1, none⟩ = some (.int .i64 x1) := (blk_cell bn 1).trans rfl
              have b2 : w2.cell? ⟨wr.heap.size, 2, none⟩ = some (.int .i64 x2) := (blk_cell bn 2).trans rfl
              obtain ⟨⟨q0, q1, q2⟩, f0, f1, f2⟩ := three_cells hH2.out (i := i) (by omega)
              clear hb2 bn
              go_wp2_with (fail)
              have hset := holds_set (x := ⟨x0, x1, x2⟩) hH2.out (i := i) (by omega)
              have hgs := grown_trans hG2.out (grown_sets g (rowL ⟨x0, x1, x2⟩) (o + i * 3) w2) (fun j hj => .inr hj)
              simp only [rowL, World.setCells] at hgs
              have eW : w2.setCells g (o + i * 3) (rowL ⟨x0, x1, x2⟩) = ((w2.setCell ⟨g, o + i * 3, none⟩ (.int .i64 x0)).setCell ⟨g, o + i * 3 + 1, none⟩ (.int .i64 x1)).setCell ⟨g, o + i * 3 + 1 + 1, none⟩ (.int .i64 x2) := rfl
              rw [eW] at hset
              rw [show o + i * 3 + 1 + 1 = o + i * 3 + 2 by omega] at hset hgs
              refine ⟨⟨i + 1, k + 1, d.set i ⟨x0, x1, x2⟩, by omega, hk1, by simp [hd], by go_num, by go_num, ⟨?_⟩, ⟨?_⟩, ⟨hset⟩, ⟨hgs⟩⟩, by simp [intOf]; omega⟩
              · rw [filter_step hlt, HX.out, hq, List.take_add_one, List.getElem?_set_self (by omega), List.take_set_of_le (by omega), HT.out]
                simp
              · rw [List.drop_set_of_lt (by omega)]
                have := congrArg (List.drop 1) HDr.out
                simpa [List.drop_drop] using this
        · have : k = l.length := by omega
          subst this
          obtain ⟨zs, hzs⟩ := clear_run (cap := cap - i) HHd.out (i := i) (by omega)
          rw [hd] at hzs
          go_wp2_with (fail)
          go_ret
          have e : (l.filter fun x => !dead pct x) = d.take i := by rw [HT.out, List.take_length]
          rw [e]
          have e2 : (d.take i).length = i := by rw [List.length_take]; omega
          rw [e2]
          exact ⟨rfl, holds_take HHd.out (by omega) (fun t ht => ⟨World.cell?_setCells_out g zs (o + i * 3) wr ⟨g, o + t, none⟩ (fun _ _ => Or.inl (by simp; omega)), World.frozen?_setCells g zs (o + i * 3) wr ⟨g, o + t, none⟩⟩), grown_trans HG.out (grown_sets g zs (o + i * 3) wr) (fun j hj => .inr hj)⟩
end Go.Proofs.Ytcjeegomonegpaa.PLivePlays
