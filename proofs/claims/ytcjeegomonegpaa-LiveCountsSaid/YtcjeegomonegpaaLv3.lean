/- maps.Values at rows, and slices.AppendSeq and Collect of it: told once. Conditions: what each theorem says. -/
import Derived.Test.YtcjeegomonegpaaLv2
import Derived.RangeFuncNested
import Derived.RangeFuncBound
import Derived.RangeFuncCalls
import Derived.RangeFuncLeaves
import Derived.RangeFuncBox
import Derived.Shelf.AbstractIn
import Derived.OwnWalkIn
import Derived.TacticsInMore
import Derived.LoopNIn
import Derived.LoopIn
import Derived.RegionIn
import Derived.Sort.MapsRangeIn
import Derived.Maps.AppendAt
import Derived.Maps.RangeWalk
namespace Go.Proofs.Ytcjeegomonegpaa.PLivePlays
open Go.RowKit Go.Maps Go.Shelf Go.Proofs.YtcjeegomonegpaaW.PrintWords Go.Proofs.YtcjeegomonegpaaW.PrintLast Go.Proofs.YtcjeegomonegpaaW.PrintMore
attribute [local go_sem] Oper.semAt_some
set_option linter.unusedVariables false
set_option linter.unusedSimpArgs false
/-- Which rows have come, and which are left. -/
def Came (T : List S23) (left : Lit → Bool) (ps : List S23) : Prop :=
  ps.Nodup ∧ (∀ x ∈ ps, x ∈ T ∧ left (.int .i64 x.f0) = false) ∧ (∀ x ∈ T, left (.int .i64 x.f0) = true ∨ x ∈ ps) ∧ ∀ kl, left kl = true → ∃ x ∈ T, kl = .int .i64 x.f0
theorem Came.start {D : DataW Unit} {T : List S23} (h : MapOf D T) : Came T (Maps.has D) [] :=
  ⟨List.nodup_nil, by simp, fun x hx => .inl ((h.2.2.1 _).2 ⟨x, hx, rfl⟩), fun kl hk => (h.2.2.1 kl).1 hk⟩
theorem sorted_inj {T : List S23} (hT : T.Pairwise (fun x y => x.f0 < y.f0)) {x y : S23} (hx : x ∈ T) (hy : y ∈ T) (e : x.f0 = y.f0) : x = y := by
  induction T with
  | nil => simp at hx
  | cons z T ih =>
    obtain ⟨h1, h2⟩ := List.pairwise_cons.1 hT
    rcases List.mem_cons.1 hx with e1 | hx
    · rcases List.mem_cons.1 hy with e2 | hy
      · exact e1.trans e2.symm
      · have := h1 y hy
        rw [e1] at e
        omega
    · rcases List.mem_cons.1 hy with e2 | hy
      · have := h1 x hx
        rw [e2] at e
        omega
      · exact ih h2 hx hy
theorem Came.step {T : List S23} (hT : T.Pairwise (fun x y => x.f0 < y.f0)) {left : Lit → Bool} {ps : List S23} {x : S23} (h : Came T left ps) (hx : x ∈ T) (hl : left (.int .i64 x.f0) = true) : Came T (fun z => left z && !z.sameKey (.int .i64 x.f0)) (ps ++ [x]) := by
  obtain ⟨h1, h2, h3, h4⟩ := h
  have self : (Lit.int .i64 x.f0).sameKey (.int .i64 x.f0) = true := by simp [Lit.sameKey]
  refine ⟨?_, fun z hz => ?_, fun z hz => ?_, fun kl hk => h4 kl (by simp at hk; exact hk.1)⟩
  · refine List.nodup_append.2 ⟨h1, by simp, ?_⟩
    intro a ha b hb e
    simp at hb
    subst hb; subst e
    rw [(h2 a ha).2] at hl
    cases hl
  · rcases List.mem_append.1 hz with hz | hz
    · exact ⟨(h2 z hz).1, by simp [(h2 z hz).2]⟩
    · simp at hz
      subst hz
      exact ⟨hx, by simp [self]⟩
  · by_cases e : z = x
    · exact .inr (by simp [e])
    · have hne : z.f0 ≠ x.f0 := fun e' => e (sorted_inj hT hz hx e')
      rcases h3 z hz with h | h
      · refine .inl ?_
        simp [h, Lit.sameKey, hne]
      · exact .inr (by simp [h])
theorem Came.perm {T : List S23} (hT : T.Pairwise (fun x y => x.f0 < y.f0)) {left : Lit → Bool} {ps : List S23} (h : Came T left ps) (hl : ∀ kl, left kl = false) : ps.Perm T := by
  have hT' : T.Nodup := hT.imp (fun h e => by rw [e] at h; omega)
  refine (List.perm_ext_iff_of_nodup h.1 hT').2 fun x => ⟨fun hx => (h.2.1 x hx).1, fun hx => ?_⟩
  rcases h.2.2.1 x hx with h | h
  · rw [hl] at h
    cases h
  · exact h
theorem val_calls (F : Fence) (n : Nat) (hf : F.fn 46) (hro : F.round = none) (mb : Option Nat) (w : World) :
    CallsIn F n Try.prog 46 #[.map mb] w fun e w' => e = .returned (.func (.func 63) #[] #[.pointer (some ⟨w.heap.size, 0, none⟩)]) ∧ w' = w.alloc (.cells #[.map mb] 77) := by
  have hu77 := Try.underlying77
  refine callsIn_of_wp Try.func46 rfl hf ?_ hro
  simp only [Try.ntmps46, List.size_toArray, List.length_cons, List.length_nil, Nat.reduceAdd, Nat.reduceSub, Array.replicate_succ, Array.replicate_zero, List.push_toArray, List.append_toArray, List.nil_append, List.cons_append]
  gi_wp2
  go_ret
  exact ⟨rfl, rfl⟩
set_option maxRecDepth 100000 in
set_option maxHeartbeats 2000000 in
/-- The iterator over a map's rows, for every loop body that leaves maps and iterators alone. -/
theorem values_in (F : Fence) (n : Nat) (h8 : F.fn 63) (hro : F.round = none) (hn : 1 ≤ n) (l Bm b N : Nat) (T : List S23) (J Jx : List S23 → World → Prop)
    (hY : ∀ pre x W, J pre W → pre.length < N → YieldAt F (n - 1) Try.prog l #[rowV x] W fun e W' =>
      (e = .returned (.bool true) ∧ J (pre ++ [x]) W' ∧ KeepsWalks W W') ∨ (e = .returned (.bool false) ∧ Jx (pre ++ [x]) W'))
    (W : World) (hJ : AbidesFrom W.heap.size J) (hm : W.cell? ⟨Bm, 0, none⟩ = some (.map (some b))) (hT : TMap W b N T) (h0 : J [] W) :
    CallsIn F n Try.prog 63 #[.func (.yield l) #[] #[], .pointer (some ⟨Bm, 0, none⟩)] W fun e W' => (∃ v, e = .returned v) ∧
      ((∃ xs, xs.Perm T ∧ J xs W') ∨ (∃ pre, True ∧ Jx pre W')) := by
  obtain ⟨hTN, D, hown, hD⟩ := hT
  have hu77 := Try.underlying77
  have hu23 := Try.underlying23
  have hu28 := Try.underlying28
  refine callsIn_of_wp Try.func63 rfl h8 ?_ hro
  simp only [Try.ntmps63, List.size_toArray, List.length_cons, List.length_nil, Nat.reduceAdd, Nat.reduceSub, Array.replicate_succ, Array.replicate_zero, List.push_toArray, List.append_toArray, List.nil_append, List.cons_append]
  have HD := Aside0.mk hD
  have HO := Aside0.mk hown
  clear hD
  gi_wp2_with (first
    | (gi_at_range; refine wpListIn_range_own _ rfl _ 77 rfl 3 23 keyed3 Try.underlying77 _ b N _ rfl hown ?_; intro w0 hrg0 hg0 hs0)
    | gi_in)
  go_frame
  gi_loopw [4] (fun _ wr => ∃ (left : Lit → Bool) (cnt : Nat) (ps : List S23), wr.ranges Try.prog 3 rowR b W.heap.size N D left cnt ∧ ps.length + cnt ≤ N ∧ Came T left ps ∧ J ps wr)
    (fun _ wr => wr.rangeLeft b W.heap.size)
  case atStart =>
    exact ⟨_, _, [], hrg0, by simpa using HO.out.size_le, Came.start HD.out, hJ [] W w0 none h0 hg0 (fun r e => by cases e)⟩
  case round =>
    obtain ⟨left, cnt, ps, hrg, hcs, hC, hJs⟩ := hrel
    clear hown
    gi_wp2_with (first
      | (gi_at_next; refine wpListIn_next_ranges _ rfl _ rfl 3 keyed3 rowR (Value.int .i64) rowV (fun key kl hk => by obtain ⟨x, hx, _⟩ := Maps.keyOf_int_inv Try.underlying3 hk; exact ⟨x, hx⟩) (fun v y hv => by obtain ⟨c, rfl, _⟩ := rowR_inv hv; exact ⟨c, rfl⟩) b W.heap.size N _ _ _ rfl hrg ?_ ?_)
      | gi_in)
    · intro hc0 hl0
      gi_wp2
      go_end0
      exact ⟨⟨_, rfl⟩, .inl ⟨ps, hC.perm HD.out.1 hl0, hJs⟩⟩
    · intro k c kl yd yp w2 cnt2 hkey hlk hv hat hrg2 hlt hg2 hs2 hen
      obtain ⟨k', ek, rfl, _⟩ := Maps.keyOf_int_inv Try.underlying3 hkey
      obtain rfl : k = k' := by simpa using ek
      obtain ⟨x, hx, ex⟩ := hC.2.2.2 _ hlk
      injection ex with _ ex
      subst ex
      have hcx : x = c := by
        rw [rowR_mk] at hv
        have h1 := (Prod.mk.inj (Option.some.inj hv)).1
        refine rowD_inj ?_
        rw [← HD.out.2.2.2 x hx (rowD x), hat, h1]
      subst hcx
      have hC2 := hC.step HD.out.1 hx hlk
      have hJ2 : J ps w2 := hJ ps wr w2 (some W.heap.size) hJs hg2 (fun r e => by cases e; exact ⟨Nat.le_refl _, hrg.iter_walk⟩)
      have hcnt : ps.length < N := by omega
      have HC2 := Aside0.mk hC2
      have HL := Aside0.mk hrg.left_eq
      clear hs2 hC2 hC hrg hkey hv hat hlk hx
      obtain ⟨x0, x1, x2⟩ := x
      simp only [rowV] at hen
      have hJ3 : J ps (w2.alloc (.cells #[.int .i64 x0, .int .i64 x1, .int .i64 x2] 23)) := hJ ps w2 _ none hJ2 (World.grownBy_alloc w2 _ none) (fun r e => by cases e)
      have hrg3 := hrg2.alloc (.cells #[.int .i64 x0, .int .i64 x1, .int .i64 x2] 23)
      obtain ⟨fn, tmps, assign, body, hy, hR⟩ := hY ps ⟨x0, x1, x2⟩ _ hJ3 hcnt
      simp only [rowV] at hy
      gi_wp2
      refine hR.mono ?_
      rintro e W3 (⟨rfl, hJ4, hk4⟩ | ⟨rfl, hJx4⟩)
      · gi_wp2
        have hrg4 := hrg3.of_walks hk4
        go_roundw
        case rel => exact ⟨_, cnt2, ps ++ [⟨x0, x1, x2⟩], hrg4, by simp; omega, HC2.out, hJ4⟩
        case measure => rw [hrg4.left_eq, HL.out]; exact hlt
      · gi_wp2
        refine bodyPost_ret (results_none rfl _ _ _) rfl ?_
        exact ⟨⟨_, rfl⟩, .inr ⟨ps ++ [⟨x0, x1, x2⟩], trivial, hJx4⟩⟩
theorem values_stops (F : Fence) (n : Nat) (h8 : F.fn 63) (hro : F.round = none) (hn : 1 ≤ n) (Bm b N : Nat) (T : List S23) (w : World) (hBm : Bm < w.heap.size) (hm : w.cell? ⟨Bm, 0, none⟩ = some (.map (some b))) (hT : TMap w b N T) :
    SeqStops F n Try.prog 63 #[.pointer (some ⟨Bm, 0, none⟩)] rowV (fun xs => xs.Perm T) (fun _ => True) N w := fun l J Jx W hW hJ _ hY h0 =>
  values_in F n h8 hro hn l Bm b N T J Jx hY W hJ ((hW.cell (p := ⟨Bm, 0, none⟩) hBm).trans hm) (hT.below hW) h0
/-- A row of cells that holds a row. -/
def RowBox (W : World) (B : Nat) (x : S23) : Prop := W.heap[B]? = some (.cells #[.int .i64 x.f0, .int .i64 x.f1, .int .i64 x.f2] 23 (0, 0))
def flatR (l : List S23) : List Value := l.flatMap rowL
theorem flatR_snoc (l : List S23) (x : S23) : flatR (l ++ [x]) = flatR l ++ rowL x := by simp [flatR]
theorem rowBox_own (B0 B : Nat) (f : S23) : OwnFrom B0 (fun (_ : Unit) W => RowBox W B f) := fun _ X Y row h hg hr => by
  refine (hg.block B (blk_lt h) (fun e => ?_)).trans h
  obtain ⟨_, o, ho, hc⟩ := hr B e.symm
  rw [show X.heap[B]? = _ from h] at ho
  cases ho
  cases hc
theorem info23 : (Try.prog.info? 23).map (fun i => (i.zero, i.size, i.bytes)) = some (some (rowV ⟨0, 0, 0⟩), 3, 24) := by kernel_rfl
theorem new_row (w : World) (x : S23) : ∀ j u, (rowL x)[j]? = some u → (w.alloc (.cells #[.int .i64 x.f0, .int .i64 x.f1, .int .i64 x.f2] 23)).cell? ((⟨w.heap.size, 0, none⟩ : Addr).add j) = some u := by
  intro j u hj
  have h := blk_new w (.cells #[.int .i64 x.f0, .int .i64 x.f1, .int .i64 x.f2] 23)
  have hjl : j < 3 := by
    have := (List.getElem?_eq_some_iff.1 hj).1
    simpa [rowL] using this
  have e : (⟨w.heap.size, 0, none⟩ : Addr).add j = ⟨w.heap.size, j, none⟩ := by unfold Addr.add; split <;> simp
  rw [e, blk_cell h, ← hj]
  match j, hjl with
  | 0, _ => rfl
  | 1, _ => rfl
  | 2, _ => rfl
set_option maxRecDepth 100000 in
set_option maxHeartbeats 2000000 in
theorem appendseq_in (F : Fence) (n : Nat) (h79 : F.fn 79) (hro : F.round = none) (hn : 2 ≤ n) (gf : Nat) (lb : Array Value) (hFg : F.fn gf) (eg : ∀ args w, (callFunc gf args).run Try.prog w = .ok (.enter gf args) w)
    (S : List S23 → Prop) (N : Nat) (hN : N ≤ 1000000) (w : World) (hseq : SeqStops F (n - 1) Try.prog gf lb rowV S (fun _ => True) N w) :
    CallsIn F n Try.prog 79 #[.slice none 0 0, .func (.func gf) #[] lb] w fun e w' => ∃ xs v, e = .returned v ∧ S xs ∧ w'.ownsRow w.heap.size 23 3 v xs.length (flatR xs) ∧ Below w.heap.size w w' := by
  have h1 : 1 ≤ n := by omega
  have hu28 := Try.underlying28
  have hu23 := Try.underlying23
  refine callsIn_of_wp_marks Try.func79 rfl h79 ?_ hro
  simp only [Try.ntmps79, List.size_toArray, List.length_cons, List.length_nil, Nat.reduceAdd, Nat.reduceSub, Array.replicate_succ, Array.replicate_zero, List.push_toArray, List.append_toArray, List.nil_append, List.cons_append]
  gi_wp2
  refine wpIn_rangeFunc_ownH hro h1 (gf := gf) (lb := lb) rfl hFg eg
    hseq walksK_t walksK_b (below_alloc (Below.refl _ w) _) (fun _ => rfl)
    (fun pre W => (∃ v, Boxed W w.heap.size 28 v ∧ W.ownsRow w.heap.size 23 3 v pre.length (flatR pre) ∧ True) ∧ Below w.heap.size w W)
    (fun _ _ _ => False)
    (OwnFrom.and (Own.from (holdsRow_own w.heap.size w.heap.size 28 23 3 (fun pre => pre.length) flatR (fun _ _ => True)) _) (ownFrom_below (Nat.le_refl _) (by simp)))
    (fun _ _ _ _ _ hs _ _ => hs)
    ⟨⟨_, Boxed.new w 28 _, World.ownsRow_nil _ _ _ _, trivial⟩, below_alloc (Below.refl _ w) _⟩
    (fun x a' W => ∃ Bx, w.heap.size < Bx ∧ RowBox W Bx x ∧ a' = { tmps := #[.slice none 0 0, .func (.func gf) #[] lb, .pointer (some ⟨w.heap.size, 0, none⟩), undef, .slice none 0 0, .pointer (some ⟨Bx, 0, none⟩), .func (.func gf) #[] lb, rowV x, undef, undef, undef, undef, undef], defers := [] })
    (fun x a' s X Y row ⟨Bx, hBx, hb, ha⟩ hg hr => ⟨Bx, hBx, rowBox_own _ Bx x () X Y row hb hg hr, ha⟩) ?assign ?body ?done ?stop
  case assign =>
    intro l pre x W K hi hK
    obtain ⟨x0, x1, x2⟩ := x
    obtain ⟨⟨v, hv, hrow, -⟩, hB⟩ := hi
    simp only [rowV] at hK ⊢
    gi_wp2
    exact hK _ _ ((KeepsOthers.alloc _ _).from _) (KeepsOthers.alloc _ _).walks ⟨⟨v, hv.alloc _, hrow.alloc _, trivial⟩, below_alloc hB _⟩ ⟨W.heap.size, hv.lt, blk_new W _, rfl⟩
  case body =>
    rintro l pre x a' W hl ⟨r, hr⟩ ⟨⟨v, hv, hrow, -⟩, hB⟩ ⟨Bx, hBx, bX, rfl⟩ hlt
    obtain ⟨x0, x1, x2⟩ := x
    obtain ⟨i0, hi, hz0, hz1, hz2⟩ := info_parts info23
    have hvc := hv.cell
    have hvf := hv.frozen
    have b0 : W.cell? ⟨Bx, 0, none⟩ = some (.int .i64 x0) := (blk_cell bX 0).trans rfl
    have b1 : W.cell? ⟨Bx, 1, none⟩ = some (.int .i64 x1) := (blk_cell bX 1).trans rfl
    have b2 : W.cell? ⟨Bx, 2, none⟩ = some (.int .i64 x2) := (blk_cell bX 2).trans rfl
    have hnews := new_row W ⟨x0, x1, x2⟩
    gi_wp2_with (gi_at_builtin; refine wpListIn_append_own _ rfl _ _ 28 rfl w.heap.size 23 i0 (rowV ⟨0, 0, 0⟩) 3 24 Try.underlying28 hi hz0 hz1 hz2 rfl (by decide) _ _ _ rfl (hrow.alloc _) ⟨W.heap.size, 0, none⟩ 1 1 (rowL ⟨x0, x1, x2⟩) rfl rfl hnews (by simp [rowL, Value.oneCell']) (by unfold maxLen; omega) (by omega) (by have := hB.size; simp; omega) ?_; intro v' w1 hown' hgrow _; obtain ⟨g', cap', rfl⟩ := ownsRow_succ hown'; obtain ⟨hv1, hv2, hr2, hk2, hb2⟩ := hv.appended (by decide) hrow hB.size (Nat.le_refl _) hown' hgrow; have hc1 := hv1.cell; have hf1 := hv1.frozen)
    exact ⟨hk2.from _, hk2.walks, ⟨⟨_, hv2, by rw [List.length_append, flatR_snoc]; exact hr2⟩, hB.trans hb2⟩⟩
  case done =>
    rintro D xs W hD hS ⟨⟨v, hv, hrow, -⟩, hB⟩ hK
    have hvc := hv.cell
    gi_wp2
    refine ⟨by simp, .inl ⟨_, _, rfl, run_takeDeferred hK, ?_⟩⟩
    exact ⟨_, results_tmp rfl _ _ _, xs, v, rfl, hS, ownsRow_putObj hrow _ hK rfl, hB.trans (belowK_b (w := w) (Nat.le_refl _) W D _ _ (by simp at hD; omega) hK rfl rfl)⟩
  case stop =>
    rintro D c pre W hD _ h _
    exact h.elim
set_option maxHeartbeats 1000000 in
theorem collect_in (F : Fence) (n : Nat) (h62 : F.fn 62) (h79 : F.fn 79) (hro : F.round = none) (hn : 3 ≤ n) (gf : Nat) (lb : Array Value) (hFg : F.fn gf) (eg : ∀ args w, (callFunc gf args).run Try.prog w = .ok (.enter gf args) w)
    (S : List S23 → Prop) (N : Nat) (hN : N ≤ 1000000) (w : World) (hseq : SeqStops F (n - 1 - 1) Try.prog gf lb rowV S (fun _ => True) N w) :
    CallsIn F n Try.prog 62 #[.func (.func gf) #[] lb] w fun e w' => ∃ xs v, e = .returned v ∧ S xs ∧ w'.ownsRow w.heap.size 23 3 v xs.length (flatR xs) ∧ Below w.heap.size w w' := by
  have H := appendseq_in F (n - 1) h79 hro (by omega) gf lb hFg eg S N hN w hseq
  clear hseq
  have h1 : 1 ≤ n := by omega
  refine callsIn_of_wp Try.func62 rfl h62 ?_ hro
  simp only [Try.ntmps62, List.size_toArray, List.length_cons, List.length_nil, Nat.reduceAdd, Nat.reduceSub, Array.replicate_succ, Array.replicate_zero, List.push_toArray, List.append_toArray, List.nil_append, List.cons_append]
  gi_wp2_with (gi_at_call 79; refine H.mono ?_; rintro e w' ⟨xs, v, rfl, h2, h3, h4⟩)
  go_ret
  exact ⟨xs, _, rfl, h2, h3, h4⟩
/-- slices.Collect of a map's rows: all of them, in some order. -/
theorem collect_calls (b N : Nat) (hN : N ≤ 1000000) (T : List S23) (w : World) (Bm : Nat) (hm : w.heap[Bm]? = some (.cells #[.map (some b)] 77 (0, 0))) (hT : TMap w b N T) :
    Calls Try.prog 62 #[.func (.func 63) #[] #[.pointer (some ⟨Bm, 0, none⟩)]] w fun e w' => ∃ xs v, e = .returned v ∧ xs.Perm T ∧ w'.ownsRow w.heap.size 23 3 v xs.length (flatR xs) ∧ Below w.heap.size w w' :=
  (callsIn_wide (n := 5)).1 (collect_in Fence.wide 5 trivial trivial rfl (by omega) 63 _ trivial (enters_of Try.func63 (by kernel_rfl) rfl) (fun xs => xs.Perm T) N hN w
    (values_stops Fence.wide 3 trivial rfl (by omega) Bm b N T w (blk_lt hm) ((blk_cell hm 0).trans rfl) hT))
theorem val_plain (mb : Option Nat) (w : World) : Calls Try.prog 46 #[.map mb] w fun e w' => e = .returned (.func (.func 63) #[] #[.pointer (some ⟨w.heap.size, 0, none⟩)]) ∧ w' = w.alloc (.cells #[.map mb] 77) :=
  (callsIn_wide (n := 5)).1 (val_calls Fence.wide 5 trivial rfl mb w)
end Go.Proofs.Ytcjeegomonegpaa.PLivePlays
