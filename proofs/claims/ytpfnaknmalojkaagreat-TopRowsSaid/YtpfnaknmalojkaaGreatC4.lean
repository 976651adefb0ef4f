/- YtpfnaknmalojkaaGreatC4: what this claim rests on. Words and contracts are those of the kit's print (print.sh wrote them, those that nothing here reaches are left out); all else is own work. Conditions: what each theorem says. -/
import Derived.Test.YtpfnaknmalojkaaGreatC3
import Derived.RangeFuncNested
import Derived.RangeFuncBound
import Derived.RangeFuncCalls
import Derived.RangeFuncLeaves
import Derived.RangeFuncBox
import Derived.Shelf.AbstractIn
import Derived.OwnWalkIn
import Derived.TacticsInMore
import Derived.LoopNIn
import Derived.LoopIn
import Derived.RegionIn
import Derived.Sort.MapsRangeIn
import Derived.Maps.AppendAt
import Derived.Maps.RangeWalk
import Derived.Shelf.SlSortCmp.InsertionK
import Derived.Shelf.Strings.Builder1
import Derived.Shelf.Small.Bits
import Derived.Shelf.SlLaysF0
import Derived.Shelf.SlLaysZI
import Derived.Shelf.SlLaysM
import Derived.Test.YtpfnaknmalojkaaGreatProg
import Derived.Shelf.SlSortCmp.WholeK
import Derived.Shelf.SlSortCmp.NoneTotal
import Derived.IntWalk
namespace Go.Proofs.YtpfnaknmalojkaaGreat.PTopRows
open Go.RowKit Go.Maps Go.Shelf Go.Proofs.YtpfnaknmalojkaaGreatW.PrintWords Go.Proofs.YtpfnaknmalojkaaGreatW.PrintLast Go.Proofs.YtpfnaknmalojkaaGreatW.PrintMore
attribute [local go_sem] Oper.semAt_some
set_option linter.unusedVariables false
set_option linter.unusedSimpArgs false
def Came (T : List S51) (left : Lit → Bool) (ps : List S51) : Prop :=
 ps.Nodup ∧ (∀ x ∈ ps, x ∈ T ∧ left (.int .i64 x.f0) = false) ∧ (∀ x ∈ T, left (.int .i64 x.f0) = true ∨ x ∈ ps) ∧ ∀ kl, left kl = true → ∃ x ∈ T, kl = .int .i64 x.f0
theorem Came.start {D : DataW Unit} {T : List S51} (h : MapOf D T) : Came T (Maps.has D) [] :=
 ⟨List.nodup_nil, by simp, fun x hx => .inl ((h.2.2.1 _).2 ⟨x, hx, rfl⟩), fun kl hk => (h.2.2.1 kl).1 hk⟩
theorem sorted_inj {T : List S51} (hT : T.Pairwise (fun x y => x.f0 < y.f0)) {x y : S51} (hx : x ∈ T) (hy : y ∈ T) (e : x.f0 = y.f0) : x = y := by
 induction T with
 | nil => simp at hx
 | cons z T ih =>
  obtain ⟨h1, h2⟩ := List.pairwise_cons.1 hT
  rcases List.mem_cons.1 hx with e1 | hx
  ·rcases List.mem_cons.1 hy with e2 | hy
   ·exact e1.trans e2.symm
   ·have := h1 y hy
    rw [e1] at e
    omega
  ·rcases List.mem_cons.1 hy with e2 | hy
   ·have := h1 x hx
    rw [e2] at e
    omega
   ·exact ih h2 hx hy
theorem Came.step {T : List S51} (hT : T.Pairwise (fun x y => x.f0 < y.f0)) {left : Lit → Bool} {ps : List S51} {x : S51} (h : Came T left ps) (hx : x ∈ T) (hl : left (.int .i64 x.f0) = true) : Came T (fun z => left z && !z.sameKey (.int .i64 x.f0)) (ps ++ [x]) := by
 obtain ⟨h1, h2, h3, h4⟩ := h
 have self : (Lit.int .i64 x.f0).sameKey (.int .i64 x.f0) = true := by simp [Lit.sameKey]
 refine ⟨?_, fun z hz => ?_, fun z hz => ?_, fun kl hk => h4 kl (by simp at hk; exact hk.1)⟩
 ·refine List.nodup_append.2 ⟨h1, by simp, ?_⟩
  intro a ha b hb e
  simp at hb
  subst hb; subst e
  rw [(h2 a ha).2] at hl
  cases hl
 ·rcases List.mem_append.1 hz with hz | hz
  ·exact ⟨(h2 z hz).1, by simp [(h2 z hz).2]⟩
  ·simp at hz
   subst hz
   exact ⟨hx, by simp [self]⟩
 ·by_cases e : z = x
  ·exact .inr (by simp [e])
  ·have hne : z.f0 ≠ x.f0 := fun e' => e (sorted_inj hT hz hx e')
   rcases h3 z hz with h | h
   ·refine .inl ?_
    simp [h, Lit.sameKey, hne]
   ·exact .inr (by simp [h])
theorem Came.perm {T : List S51} (hT : T.Pairwise (fun x y => x.f0 < y.f0)) {left : Lit → Bool} {ps : List S51} (h : Came T left ps) (hl : ∀ kl, left kl = false) : ps.Perm T := by
 have hT' : T.Nodup := hT.imp (fun h e => by rw [e] at h; omega)
 refine (List.perm_ext_iff_of_nodup h.1 hT').2 fun x => ⟨fun hx => (h.2.1 x hx).1, fun hx => ?_⟩
 rcases h.2.2.1 x hx with h | h
 ·rw [hl] at h
  cases h
 ·exact h
theorem val_calls (F : Fence) (n : Nat) (hf : F.fn 48) (hro : F.round = none) (mb : Option Nat) (w : World) :
  CallsIn F n Tryz.prog 48 #[.map mb] w fun e w' => e = .returned (.func (.func 98) #[] #[.pointer (some ⟨w.heap.size, 0, none⟩)]) ∧ w' = w.alloc (.cells #[.map mb] 73) := by
 have hu73 := Tryz.underlying73
 refine callsIn_of_wp Tryz.func48 rfl hf ?_ hro
 simp only [Tryz.ntmps48, List.size_toArray, List.length_cons, List.length_nil, Nat.reduceAdd, Nat.reduceSub, Array.replicate_succ, Array.replicate_zero, List.push_toArray, List.append_toArray, List.nil_append, List.cons_append]
 gi_wp2
 go_ret
 exact ⟨rfl, rfl⟩
set_option maxRecDepth 100000 in
set_option maxHeartbeats 2000000 in
theorem values_in (F : Fence) (n : Nat) (h8 : F.fn 98) (hro : F.round = none) (hn : 1 ≤ n) (l Bm b N : Nat) (T : List S51) (J Jx : List S51 → World → Prop)
  (hY : ∀ pre x W, J pre W → pre.length < N → YieldAt F (n - 1) Tryz.prog l #[rowV x] W fun e W' =>
   (e = .returned (.bool true) ∧ J (pre ++ [x]) W' ∧ KeepsWalks W W') ∨ (e = .returned (.bool false) ∧ Jx (pre ++ [x]) W'))
  (W : World) (hJ : AbidesFrom W.heap.size J) (hm : W.cell? ⟨Bm, 0, none⟩ = some (.map (some b))) (hT : TMap W b N T) (h0 : J [] W) :
  CallsIn F n Tryz.prog 98 #[.func (.yield l) #[] #[], .pointer (some ⟨Bm, 0, none⟩)] W fun e W' => (∃ v, e = .returned v) ∧
   ((∃ xs, xs.Perm T ∧ J xs W') ∨ (∃ pre, True ∧ Jx pre W')) := by
 obtain ⟨hTN, D, hown, hD⟩ := hT
 have hu73 := Tryz.underlying73
 have hu51 := Tryz.underlying51
 have hu32 := Tryz.underlying32
 refine callsIn_of_wp Tryz.func98 rfl h8 ?_ hro
 simp only [Tryz.ntmps98, List.size_toArray, List.length_cons, List.length_nil, Nat.reduceAdd, Nat.reduceSub, Array.replicate_succ, Array.replicate_zero, List.push_toArray, List.append_toArray, List.nil_append, List.cons_append]
 have HD := Aside0.mk hD
 have HO := Aside0.mk hown
 clear hD
 gi_wp2_with (first
  | (gi_at_range; refine wpListIn_range_own _ rfl _ 73 rfl 3 51 keyed3 Tryz.underlying73 _ b N _ rfl hown ?_; intro w0 hrg0 hg0 hs0)
  | gi_in)
 go_frame
 gi_loopw [4] (fun _ wr => ∃ (left : Lit → Bool) (cnt : Nat) (ps : List S51), wr.ranges Tryz.prog 3 rowR b W.heap.size N D left cnt ∧ ps.length + cnt ≤ N ∧ Came T left ps ∧ J ps wr)
  (fun _ wr => wr.rangeLeft b W.heap.size)
 case atStart =>
  exact ⟨_, _, [], hrg0, by simpa using HO.out.size_le, Came.start HD.out, hJ [] W w0 none h0 hg0 (fun r e => by cases e)⟩
 case round =>
  obtain ⟨left, cnt, ps, hrg, hcs, hC, hJs⟩ := hrel
  clear hown
  gi_wp2_with (first
   | (gi_at_next; refine wpListIn_next_ranges _ rfl _ rfl 3 keyed3 rowR (Value.int .i64) rowV (fun key kl hk => by obtain ⟨x, hx, _⟩ := Maps.keyOf_int_inv Tryz.underlying3 hk; exact ⟨x, hx⟩) (fun v y hv => by obtain ⟨c, rfl, _⟩ := ZcF hv; exact ⟨c, rfl⟩) b W.heap.size N _ _ _ rfl hrg ?_ ?_)
   | gi_in)
  ·intro hc0 hl0
   gi_wp2
   go_end0
   exact ⟨⟨_, rfl⟩, .inl ⟨ps, hC.perm HD.out.1 hl0, hJs⟩⟩
  ·intro k c kl yd yp w2 cnt2 hkey hlk hv hat hrg2 hlt hg2 hs2 hen
   obtain ⟨k', ek, rfl, _⟩ := Maps.keyOf_int_inv Tryz.underlying3 hkey
   obtain rfl : k = k' := by simpa using ek
   obtain ⟨x, hx, ex⟩ := hC.2.2.2 _ hlk
   injection ex with _ ex
   subst ex
   have hcx : x = c := by
    rw [ZdO] at hv
    have h1 := (Prod.mk.inj (Option.some.inj hv)).1
    refine ZcG ?_
    rw [← HD.out.2.2.2 x hx (rowD x), hat, h1]
   subst hcx
   have hC2 := hC.step HD.out.1 hx hlk
   have hJ2 : J ps w2 := hJ ps wr w2 (some W.heap.size) hJs hg2 (fun r e => by cases e; exact ⟨Nat.le_refl _, hrg.iter_walk⟩)
   have hcnt : ps.length < N := by omega
   have HC2 := Aside0.mk hC2
   have HL := Aside0.mk hrg.left_eq
   clear hs2 hC2 hC hrg hkey hv hat hlk hx
   obtain ⟨x0, x1, x2⟩ := x
   simp only [rowV] at hen
   have hJ3 : J ps (w2.alloc (.cells #[.int .i64 x0, .int .i64 x1, .int .i64 x2] 51)) := hJ ps w2 _ none hJ2 (World.grownBy_alloc w2 _ none) (fun r e => by cases e)
   have hrg3 := hrg2.alloc (.cells #[.int .i64 x0, .int .i64 x1, .int .i64 x2] 51)
   obtain ⟨fn, tmps, assign, body, hy, hR⟩ := hY ps ⟨x0, x1, x2⟩ _ hJ3 hcnt
   simp only [rowV] at hy
   gi_wp2
   refine hR.mono ?_
   rintro e W3 (⟨rfl, hJ4, hk4⟩ | ⟨rfl, hJx4⟩)
   ·gi_wp2
    have hrg4 := hrg3.of_walks hk4
    go_roundw
    case rel => exact ⟨_, cnt2, ps ++ [⟨x0, x1, x2⟩], hrg4, by simp; omega, HC2.out, hJ4⟩
    case measure => rw [hrg4.left_eq, HL.out]; exact hlt
   ·gi_wp2
    refine bodyPost_ret (results_none rfl _ _ _) rfl ?_
    exact ⟨⟨_, rfl⟩, .inr ⟨ps ++ [⟨x0, x1, x2⟩], trivial, hJx4⟩⟩
theorem values_stops (F : Fence) (n : Nat) (h8 : F.fn 98) (hro : F.round = none) (hn : 1 ≤ n) (Bm b N : Nat) (T : List S51) (w : World) (hBm : Bm < w.heap.size) (hm : w.cell? ⟨Bm, 0, none⟩ = some (.map (some b))) (hT : TMap w b N T) :
  SeqStops F n Tryz.prog 98 #[.pointer (some ⟨Bm, 0, none⟩)] rowV (fun xs => xs.Perm T) (fun _ => True) N w := fun l J Jx W hW hJ _ hY h0 =>
 values_in F n h8 hro hn l Bm b N T J Jx hY W hJ ((hW.cell (p := ⟨Bm, 0, none⟩) hBm).trans hm) (hT.below hW) h0
def RowBox (W : World) (B : Nat) (x : S51) : Prop := W.heap[B]? = some (.cells #[.int .i64 x.f0, .int .i64 x.f1, .int .i64 x.f2] 51 (0, 0))
def flatR (l : List S51) : List Value := l.flatMap rowL
theorem flatR_snoc (l : List S51) (x : S51) : flatR (l ++ [x]) = flatR l ++ rowL x := by simp [flatR]
theorem rowBox_own (B0 B : Nat) (f : S51) : OwnFrom B0 (fun (_ : Unit) W => RowBox W B f) := fun _ X Y row h hg hr => by
 refine (hg.block B (blk_lt h) (fun e => ?_)).trans h
 obtain ⟨_, o, ho, hc⟩ := hr B e.symm
 rw [show X.heap[B]? = _ from h] at ho
 cases ho
 cases hc
theorem info51 : (Tryz.prog.info? 51).map (fun i => (i.zero, i.size, i.bytes)) = some (some (rowV ⟨0, 0, 0⟩), 3, 24) := by kernel_rfl
theorem new_row (w : World) (x : S51) : ∀ j u, (rowL x)[j]? = some u → (w.alloc (.cells #[.int .i64 x.f0, .int .i64 x.f1, .int .i64 x.f2] 51)).cell? ((⟨w.heap.size, 0, none⟩ : Addr).add j) = some u := by
 intro j u hj
 have h := Zas w (.cells #[.int .i64 x.f0, .int .i64 x.f1, .int .i64 x.f2] 51)
 have hjl : j < 3 := by
  have := (List.getElem?_eq_some_iff.1 hj).1
  simpa [rowL] using this
 have e : (⟨w.heap.size, 0, none⟩ : Addr).add j = ⟨w.heap.size, j, none⟩ := by unfold Addr.add; split <;> simp
 rw [e, Zaa h, ← hj]
 match j, hjl with
 | 0, _ => rfl
 | 1, _ => rfl
 | 2, _ => rfl
set_option maxRecDepth 100000 in
set_option maxHeartbeats 2000000 in
theorem appendseq_in (F : Fence) (n : Nat) (h79 : F.fn 126) (hro : F.round = none) (hn : 2 ≤ n) (gf : Nat) (lb : Array Value) (hFg : F.fn gf) (eg : ∀ args w, (callFunc gf args).run Tryz.prog w = .ok (.enter gf args) w)
  (S : List S51 → Prop) (N : Nat) (hN : N ≤ 1000000) (w : World) (hseq : SeqStops F (n - 1) Tryz.prog gf lb rowV S (fun _ => True) N w) :
  CallsIn F n Tryz.prog 126 #[.slice none 0 0, .func (.func gf) #[] lb] w fun e w' => ∃ xs v, e = .returned v ∧ S xs ∧ w'.ownsRow w.heap.size 51 3 v xs.length (flatR xs) ∧ Below w.heap.size w w' := by
 have h1 : 1 ≤ n := by omega
 have hu32 := Tryz.underlying32
 have hu51 := Tryz.underlying51
 refine callsIn_of_wp_marks Tryz.func126 rfl h79 ?_ hro
 simp only [Tryz.ntmps126, List.size_toArray, List.length_cons, List.length_nil, Nat.reduceAdd, Nat.reduceSub, Array.replicate_succ, Array.replicate_zero, List.push_toArray, List.append_toArray, List.nil_append, List.cons_append]
 gi_wp2
 refine wpIn_rangeFunc_ownH hro h1 (gf := gf) (lb := lb) rfl hFg eg
  hseq walksK_t walksK_b (Zab (Below.refl _ w) _) (fun _ => rfl)
  (fun pre W => (∃ v, Boxed W w.heap.size 32 v ∧ W.ownsRow w.heap.size 51 3 v pre.length (flatR pre) ∧ True) ∧ Below w.heap.size w W)
  (fun _ _ _ => False)
  (OwnFrom.and (Own.from (holdsRow_own w.heap.size w.heap.size 32 51 3 (fun pre => pre.length) flatR (fun _ _ => True)) _) (ownFrom_below (Nat.le_refl _) (by simp)))
  (fun _ _ _ _ _ hs _ _ => hs)
  ⟨⟨_, Boxed.new w 32 _, World.ownsRow_nil _ _ _ _, trivial⟩, Zab (Below.refl _ w) _⟩
  (fun x a' W => ∃ Bx, w.heap.size < Bx ∧ RowBox W Bx x ∧ a' = { tmps := #[.slice none 0 0, .func (.func gf) #[] lb, .pointer (some ⟨w.heap.size, 0, none⟩), undef, .slice none 0 0, .pointer (some ⟨Bx, 0, none⟩), .func (.func gf) #[] lb, rowV x, undef, undef, undef, undef, undef], defers := [] })
  (fun x a' s X Y row ⟨Bx, hBx, hb, ha⟩ hg hr => ⟨Bx, hBx, rowBox_own _ Bx x () X Y row hb hg hr, ha⟩) ?assign ?body ?done ?stop
 case assign =>
  intro l pre x W K hi hK
  obtain ⟨x0, x1, x2⟩ := x
  obtain ⟨⟨v, hv, hrow, -⟩, hB⟩ := hi
  simp only [rowV] at hK ⊢
  gi_wp2
  exact hK _ _ ((KeepsOthers.alloc _ _).from _) (KeepsOthers.alloc _ _).walks ⟨⟨v, hv.alloc _, hrow.alloc _, trivial⟩, Zab hB _⟩ ⟨W.heap.size, hv.lt, Zas W _, rfl⟩
 case body =>
  rintro l pre x a' W hl ⟨r, hr⟩ ⟨⟨v, hv, hrow, -⟩, hB⟩ ⟨Bx, hBx, bX, rfl⟩ hlt
  obtain ⟨x0, x1, x2⟩ := x
  obtain ⟨i0, hi, hz0, hz1, hz2⟩ := info_parts info51
  have hvc := hv.cell
  have hvf := hv.frozen
  have b0 : W.cell? ⟨Bx, 0, none⟩ = some (.int .i64 x0) := (Zaa bX 0).trans rfl
  have b1 : W.cell? ⟨Bx, 1, none⟩ = some (.int .i64 x1) := (Zaa bX 1).trans rfl
  have b2 : W.cell? ⟨Bx, 2, none⟩ = some (.int .i64 x2) := (Zaa bX 2).trans rfl
  have hnews := new_row W ⟨x0, x1, x2⟩
  gi_wp2_with (gi_at_builtin; refine wpListIn_append_own _ rfl _ _ 32 rfl w.heap.size 51 i0 (rowV ⟨0, 0, 0⟩) 3 24 Tryz.underlying32 hi hz0 hz1 hz2 rfl (by decide) _ _ _ rfl (hrow.alloc _) ⟨W.heap.size, 0, none⟩ 1 1 (rowL ⟨x0, x1, x2⟩) rfl rfl hnews (by simp [rowL, Value.oneCell']) (by unfold maxLen; omega) (by omega) (by have := hB.size; simp; omega) ?_; intro v' w1 hown' hgrow _; obtain ⟨g', cap', rfl⟩ := ownsRow_succ hown'; obtain ⟨hv1, hv2, hr2, hk2, hb2⟩ := hv.appended (by decide) hrow hB.size (Nat.le_refl _) hown' hgrow; have hc1 := hv1.cell; have hf1 := hv1.frozen)
  exact ⟨hk2.from _, hk2.walks, ⟨⟨_, hv2, by rw [List.length_append, flatR_snoc]; exact hr2⟩, hB.trans hb2⟩⟩
 case done =>
  rintro D xs W hD hS ⟨⟨v, hv, hrow, -⟩, hB⟩ hK
  have hvc := hv.cell
  gi_wp2
  refine ⟨by simp, .inl ⟨_, _, rfl, run_takeDeferred hK, ?_⟩⟩
  exact ⟨_, results_tmp rfl _ _ _, xs, v, rfl, hS, ownsRow_putObj hrow _ hK rfl, hB.trans (belowK_b (w := w) (Nat.le_refl _) W D _ _ (by simp at hD; omega) hK rfl rfl)⟩
 case stop =>
  rintro D c pre W hD _ h _
  exact h.elim
set_option maxHeartbeats 1000000 in
theorem collect_in (F : Fence) (n : Nat) (h62 : F.fn 96) (h79 : F.fn 126) (hro : F.round = none) (hn : 3 ≤ n) (gf : Nat) (lb : Array Value) (hFg : F.fn gf) (eg : ∀ args w, (callFunc gf args).run Tryz.prog w = .ok (.enter gf args) w)
  (S : List S51 → Prop) (N : Nat) (hN : N ≤ 1000000) (w : World) (hseq : SeqStops F (n - 1 - 1) Tryz.prog gf lb rowV S (fun _ => True) N w) :
  CallsIn F n Tryz.prog 96 #[.func (.func gf) #[] lb] w fun e w' => ∃ xs v, e = .returned v ∧ S xs ∧ w'.ownsRow w.heap.size 51 3 v xs.length (flatR xs) ∧ Below w.heap.size w w' := by
 have H := appendseq_in F (n - 1) h79 hro (by omega) gf lb hFg eg S N hN w hseq
 clear hseq
 have h1 : 1 ≤ n := by omega
 refine callsIn_of_wp Tryz.func96 rfl h62 ?_ hro
 simp only [Tryz.ntmps96, List.size_toArray, List.length_cons, List.length_nil, Nat.reduceAdd, Nat.reduceSub, Array.replicate_succ, Array.replicate_zero, List.push_toArray, List.append_toArray, List.nil_append, List.cons_append]
 gi_wp2_with (gi_at_call 126; refine H.mono ?_; rintro e w' ⟨xs, v, rfl, h2, h3, h4⟩)
 go_ret
 exact ⟨xs, _, rfl, h2, h3, h4⟩
theorem collect_calls (b N : Nat) (hN : N ≤ 1000000) (T : List S51) (w : World) (Bm : Nat) (hm : w.heap[Bm]? = some (.cells #[.map (some b)] 73 (0, 0))) (hT : TMap w b N T) :
  Calls Tryz.prog 96 #[.func (.func 98) #[] #[.pointer (some ⟨Bm, 0, none⟩)]] w fun e w' => ∃ xs v, e = .returned v ∧ xs.Perm T ∧ w'.ownsRow w.heap.size 51 3 v xs.length (flatR xs) ∧ Below w.heap.size w w' :=
 (callsIn_wide (n := 5)).1 (collect_in Fence.wide 5 trivial trivial rfl (by omega) 98 _ trivial (enters_of Tryz.func98 (by kernel_rfl) rfl) (fun xs => xs.Perm T) N hN w
  (values_stops Fence.wide 3 trivial rfl (by omega) Bm b N T w (blk_lt hm) ((Zaa hm 0).trans rfl) hT))
theorem val_plain (mb : Option Nat) (w : World) : Calls Tryz.prog 48 #[.map mb] w fun e w' => e = .returned (.func (.func 98) #[] #[.pointer (some ⟨w.heap.size, 0, none⟩)]) ∧ w' = w.alloc (.cells #[.map mb] 73) :=
 (callsIn_wide (n := 5)).1 (val_calls Fence.wide 5 trivial rfl mb w)
end Go.Proofs.YtpfnaknmalojkaaGreat.PTopRows
namespace Go.Proofs.YtpfnaknmalojkaaGreat.PTopRows
open Go.RowKit Go.Maps Go.Sort Go.Proofs.YtpfnaknmalojkaaGreatW.PrintWords Go.Proofs.YtpfnaknmalojkaaGreatW.PrintLast Go.Proofs.YtpfnaknmalojkaaGreatW.PrintMore
set_option linter.unusedVariables false
set_option linter.unusedSimpArgs false
instance : Inhabited S51 := ⟨⟨1, 0, 0⟩⟩
theorem Zdz (x : S51) : (rowL x).length = 3 := rfl
theorem rowL_one (x : S51) : ∀ v ∈ rowL x, v.oneCell' = true := by
 intro v hv
 simp [rowL] at hv
 rcases hv with rfl | rfl | rfl <;> rfl
theorem flatR_get : ∀ (l : List S51) (i c : Nat) (hi : i < l.length) (hc : c < 3), (flatR l)[i * 3 + c]? = (rowL l[i])[c]?
 | [], i, c, hi, _ => by simp at hi
 | x :: l, 0, c, hi, hc => by
  have : flatR (x :: l) = rowL x ++ flatR l := by simp [flatR]
  rw [this, List.getElem?_append_left (by rw [Zdz]; omega)]
  simp
 | x :: l, i + 1, c, hi, hc => by
  have : flatR (x :: l) = rowL x ++ flatR l := by simp [flatR]
  rw [this, List.getElem?_append_right (by rw [Zdz]; omega), Zdz, show (i + 1) * 3 + c - 3 = i * 3 + c by omega, flatR_get l i c (by simpa using hi) hc]
  rfl
theorem Zd3 {enc : S51 → List Value} {w : World} {g off : Nat} {d : Array S51} (h : ∀ i, i < d.size → ∀ c, c < 3 → w.cell? ⟨g, off + i * 3 + c, none⟩ = some (enc d[i]!)[c]! ∧ w.frozen? ⟨g, off + i * 3 + c, none⟩ = false) : HoldsK enc 3 w g off d := by
 intro t ht
 rw [size_flatK] at ht
 have h1 := h (t / 3) (by omega) (t % 3) (by omega)
 have e : off + t / 3 * 3 + t % 3 = off + t := by omega
 rw [e] at h1
 rw [get_flatK _ _ _ _ ht]
 exact h1
def SlR (w : World) (base : Nat) (v : Value) (l : List S51) : Prop :=
 (v = .slice none 0 0 ∧ l = []) ∨ ∃ g o cap, v = .slice (some ⟨g, o, none⟩) l.length cap ∧ base ≤ g ∧ g < w.heap.size ∧ l.length ≤ cap ∧ HoldsK rowL 3 w g o l.toArray
theorem rowL_bang (x : S51) (c : Nat) (hc : c < 3) : (rowL x)[c]? = some (rowL x)[c]! := by
 match c, hc with
 | 0, _ => rfl
 | 1, _ => rfl
 | 2, _ => rfl
theorem arr_bang (l : List S51) (i : Nat) (hi : i < l.length) : l.toArray[i]! = l[i] := by
 rw [getElem!_pos l.toArray i (by simpa using hi)]
 simp
theorem SlR.of_own {w : World} {base : Nat} {v : Value} {l : List S51} (h : w.ownsRow base 51 3 v l.length (flatR l)) : SlR w base v l := by
 obtain ⟨h0, h1⟩ := h
 rcases h1 with ⟨rfl, h1⟩ | ⟨g, cap, cur, rfl, hb, hg, hc, _, hs, ht⟩
 ·exact .inl ⟨rfl, List.eq_nil_of_length_eq_zero h1⟩
 ·refine .inr ⟨g, 0, cap, rfl, hb, blk_lt hg, hc, Zd3 fun i hi c hc => ⟨?_, ?_⟩⟩
  ·have hi' : i < l.length := by simpa using hi
   have h2 := flatR_get l i c hi' hc
   rw [← ht, List.getElem?_take_of_lt (by omega), rowL_bang _ _ hc] at h2
   rw [Zaa hg, Nat.zero_add, arr_bang l i hi']
   simpa using h2
  ·exact Zad hg _
theorem Zej {w : World} {g o : Nat} {l : List S51} (h : HoldsK rowL 3 w g o l.toArray) (hm : l.length ≤ 9223372036854775807) : Kd.C k51 w (some ⟨g, o, none⟩) l.length l := by
 refine ⟨rfl, hm, fun _ => ⟨_, rfl, fun j p hp => ⟨rowL p, rfl, k51_mk w p, fun i u hu => ?_⟩⟩⟩
 obtain ⟨hj, rfl⟩ := List.getElem?_eq_some_iff.1 hp
 have hi : i < 3 := by
  have := (List.getElem?_eq_some_iff.1 hu).1
  rwa [Zdz] at this
 have h1 := (h.cell (i := j) (c := i) (by simpa using hj) hi).1
 rw [arr_bang l j hj] at h1
 have e : (⟨g, o, none⟩ : Addr).add (j * 3 + i) = ⟨g, o + j * 3 + i, none⟩ := by
  unfold Addr.add
  split
  ·rename_i e0
   have e1 : j = 0 := by omega
   have e2 : i = 0 := by omega
   simp [e1, e2]
  ·simp [Nat.add_assoc]
 show w.cell? ((⟨g, o, none⟩ : Addr).add (j * 3 + i)) = some u
 rw [e]
 rw [rowL_bang _ _ hi] at hu
 rw [← Option.some.inj hu]
 exact h1
theorem SlR.reads {w : World} {base : Nat} {v : Value} {l : List S51} (h : SlR w base v l) (hm : l.length ≤ 1000000) : ∃ A c, v = .slice A l.length c ∧ l.length ≤ c ∧ Kd.C k51 w A l.length l := by
 rcases h with ⟨rfl, rfl⟩ | ⟨g, o, cap, rfl, _, _, hc, hh⟩
 ·exact ⟨none, 0, rfl, Nat.le_refl _, ⟨rfl, by simp, fun h => absurd h (Nat.lt_irrefl 0)⟩⟩
 ·exact ⟨_, _, rfl, hc, Zej hh (by omega)⟩
def GrowOf (W w' : World) : Prop := ∃ q os, w' = grow (W.drewN q) os
end Go.Proofs.YtpfnaknmalojkaaGreat.PTopRows
namespace Go.Proofs.YtpfnaknmalojkaaGreat.PTopRows
open Go.Shelf
def ZdZ : Go.Shelf.Ren := ⟨fun | 169 => 64 | n => n, fun | 70 => 133 | 9 => 9 | 0 => 0 | 72 => 135 | 37 => 76 | 127 => 177 | 3 => 3 | 5 => 5 | n => n, fun | n => n⟩
theorem lays169 : Go.Proofs.Lays.n169 Tryz.prog ZdZ := {
 mixed := by kernel_rfl
 f169 := Tryz.func64.trans (congrArg some (by kernel_rfl))
 t0 := Tryz.underlying0
 a0 := Tryz.isAgg0
 z0 := Tryz.sizeOf0
 v0 := Tryz.zeroValue0
 t3 := Tryz.underlying3
 a3 := Tryz.isAgg3
 z3 := Tryz.sizeOf3
 v3 := Tryz.zeroValue3
 t9 := Tryz.underlying9
 a9 := Tryz.isAgg9
 z9 := Tryz.sizeOf9
 v9 := Tryz.zeroValue9
 t37 := Tryz.underlying76
 a37 := Tryz.isAgg76
 z37 := Tryz.sizeOf76
 v37 := Tryz.zeroValue76
 t70 := Tryz.underlying133
 a70 := Tryz.isAgg133
 z70 := Tryz.sizeOf133
 v70 := Tryz.zeroValue133
 t72 := Tryz.underlying135
 a72 := Tryz.isAgg135
 z72 := Tryz.sizeOf135
 v72 := Tryz.zeroValue135
 t127 := Tryz.underlying177
 a127 := Tryz.isAgg177
 z127 := Tryz.sizeOf177
 v127 := Tryz.zeroValue177 }
theorem Zbn : Builder.Extra Tryz.prog ZdZ := {
 sizeBuilder := by kernel_rfl
 liesBuilder := by kernel_rfl
 t5 := Tryz.underlying5
 a5 := Tryz.isAgg5
 z5 := Tryz.sizeOf5
 v5 := Tryz.zeroValue5
 infoByte := by kernel_rfl
 cellsByte := by kernel_rfl
 sizeByte := by kernel_rfl
 neB5 := by decide }
def lays129_ren : Go.Shelf.Ren := ⟨fun | 129 => 162 | n => n, fun | 53 => 30 | 3 => 3 | 4 => 4 | 46 => 168 | 5 => 5 | 9 => 9 | n => n, fun | n => n⟩
theorem lays129 : Go.Proofs.Lays.n129 Tryz.prog lays129_ren := {
 mixed := by kernel_rfl
 f129 := Tryz.func162.trans (congrArg some (by kernel_rfl))
 t3 := Tryz.underlying3
 a3 := Tryz.isAgg3
 z3 := Tryz.sizeOf3
 v3 := Tryz.zeroValue3
 t4 := Tryz.underlying4
 a4 := Tryz.isAgg4
 z4 := Tryz.sizeOf4
 v4 := Tryz.zeroValue4
 t5 := Tryz.underlying5
 a5 := Tryz.isAgg5
 z5 := Tryz.sizeOf5
 v5 := Tryz.zeroValue5
 t9 := Tryz.underlying9
 a9 := Tryz.isAgg9
 z9 := Tryz.sizeOf9
 v9 := Tryz.zeroValue9
 t46 := Tryz.underlying168
 a46 := Tryz.isAgg168
 z46 := Tryz.sizeOf168
 v46 := Tryz.zeroValue168
 t53 := Tryz.underlying30
 a53 := Tryz.isAgg30
 z53 := Tryz.sizeOf30
 v53 := Tryz.zeroValue30 }
theorem bits_Len64 (x : Int) (w : World) (h0 : 0 ≤ x) (h1 : x ≤ 18446744073709551615) :
  Calls Tryz.prog 162 #[.int .u64 x] w fun e w' => e = .returned (.int .i64 (Lib.bitLen x.toNat)) ∧ w' = w := Any.bits_Len64 lays129 x w h0 h1
def sortRow_ren : Go.Shelf.Ren := ⟨fun | 6 => 97 | 15 => 128 | 14 => 127 | 28 => 161 | 29 => 162 | 20 => 153 | 21 => 154 | 22 => 155 | 23 => 156 | 24 => 157 | 25 => 158 | 26 => 159 | 27 => 160 | 46 => 181 | 47 => 182 | 48 => 183 | 49 => 184 | 50 => 185 | 57 => 192 | n => n, fun | 22 => 32 | 24 => 51 | 25 => 113 | 3 => 3 | 39 => 168 | 0 => 0 | 53 => 193 | 55 => 30 | 4 => 4 | 46 => 220 | 45 => 219 | 50 => 118 | 5 => 5 | 9 => 9 | 66 => 239 | 70 => 243 | 76 => 250 | 77 => 251 | n => n, fun | n => n⟩
theorem sortRow : Go.Proofs.SlLaysF0.n6 Tryz.prog sortRow_ren := {
 mixed := by kernel_rfl
 f6 := ⟨Tryz.f97.name, by decide, Tryz.func97.trans (congrArg some (by kernel_rfl))⟩
 f14 := ⟨Tryz.f127.name, by decide, Tryz.func127.trans (congrArg some (by kernel_rfl))⟩
 f15 := Tryz.func128.trans (congrArg some (by kernel_rfl))
 f20 := ⟨Tryz.f153.name, by decide, Tryz.func153.trans (congrArg some (by kernel_rfl))⟩
 f21 := ⟨Tryz.f154.name, by decide, Tryz.func154.trans (congrArg some (by kernel_rfl))⟩
 f22 := ⟨Tryz.f155.name, by decide, Tryz.func155.trans (congrArg some (by kernel_rfl))⟩
 f23 := ⟨Tryz.f156.name, by decide, Tryz.func156.trans (congrArg some (by kernel_rfl))⟩
 f24 := ⟨Tryz.f157.name, by decide, Tryz.func157.trans (congrArg some (by kernel_rfl))⟩
 f25 := ⟨Tryz.f158.name, by decide, Tryz.func158.trans (congrArg some (by kernel_rfl))⟩
 f26 := ⟨Tryz.f159.name, by decide, Tryz.func159.trans (congrArg some (by kernel_rfl))⟩
 f27 := ⟨Tryz.f160.name, by decide, Tryz.func160.trans (congrArg some (by kernel_rfl))⟩
 f28 := Tryz.func161.trans (congrArg some (by kernel_rfl))
 f29 := Tryz.func162.trans (congrArg some (by kernel_rfl))
 f46 := ⟨Tryz.f181.name, by decide, Tryz.func181.trans (congrArg some (by kernel_rfl))⟩
 f47 := Tryz.func182.trans (congrArg some (by kernel_rfl))
 f48 := Tryz.func183.trans (congrArg some (by kernel_rfl))
 f49 := ⟨Tryz.f184.name, by decide, Tryz.func184.trans (congrArg some (by kernel_rfl))⟩
 f50 := ⟨Tryz.f185.name, by decide, Tryz.func185.trans (congrArg some (by kernel_rfl))⟩
 f57 := ⟨Tryz.f192.name, by decide, Tryz.func192.trans (congrArg some (by kernel_rfl))⟩
 t0 := Tryz.underlying0
 a0 := Tryz.isAgg0
 z0 := Tryz.sizeOf0
 v0 := Tryz.zeroValue0
 t3 := Tryz.underlying3
 a3 := Tryz.isAgg3
 z3 := Tryz.sizeOf3
 v3 := Tryz.zeroValue3
 t4 := Tryz.underlying4
 a4 := Tryz.isAgg4
 z4 := Tryz.sizeOf4
 v4 := Tryz.zeroValue4
 t5 := Tryz.underlying5
 a5 := Tryz.isAgg5
 z5 := Tryz.sizeOf5
 v5 := Tryz.zeroValue5
 t9 := Tryz.underlying9
 a9 := Tryz.isAgg9
 z9 := Tryz.sizeOf9
 v9 := Tryz.zeroValue9
 t22 := Tryz.underlying32
 a22 := Tryz.isAgg32
 z22 := Tryz.sizeOf32
 v22 := Tryz.zeroValue32
 t25 := Tryz.underlying113
 a25 := Tryz.isAgg113
 z25 := Tryz.sizeOf113
 v25 := Tryz.zeroValue113
 t39 := Tryz.underlying168
 a39 := Tryz.isAgg168
 z39 := Tryz.sizeOf168
 v39 := Tryz.zeroValue168
 t45 := Tryz.underlying219
 a45 := Tryz.isAgg219
 z45 := Tryz.sizeOf219
 v45 := Tryz.zeroValue219
 t46 := Tryz.underlying220
 a46 := Tryz.isAgg220
 z46 := Tryz.sizeOf220
 v46 := Tryz.zeroValue220
 t50 := Tryz.underlying118
 a50 := Tryz.isAgg118
 z50 := Tryz.sizeOf118
 v50 := Tryz.zeroValue118
 t53 := Tryz.underlying193
 a53 := Tryz.isAgg193
 z53 := Tryz.sizeOf193
 v53 := Tryz.zeroValue193
 t55 := Tryz.underlying30
 a55 := Tryz.isAgg30
 z55 := Tryz.sizeOf30
 v55 := Tryz.zeroValue30
 t66 := Tryz.underlying239
 a66 := Tryz.isAgg239
 z66 := Tryz.sizeOf239
 v66 := Tryz.zeroValue239
 t70 := Tryz.underlying243
 a70 := Tryz.isAgg243
 z70 := Tryz.sizeOf243
 v70 := Tryz.zeroValue243
 t76 := Tryz.underlying250
 a76 := Tryz.isAgg250
 z76 := Tryz.sizeOf250
 v76 := Tryz.zeroValue250
 t77 := Tryz.underlying251
 a77 := Tryz.isAgg251
 z77 := Tryz.sizeOf251
 v77 := Tryz.zeroValue251 }
def sortSpan_ren : Go.Shelf.Ren := ⟨fun | 6 => 176 | 15 => 128 | 14 => 190 | 28 => 161 | 29 => 162 | 20 => 204 | 21 => 205 | 22 => 206 | 23 => 207 | 24 => 208 | 25 => 209 | 26 => 210 | 27 => 211 | 46 => 216 | 47 => 182 | 48 => 183 | 49 => 217 | 50 => 218 | 57 => 220 | n => n, fun | 22 => 38 | 24 => 70 | 25 => 235 | 3 => 3 | 39 => 168 | 0 => 0 | 53 => 193 | 55 => 30 | 4 => 4 | 46 => 220 | 45 => 219 | 50 => 118 | 5 => 5 | 9 => 9 | 66 => 239 | 70 => 243 | 76 => 250 | 77 => 251 | n => n, fun | n => n⟩
theorem sortSpan : Go.Proofs.SlLaysF0.n6 Tryz.prog sortSpan_ren := {
 mixed := by kernel_rfl
 f6 := ⟨Tryz.f176.name, by decide, Tryz.func176.trans (congrArg some (by kernel_rfl))⟩
 f14 := ⟨Tryz.f190.name, by decide, Tryz.func190.trans (congrArg some (by kernel_rfl))⟩
 f15 := Tryz.func128.trans (congrArg some (by kernel_rfl))
 f20 := ⟨Tryz.f204.name, by decide, Tryz.func204.trans (congrArg some (by kernel_rfl))⟩
 f21 := ⟨Tryz.f205.name, by decide, Tryz.func205.trans (congrArg some (by kernel_rfl))⟩
 f22 := ⟨Tryz.f206.name, by decide, Tryz.func206.trans (congrArg some (by kernel_rfl))⟩
 f23 := ⟨Tryz.f207.name, by decide, Tryz.func207.trans (congrArg some (by kernel_rfl))⟩
 f24 := ⟨Tryz.f208.name, by decide, Tryz.func208.trans (congrArg some (by kernel_rfl))⟩
 f25 := ⟨Tryz.f209.name, by decide, Tryz.func209.trans (congrArg some (by kernel_rfl))⟩
 f26 := ⟨Tryz.f210.name, by decide, Tryz.func210.trans (congrArg some (by kernel_rfl))⟩
 f27 := ⟨Tryz.f211.name, by decide, Tryz.func211.trans (congrArg some (by kernel_rfl))⟩
 f28 := Tryz.func161.trans (congrArg some (by kernel_rfl))
 f29 := Tryz.func162.trans (congrArg some (by kernel_rfl))
 f46 := ⟨Tryz.f216.name, by decide, Tryz.func216.trans (congrArg some (by kernel_rfl))⟩
 f47 := Tryz.func182.trans (congrArg some (by kernel_rfl))
 f48 := Tryz.func183.trans (congrArg some (by kernel_rfl))
 f49 := ⟨Tryz.f217.name, by decide, Tryz.func217.trans (congrArg some (by kernel_rfl))⟩
 f50 := ⟨Tryz.f218.name, by decide, Tryz.func218.trans (congrArg some (by kernel_rfl))⟩
 f57 := ⟨Tryz.f220.name, by decide, Tryz.func220.trans (congrArg some (by kernel_rfl))⟩
 t0 := Tryz.underlying0
 a0 := Tryz.isAgg0
 z0 := Tryz.sizeOf0
 v0 := Tryz.zeroValue0
 t3 := Tryz.underlying3
 a3 := Tryz.isAgg3
 z3 := Tryz.sizeOf3
 v3 := Tryz.zeroValue3
 t4 := Tryz.underlying4
 a4 := Tryz.isAgg4
 z4 := Tryz.sizeOf4
 v4 := Tryz.zeroValue4
 t5 := Tryz.underlying5
 a5 := Tryz.isAgg5
 z5 := Tryz.sizeOf5
 v5 := Tryz.zeroValue5
 t9 := Tryz.underlying9
 a9 := Tryz.isAgg9
 z9 := Tryz.sizeOf9
 v9 := Tryz.zeroValue9
 t22 := Tryz.underlying38
 a22 := Tryz.isAgg38
 z22 := Tryz.sizeOf38
 v22 := Tryz.zeroValue38
 t25 := Tryz.underlying235
 a25 := Tryz.isAgg235
 z25 := Tryz.sizeOf235
 v25 := Tryz.zeroValue235
 t39 := Tryz.underlying168
 a39 := Tryz.isAgg168
 z39 := Tryz.sizeOf168
 v39 := Tryz.zeroValue168
 t45 := Tryz.underlying219
 a45 := Tryz.isAgg219
 z45 := Tryz.sizeOf219
 v45 := Tryz.zeroValue219
 t46 := Tryz.underlying220
 a46 := Tryz.isAgg220
 z46 := Tryz.sizeOf220
 v46 := Tryz.zeroValue220
 t50 := Tryz.underlying118
 a50 := Tryz.isAgg118
 z50 := Tryz.sizeOf118
 v50 := Tryz.zeroValue118
 t53 := Tryz.underlying193
 a53 := Tryz.isAgg193
 z53 := Tryz.sizeOf193
 v53 := Tryz.zeroValue193
 t55 := Tryz.underlying30
 a55 := Tryz.isAgg30
 z55 := Tryz.sizeOf30
 v55 := Tryz.zeroValue30
 t66 := Tryz.underlying239
 a66 := Tryz.isAgg239
 z66 := Tryz.sizeOf239
 v66 := Tryz.zeroValue239
 t70 := Tryz.underlying243
 a70 := Tryz.isAgg243
 z70 := Tryz.sizeOf243
 v70 := Tryz.zeroValue243
 t76 := Tryz.underlying250
 a76 := Tryz.isAgg250
 z76 := Tryz.sizeOf250
 v76 := Tryz.zeroValue250
 t77 := Tryz.underlying251
 a77 := Tryz.isAgg251
 z77 := Tryz.sizeOf251
 v77 := Tryz.zeroValue251 }
def keysS_ren : Go.Shelf.Ren := ⟨fun | 7 => 141 | 10 => 173 | n => n, fun | 23 => 125 | 26 => 3 | 3 => 129 | 28 => 204 | 0 => 0 | 27 => 203 | 33 => 153 | 4 => 4 | n => n, fun | n => n⟩
theorem keysS : Go.Proofs.SlLaysZI.n7 Tryz.prog keysS_ren := {
 mixed := by kernel_rfl
 f7 := ⟨Tryz.f141.name, by decide, Tryz.func141.trans (congrArg some (by kernel_rfl))⟩
 f10 := ⟨Tryz.f173.name, by decide, Tryz.func173.trans (congrArg some (by kernel_rfl))⟩
 t0 := Tryz.underlying0
 a0 := Tryz.isAgg0
 z0 := Tryz.sizeOf0
 v0 := Tryz.zeroValue0
 t4 := Tryz.underlying4
 a4 := Tryz.isAgg4
 z4 := Tryz.sizeOf4
 v4 := Tryz.zeroValue4
 t23 := Tryz.underlying125
 a23 := Tryz.isAgg125
 z23 := Tryz.sizeOf125
 v23 := Tryz.zeroValue125
 t26 := Tryz.underlying3
 a26 := Tryz.isAgg3
 z26 := Tryz.sizeOf3
 v26 := Tryz.zeroValue3
 t27 := Tryz.underlying203
 a27 := Tryz.isAgg203
 z27 := Tryz.sizeOf203
 v27 := Tryz.zeroValue203
 t28 := Tryz.underlying204
 a28 := Tryz.isAgg204
 z28 := Tryz.sizeOf204
 v28 := Tryz.zeroValue204
 t33 := Tryz.underlying153
 a33 := Tryz.isAgg153
 z33 := Tryz.sizeOf153
 v33 := Tryz.zeroValue153 }
def ZdJ : Go.Shelf.Ren := ⟨fun | 6 => 140 | 8 => 171 | 9 => 172 | 11 => 188 | 13 => 128 | 12 => 189 | 23 => 161 | 24 => 162 | 14 => 195 | 15 => 196 | 16 => 197 | 17 => 198 | 18 => 199 | 19 => 200 | 20 => 201 | 21 => 202 | 22 => 203 | 25 => 213 | 26 => 182 | 27 => 183 | 28 => 214 | 29 => 215 | 30 => 101 | 31 => 219 | n => n, fun | 26 => 3 | 28 => 204 | 24 => 191 | 0 => 0 | 3 => 3 | 37 => 168 | 48 => 193 | 50 => 30 | 4 => 4 | 40 => 220 | 39 => 219 | 45 => 118 | 5 => 5 | 9 => 9 | 51 => 239 | 55 => 243 | 57 => 250 | 58 => 251 | 33 => 153 | n => n, fun | n => n⟩
theorem sortedI : Go.Proofs.SlLaysZI.n6 Tryz.prog ZdJ := {
 mixed := by kernel_rfl
 f6 := ⟨Tryz.f140.name, by decide, Tryz.func140.trans (congrArg some (by kernel_rfl))⟩
 f8 := ⟨Tryz.f171.name, by decide, Tryz.func171.trans (congrArg some (by kernel_rfl))⟩
 f11 := ⟨Tryz.f188.name, by decide, Tryz.func188.trans (congrArg some (by kernel_rfl))⟩
 t0 := Tryz.underlying0
 a0 := Tryz.isAgg0
 z0 := Tryz.sizeOf0
 v0 := Tryz.zeroValue0
 t24 := Tryz.underlying191
 a24 := Tryz.isAgg191
 z24 := Tryz.sizeOf191
 v24 := Tryz.zeroValue191
 t26 := Tryz.underlying3
 a26 := Tryz.isAgg3
 z26 := Tryz.sizeOf3
 v26 := Tryz.zeroValue3
 t28 := Tryz.underlying204
 a28 := Tryz.isAgg204
 z28 := Tryz.sizeOf204
 v28 := Tryz.zeroValue204
 i26 := by kernel_rfl }
def sortI_ren : Go.Shelf.Ren := ⟨fun | 5 => 172 | 8 => 128 | 7 => 189 | 19 => 161 | 20 => 162 | 10 => 195 | 11 => 196 | 12 => 197 | 13 => 198 | 14 => 199 | 15 => 200 | 16 => 201 | 17 => 202 | 18 => 203 | 30 => 213 | 31 => 182 | 32 => 183 | 33 => 214 | 34 => 215 | 35 => 101 | 40 => 219 | n => n, fun | 23 => 191 | 25 => 3 | 3 => 3 | 32 => 168 | 22 => 191 | 0 => 0 | 44 => 193 | 46 => 30 | 4 => 4 | 36 => 220 | 35 => 219 | 41 => 118 | 5 => 5 | 9 => 9 | 53 => 239 | 57 => 243 | 63 => 250 | 64 => 251 | n => n, fun | n => n⟩
theorem sortI : Go.Proofs.SlLaysM.n5 Tryz.prog sortI_ren := {
 mixed := by kernel_rfl
 f5 := ⟨Tryz.f172.name, by decide, Tryz.func172.trans (congrArg some (by kernel_rfl))⟩
 f7 := ⟨Tryz.f189.name, by decide, Tryz.func189.trans (congrArg some (by kernel_rfl))⟩
 f8 := Tryz.func128.trans (congrArg some (by kernel_rfl))
 f10 := ⟨Tryz.f195.name, by decide, Tryz.func195.trans (congrArg some (by kernel_rfl))⟩
 f11 := ⟨Tryz.f196.name, by decide, Tryz.func196.trans (congrArg some (by kernel_rfl))⟩
 f12 := ⟨Tryz.f197.name, by decide, Tryz.func197.trans (congrArg some (by kernel_rfl))⟩
 f13 := ⟨Tryz.f198.name, by decide, Tryz.func198.trans (congrArg some (by kernel_rfl))⟩
 f14 := ⟨Tryz.f199.name, by decide, Tryz.func199.trans (congrArg some (by kernel_rfl))⟩
 f15 := ⟨Tryz.f200.name, by decide, Tryz.func200.trans (congrArg some (by kernel_rfl))⟩
 f16 := ⟨Tryz.f201.name, by decide, Tryz.func201.trans (congrArg some (by kernel_rfl))⟩
 f17 := ⟨Tryz.f202.name, by decide, Tryz.func202.trans (congrArg some (by kernel_rfl))⟩
 f18 := ⟨Tryz.f203.name, by decide, Tryz.func203.trans (congrArg some (by kernel_rfl))⟩
 f19 := Tryz.func161.trans (congrArg some (by kernel_rfl))
 f20 := Tryz.func162.trans (congrArg some (by kernel_rfl))
 f30 := ⟨Tryz.f213.name, by decide, Tryz.func213.trans (congrArg some (by kernel_rfl))⟩
 f31 := Tryz.func182.trans (congrArg some (by kernel_rfl))
 f32 := Tryz.func183.trans (congrArg some (by kernel_rfl))
 f33 := ⟨Tryz.f214.name, by decide, Tryz.func214.trans (congrArg some (by kernel_rfl))⟩
 f34 := ⟨Tryz.f215.name, by decide, Tryz.func215.trans (congrArg some (by kernel_rfl))⟩
 f35 := ⟨Tryz.f101.name, by decide, Tryz.func101.trans (congrArg some (by kernel_rfl))⟩
 f40 := ⟨Tryz.f219.name, by decide, Tryz.func219.trans (congrArg some (by kernel_rfl))⟩
 t0 := Tryz.underlying0
 a0 := Tryz.isAgg0
 z0 := Tryz.sizeOf0
 v0 := Tryz.zeroValue0
 t3 := Tryz.underlying3
 a3 := Tryz.isAgg3
 z3 := Tryz.sizeOf3
 v3 := Tryz.zeroValue3
 t4 := Tryz.underlying4
 a4 := Tryz.isAgg4
 z4 := Tryz.sizeOf4
 v4 := Tryz.zeroValue4
 t5 := Tryz.underlying5
 a5 := Tryz.isAgg5
 z5 := Tryz.sizeOf5
 v5 := Tryz.zeroValue5
 t9 := Tryz.underlying9
 a9 := Tryz.isAgg9
 z9 := Tryz.sizeOf9
 v9 := Tryz.zeroValue9
 t22 := Tryz.underlying191
 a22 := Tryz.isAgg191
 z22 := Tryz.sizeOf191
 v22 := Tryz.zeroValue191
 t23 := Tryz.underlying191
 a23 := Tryz.isAgg191
 z23 := Tryz.sizeOf191
 v23 := Tryz.zeroValue191
 t25 := Tryz.underlying3
 a25 := Tryz.isAgg3
 z25 := Tryz.sizeOf3
 v25 := Tryz.zeroValue3
 t32 := Tryz.underlying168
 a32 := Tryz.isAgg168
 z32 := Tryz.sizeOf168
 v32 := Tryz.zeroValue168
 t35 := Tryz.underlying219
 a35 := Tryz.isAgg219
 z35 := Tryz.sizeOf219
 v35 := Tryz.zeroValue219
 t36 := Tryz.underlying220
 a36 := Tryz.isAgg220
 z36 := Tryz.sizeOf220
 v36 := Tryz.zeroValue220
 t41 := Tryz.underlying118
 a41 := Tryz.isAgg118
 z41 := Tryz.sizeOf118
 v41 := Tryz.zeroValue118
 t44 := Tryz.underlying193
 a44 := Tryz.isAgg193
 z44 := Tryz.sizeOf193
 v44 := Tryz.zeroValue193
 t46 := Tryz.underlying30
 a46 := Tryz.isAgg30
 z46 := Tryz.sizeOf30
 v46 := Tryz.zeroValue30
 t53 := Tryz.underlying239
 a53 := Tryz.isAgg239
 z53 := Tryz.sizeOf239
 v53 := Tryz.zeroValue239
 t57 := Tryz.underlying243
 a57 := Tryz.isAgg243
 z57 := Tryz.sizeOf243
 v57 := Tryz.zeroValue243
 t63 := Tryz.underlying250
 a63 := Tryz.isAgg250
 z63 := Tryz.sizeOf250
 v63 := Tryz.zeroValue250
 t64 := Tryz.underlying251
 a64 := Tryz.isAgg251
 z64 := Tryz.sizeOf251
 v64 := Tryz.zeroValue251 }
end Go.Proofs.YtpfnaknmalojkaaGreat.PTopRows
namespace Go.Proofs.YtpfnaknmalojkaaGreat.PTopRows
open Go.RowKit Go.Maps Go.Sort Go.Proofs.YtpfnaknmalojkaaGreatW.PrintWords Go.Proofs.YtpfnaknmalojkaaGreatW.PrintLast Go.Proofs.YtpfnaknmalojkaaGreatW.PrintMore
set_option linter.unusedVariables false
set_option linter.unusedSimpArgs false
def cmpS (x y : S51) : Int := if x.f0 < y.f0 then -1 else if x.f0 > y.f0 then 1 else 0
theorem cmpS_f (x y : S51) : ZaQ.f x.f0 y.f0 = some (cmpS x y) := by
 unfold ZaQ.f ZaB.f cmpS
 by_cases h1 : x.f0 < y.f0
 ·simp [h1]
 ·by_cases h2 : x.f0 > y.f0
  ·simp [h1, h2]
  ·simp [h1, h2]
theorem ltS (x y : S51) : ltOf cmpS x y = decide (x.f0 < y.f0) := by
 unfold ltOf cmpS
 by_cases h1 : x.f0 < y.f0
 ·simp [h1]
 ·by_cases h2 : x.f0 > y.f0 <;> simp [h1, h2]
theorem swoS : SWO (ltOf cmpS) where
 irrefl x := by rw [ltS]; simp
 trans x y z h1 h2 := by rw [ltS] at *; simp at *; omega
 ntrans x y z h1 h2 := by rw [ltS] at *; simp at *; omega
theorem bySeq_calls (x y : S51) (W : World) : Calls Tryz.prog 49 #[.agg #[.int .i64 x.f0, .int .i64 x.f1, .int .i64 x.f2], .agg #[.int .i64 y.f0, .int .i64 y.f1, .int .i64 y.f2]] W fun e w' => e = .returned (.int .i64 (cmpS x y)) ∧ GrowOf W w' := by
 have hcon := fun W => ZaQ.calls x.f0 y.f0 (cmpS x y) W (cmpS_f x y)
 generalize cmpS x y = r at hcon ⊢
 obtain ⟨x0, x1, x2⟩ := x
 obtain ⟨y0, y1, y2⟩ := y
 simp only at hcon ⊢
 have hu51 := Tryz.underlying51
 go_enter Tryz.func49, Tryz.ntmps49
 go_wp2_with (fail)
 refine (hcon _).mono ?_
 rintro e w' ⟨rfl, ⟨n, rfl⟩⟩
 go_wp2_with (fail)
 go_ret
 exact ⟨rfl, n, #[.cells #[.int .i64 x0, .int .i64 x1, .int .i64 x2] 51, .cells #[.int .i64 y0, .int .i64 y1, .int .i64 y2] 51], by rw [alloc_eq_grow, alloc_eq_grow, grow_grow]; rfl⟩
theorem cmpLaysS (blk off size : Nat) (w : World) : CmpLays Tryz.prog 49 #[] rowL 3 cmpS blk off size w := fun _ _ _ _ x y => bySeq_calls x y _
theorem grown_sortK (g o n : Nat) (l : List S51) (d' : Array S51) (os : Array Obj) (w : World) : w.grownBy (sortWorldK rowL 3 w g o n d' os) (some g) := by
 unfold sortWorldK putRowK
 refine ⟨rfl, rfl, rfl, by simp [grow, Sort.ahead], fun k hk hne => ?_⟩
 have hkg : k ≠ g := fun e => hne (by rw [e])
 show ((putRow id (Sort.ahead w n) g o (flatK rowL 3 d')).heap ++ os)[k]? = _
 rw [Array.getElem?_append_left (by simp; exact hk)]
 have : g ≠ k := fun e => hkg e.symm
 simp [putRow, mapBlock, Sort.ahead, Array.getElem?_modify, this]
set_option maxHeartbeats 1000000 in
theorem sort_holds (g o cap : Nat) (l : List S51) (w : World) (hH : HoldsK rowL 3 w g o l.toArray) (hg : g < w.heap.size) (hl : l.length ≤ 1000000) :
  Calls Tryz.prog 97 #[.slice (some ⟨g, o, none⟩) l.length cap, .func (.func 49) #[] #[]] w fun e w' => e = .returned (.tuple #[]) ∧ ∃ l' : List S51, l'.Perm l ∧ l'.Pairwise (fun x y => ¬ y.f0 < x.f0) ∧ HoldsK rowL 3 w' g o l'.toArray ∧ w.grownBy w' (some g) := by
 have eg : ∀ args w, (callFunc 49 args).run Tryz.prog w = .ok (.enter 49 args) w := enters_of Tryz.func49 (by kernel_rfl) rfl
 have hcon := AnyQ.slices_SortFunc sortRow 3 Tryz.isAgg51 Tryz.sizeOf51 rowL (fun _ => rfl) rowL_one cmpS swoS 49 #[] g o cap l.toArray w eg (cmpLaysS g o l.toArray.size w) hH hg (by simp; omega)
 change Calls Tryz.prog 97 _ _ _ at hcon
 rw [List.size_toArray] at hcon
 refine hcon.mono fun e w' ⟨he, d', n, os, hp, hs, hw⟩ => ⟨he, d'.toList, ?_, ?_, ?_, ?_⟩
 ·obtain ⟨h1, h2, h3⟩ := hp
  have e1 : d'.extract 0 l.toArray.size = d' := by rw [← h1]; simp
  have e2 : l.toArray.extract 0 l.toArray.size = l.toArray := by simp
  rw [List.size_toArray] at e1 e2
  rw [e1, e2] at h3
  exact h3
 ·rw [List.pairwise_iff_getElem]
  intro i j hi hj hij
  have h1 := hs i j (Nat.zero_le _) hij (by have := hp.1; simp at this hj; omega)
  rw [ltS] at h1
  have hj' : j < d'.size := by simpa using hj
  have hi' : i < d'.size := by simpa using hi
  rw [getElem!_pos d' j hj', getElem!_pos d' i hi'] at h1
  simpa using h1
 ·subst hw
  have := holdsK_sortWorldK_c rowL 3 w g o l.toArray d' n os hH hg (by have := hp.1; simpa using this)
  simpa using this
 ·subst hw
  exact grown_sortK g o n l d' os w
theorem ZdI : ∀ {l T : List S51}, l.Perm T → l.Pairwise (fun x y => x.f0 < y.f0) → T.Pairwise (fun x y => x.f0 < y.f0) → l = T
 | [], T, hp, _, _ => by rw [hp.nil_eq]
 | a :: l, [], hp, _, _ => absurd hp.eq_nil (by simp)
 | a :: l, b :: T, hp, h1, h2 => by
  obtain ⟨q1, q2⟩ := List.pairwise_cons.1 h1
  obtain ⟨r1, r2⟩ := List.pairwise_cons.1 h2
  have hab : a = b := by
   rcases List.mem_cons.1 (hp.subset (List.mem_cons_self (a := a) (l := l))) with e | e
   ·exact e
   ·rcases List.mem_cons.1 (hp.symm.subset (List.mem_cons_self (a := b) (l := T))) with e' | e'
    ·exact e'.symm
    ·have := r1 a e
     have := q1 b e'
     omega
  subst hab
  rw [ZdI (List.perm_cons a |>.1 hp) q2 r2]
theorem sorted_uniq {l T : List S51} (hp : l.Perm T) (hl : l.Pairwise (fun x y => ¬ y.f0 < x.f0)) (hT : T.Pairwise (fun x y => x.f0 < y.f0)) : l = T := by
 have h1 : l.Pairwise (fun x y => x.f0 ≠ y.f0) := (hp.pairwise_iff (fun {_ _} h => Ne.symm h)).2 (hT.imp (fun h => by omega))
 refine ZdI hp ?_ hT
 exact List.Pairwise.imp₂ (fun _ _ h1 h2 => by omega) hl h1
theorem sort_nil (w : World) : Calls Tryz.prog 97 #[.slice none 0 0, .func (.func 49) #[] #[]] w fun e w' => e = .returned (.tuple #[]) ∧ w' = w := by
 have h := AnyF.slices_SortFunc_none sortRow none 0 (.func (.func 49) #[] #[]) w
 change Calls Tryz.prog 97 _ _ _ at h
 exact h
set_option maxHeartbeats 1000000 in
theorem sortedfunc2 (b N : Nat) (hN : N ≤ 1000000) (T : List S51) (w : World) (Bm : Nat) (hm : w.heap[Bm]? = some (.cells #[.map (some b)] 73 (0, 0))) (hT : TMap w b N T) :
  Calls Tryz.prog 47 #[.func (.func 98) #[] #[.pointer (some ⟨Bm, 0, none⟩)], .func (.func 49) #[] #[]] w fun e w' => ∃ v, e = .returned v ∧ SlR w' w.heap.size v T ∧ Below w.heap.size w w' := by
 have hTl : T.length ≤ N := hT.1
 have hTs : T.Pairwise (fun x y => x.f0 < y.f0) := by obtain ⟨_, D, _, h⟩ := hT; exact h.1
 have HC := collect_calls b N hN T w Bm hm hT
 clear hT hm
 go_enter Tryz.func47, Tryz.ntmps47
 go_wp2_with (fail)
 refine HC.mono ?_
 rintro e w1 ⟨xs, v, rfl, hp, hown, hb⟩
 have hxl : xs.length = T.length := hp.length_eq
 rcases SlR.of_own hown with ⟨rfl, h0⟩ | ⟨gs, o, cap, rfl, hgs, hgl, hcap, hh⟩
 ·subst h0
  have hTn : T = [] := hp.nil_eq.symm
  go_wp2_with (fail)
  refine (sort_nil _).mono ?_
  rintro e w2 ⟨rfl, rfl⟩
  go_wp2_with (fail)
  go_ret
  exact ⟨_, rfl, .inl ⟨rfl, hTn⟩, hb⟩
 ·have HS := Aside0.mk (sort_holds gs o cap xs w1 hh hgl (by omega))
  have HXL := Aside0.mk hxl
  clear hown hh hxl
  go_wp2_with (fail)
  refine HS.out.mono ?_
  rintro e w2 ⟨rfl, l', hp2, hs2, hh2, hg2⟩
  go_wp2_with (fail)
  go_ret
  have e1 : l' = T := sorted_uniq (hp2.trans hp) (hs2.imp (fun h => by omega)) hTs
  subst e1
  exact ⟨_, rfl, .inr ⟨gs, o, cap, by first | rfl | (rw [HXL.out]; rfl), hgs, Nat.lt_of_lt_of_le hgl hg2.size, by rw [← HXL.out]; exact hcap, hh2⟩, hb.grown hg2 hb.size (fun j hj => by obtain rfl := Option.some.inj hj; exact hgs)⟩
theorem rows2 (g N : Nat) (hN : N ≤ 1000000) (T : List S51) (w : World) (hT : Tb w g N T) :
  Calls Tryz.prog 15 #[.pointer (some ⟨g, 0, none⟩)] w fun e w' => ∃ v, e = .returned v ∧ SlR w' w.heap.size v T ∧ Below w.heap.size w w' := by
 obtain ⟨b, hg, hM⟩ := hT
 have hu73 := Tryz.underlying73
 have hu75 := Tryz.underlying75
 have c0 : w.cell? ⟨g, 0, none⟩ = some (.map (some b)) := (Zaa hg 0).trans rfl
 have hS := sortedfunc2 b N hN T (w.alloc (.cells #[.map (some b)] 73)) w.heap.size (Zas w _) (hM.below (Zab (Below.refl _ _) _))
 go_enter Tryz.func15, Tryz.ntmps15
 go_wp2_with (fail)
 refine (val_plain _ _).mono ?_
 rintro e w' ⟨rfl, rfl⟩
 go_wp2_with (fail)
 refine hS.mono ?_
 rintro e w' ⟨v, rfl, hv, hb⟩
 go_wp2_with (fail)
 go_ret
 have hsz : (w.alloc (.cells #[.map (some b)] 73)).heap.size = w.heap.size + 1 := World.size_alloc _ _
 refine ⟨_, rfl, ?_, Zae (Zab (Below.refl _ _) _) hb⟩
 rcases hv with h | ⟨gs, o, cap, h1, h2, h3⟩
 ·exact .inl h
 ·exact .inr ⟨gs, o, cap, h1, by omega, h3⟩
noncomputable abbrev intR : Value → Option (DataW Unit × List MemPlace) := plainElem Tryz.prog 3
def numD (n : Int) : DataW Unit := .lit (.int .i64 n)
def CntR (x : S51) : Prop := 1 ≤ x.f0 ∧ x.f0 < 1099511627776 ∧ 0 ≤ x.f1 ∧ x.f1 ≤ 1000000000 ∧ x.f2 = x.f1
theorem key_cnt {x : S51} (h : CntR x) : keyOf Tryz.prog 3 (.int .i64 x.f0) = some (.int .i64 x.f0) := keyOf_int_mk Tryz.underlying3 (wf_of (by have := h.1; omega) (by have := h.2.1; omega))
def CntOf (D : DataW Unit) (T : List S51) : Prop :=
 T.Pairwise (fun x y => x.f0 < y.f0) ∧ (∀ x ∈ T, CntR x) ∧ (∀ kl, Maps.has D kl = true ↔ ∃ x ∈ T, kl = .int .i64 x.f0) ∧ ∀ x ∈ T, ∀ zd, D.atKey (.int .i64 x.f0) zd = numD x.f1
def CMap (w : World) (b N : Nat) (T : List S51) : Prop := T.length ≤ N ∧ ∃ D, w.ownsMap Tryz.prog 3 intR b N D ∧ CntOf D T
theorem CntOf.nil : CntOf (.map []) [] := ⟨List.Pairwise.nil, by simp, fun kl => by simp [Maps.has], by simp⟩
theorem CMap.lt {w : World} {b N : Nat} {T : List S51} (h : CMap w b N T) : b < w.heap.size := by
 obtain ⟨_, D, h, _⟩ := h
 exact h.lt
theorem CMap.kept {w w' : World} {b N : Nat} {T : List S51} {row : Option Nat} (h : CMap w b N T) (hg : w.grownBy w' row) (hne : some b ≠ row) : CMap w' b N T := by
 obtain ⟨h0, D, h, h1⟩ := h
 exact ⟨h0, D, h.kept hg hne, h1⟩
theorem CMap.mono {w : World} {b N M : Nat} {T : List S51} (h : CMap w b N T) (hM : N ≤ M) : CMap w b M T := by
 obtain ⟨h0, D, h, h1⟩ := h
 exact ⟨by omega, D, h.mono hM, h1⟩
theorem CMap.below {w w' : World} {b N : Nat} {T : List S51} (h : CMap w b N T) (hb : Below w.heap.size w w') : CMap w' b N T := h.kept (Zax hb none) (by simp)
theorem CntOf.put {D : DataW Unit} {T : List S51} {x : S51} (h : CntOf D T) (hx : CntR x) (hm : IsMap D) : CntOf (D.put (.int .i64 x.f0) (numD x.f1)) (putT x T) := by
 obtain ⟨h1, h2, h3, h4⟩ := h
 have hk : WideAt.IsKeyLit (.int .i64 x.f0) := keyed3.key (key_cnt hx)
 refine ⟨Zbs h1, fun z hz => ?_, fun kl => ?_, fun z hz zd => ?_⟩
 ·rcases (ZaI h1).1 hz with rfl | ⟨hz, _⟩
  ·exact hx
  ·exact h2 z hz
 ·by_cases he : kl = .int .i64 x.f0
  ·subst he
   rw [has_put_same hm hk]
   simp only [true_iff]
   exact ⟨x, (ZaI h1).2 (.inl rfl), rfl⟩
  ·rw [has_put_other he, h3]
   constructor
   ·rintro ⟨z, hz, rfl⟩
    exact ⟨z, (ZaI h1).2 (.inr ⟨hz, fun e => he (by rw [e])⟩), rfl⟩
   ·rintro ⟨z, hz, rfl⟩
    rcases (ZaI h1).1 hz with rfl | ⟨hz, _⟩
    ·exact absurd rfl he
    ·exact ⟨z, hz, rfl⟩
 ·rcases (ZaI h1).1 hz with rfl | ⟨hz, hne⟩
  ·exact atKey_put_same hm hk _ _
  ·rw [atKey_put_other (by simpa using hne)]
   exact h4 z hz zd
def valT (T : List S51) (k : Int) : Int := ((findT T k).map (·.f1)).getD 0
theorem CntOf.has_iff {D : DataW Unit} {T : List S51} (h : CntOf D T) (k : Int) : Maps.has D (.int .i64 k) = (findT T k).isSome := by
 cases hf : findT T k with
 | some x =>
  obtain ⟨hx, rfl⟩ := ZaD hf
  rw [(h.2.2.1 _).2 ⟨x, hx, rfl⟩]
  rfl
 | none =>
  have hn := Zbb hf
  cases hh : Maps.has D (.int .i64 k) with
  | false => rfl
  | true =>
   obtain ⟨x, hx, e⟩ := (h.2.2.1 _).1 hh
   injection e with _ e
   exact absurd e.symm (hn x hx)
theorem zero3c (w : World) : (zeroValue 3).run Tryz.prog w = .ok (.int .i64 0) w := Tryz.zeroValue3 w
theorem CMap.look {w : World} {b N : Nat} {T : List S51} {k : Int} (h : CMap w b N T) (hk : (Lit.int .i64 k).wf = true) :
  (Instr.lookup 105 (.map (some b)) (.int .i64 k) false).run Tryz.prog w = .ok (.int .i64 (valT T k)) w := by
 obtain ⟨_, D, h, hm⟩ := h
 obtain ⟨c, hrun, hat, hwc⟩ := h.lookup_int keyed3 Tryz.underlying105 Tryz.underlying3 (zero3c w) (keyOf_int_mk Tryz.underlying3 hk)
 refine hrun.trans ?_
 have hc : c = valT T k := ?_
 ·rw [hc]
 unfold valT
 cases hf : findT T k with
 | some x =>
  obtain ⟨hx, rfl⟩ := ZaD hf
  rw [hm.2.2.2 x hx] at hat
  simp [numD] at hat
  simpa using hat.symm
 | none =>
  have hh : Maps.has D (.int .i64 k) = false := by rw [hm.has_iff, hf]; rfl
  rw [atKey_of_not_has hh] at hat
  simp at hat
  simpa using hat.symm
theorem wp_putC {ops : Array Oper} {rest : List Oper} {o : Oper} {a : Act} {Q : Exit → Act → World → Prop} {W : World} {b N : Nat} {T : List S51} (hg : o.guard = none) (m x v : Operand) (hop : o.op = Op.mapUpdate 105 m x v)
  (hT : CMap W b N T) (hN : N < 1000000) (X : S51) (hX : CntR X) (hm : a.eval m = .map (some b)) (hx : a.eval x = .int .i64 X.f0) (hv : a.eval v = .int .i64 X.f1)
  (hK : ∀ w', CMap w' b (N + 1) (putT X T) → W.grownBy w' (some b) → wpList Tryz.prog ops Q rest (a.put o.dst undef) w') : wpList Tryz.prog ops Q (o :: rest) a W := by
 obtain ⟨h0, D, hown, hD⟩ := hT
 have hwf : (Lit.int .i64 X.f1).wf = true := wf_of (by have := hX.2.2.1; omega) (by have := hX.2.2.2.1; omega)
 refine wpList_mapUpdate_own W hg m x v 105 hop 3 3 keyed3 Tryz.underlying105 intR b N D hm hown (by unfold maxLen; omega) _ _ _ hx hv (key_cnt hX) (numD X.f1) [] (plainElem_int Tryz.underlying3 hwf) fun w' h1 h2 => ?_
 refine hK w' ⟨?_, _, h1, hD.put hX hown.isMap⟩ h2
 have := ZdA X T
 omega
def MayE (x : S86) : Prop := 0 ≤ x.f0.f0 ∧ 1 ≤ x.f0.f1 ∧ x.f0.f0 + x.f0.f1 ≤ 65536 ∧ 0 ≤ x.f1.f0 ∧ x.f1.f0 < 1099511627776 ∧ 0 ≤ x.f1.f1 ∧ x.f1.f1 < 1099511627776
instance (x : S86) : Decidable (MayE x) := by unfold MayE; infer_instance
theorem mayE_f (x : S86) : ZbB.f x.f0.f0 x.f0.f1 x.f1.f0 x.f1.f1 = some (if MayE x then 0 else 1) := by
 unfold ZbB.f ZaZ.f Za8.f
 by_cases h1 : x.f0.f0 < 0
 ·simp [h1]
  unfold MayE
  omega
 ·by_cases h2 : x.f0.f0 > 65536
  ·simp [h1, h2]
   unfold MayE
   omega
  ·have hw : wrap64 (65536 - x.f0.f0) = 65536 - x.f0.f0 := by unfold wrap64; omega
   rw [hw]
   by_cases h3 : x.f0.f1 < 1
   ·simp [h1, h2, h3]
    unfold MayE
    omega
   ·by_cases h4 : x.f0.f1 > 65536 - x.f0.f0
    ·simp [h1, h2, h3, h4]
     unfold MayE
     omega
    ·by_cases h5 : x.f1.f0 ≥ 0
     ·by_cases h6 : x.f1.f0 < 1099511627776
      ·by_cases h7 : x.f1.f1 ≥ 0
       ·by_cases h8 : x.f1.f1 < 1099511627776
        ·simp [h1, h2, h3, h4, h5, h6, h7, h8]
         unfold MayE
         omega
        ·simp [h1, h2, h3, h4, h5, h6, h7, h8]
         unfold MayE
         omega
       ·simp [h1, h2, h3, h4, h5, h6, h7]
        unfold MayE
        omega
      ·simp [h1, h2, h3, h4, h5, h6]
       unfold MayE
       omega
     ·simp [h1, h2, h3, h4, h5]
      unfold MayE
      omega
def addE (T : List S51) (x : S86) : List S51 := if x.f1.f0 = 0 then T else putT ⟨x.f1.f0, valT T x.f1.f0 + x.f0.f1, valT T x.f1.f0 + x.f0.f1⟩ T
def cntE : List S51 → List S86 → List S51
 | T, [] => T
 | T, x :: l => cntE (addE T x) l
theorem rd_T86_get {l : List S86} {k : Nat} (h : k < l.length) : rd_T86 l (k : Int) = l[k] := by
 unfold rd_T86
 rw [List.getD_eq_getElem?_getD, Int.toNat_natCast, List.getElem?_eq_getElem h]
 rfl
theorem ZaF {w : World} {A : Option Addr} {l : List S86} (h : Kd.C k86 w A l.length l) (k : Nat) (hk : k < l.length) : ∃ ad, A = some ad ∧ w.cell? (ad.add (k * 4)) = some (.int .i64 l[k].f0.f0) ∧ w.cell? ⟨(ad.add (k * 4)).block, (ad.add (k * 4)).off + 1, none⟩ = some (.int .i64 l[k].f0.f1) ∧ w.cell? ⟨(ad.add (k * 4)).block, (ad.add (k * 4)).off + 2, none⟩ = some (.int .i64 l[k].f1.f0) ∧ w.cell? ⟨(ad.add (k * 4)).block, (ad.add (k * 4)).off + 3, none⟩ = some (.int .i64 l[k].f1.f1) := by
 obtain ⟨ad, e, h0, h1, h2, h3⟩ := at_T86 h (k : Int) (by omega) (by omega)
 rw [rd_T86_get hk, Int.toNat_natCast] at h0 h1 h2 h3
 exact ⟨ad, e, h0, h1, h2, h3⟩
theorem Zcx {l : List S86} {k : Nat} (h : k < l.length) : l.drop k = l[k] :: l.drop (k + 1) := List.drop_eq_getElem_cons h
theorem ZcX {T : List S51} {B : Int} (h : ∀ x ∈ T, 0 ≤ x.f1 ∧ x.f1 ≤ B) (hB : 0 ≤ B) (k : Int) : 0 ≤ valT T k ∧ valT T k ≤ B := by
 unfold valT
 cases hf : findT T k with
 | some x => simpa using h x (ZaD hf).1
 | none => simpa using hB
set_option maxRecDepth 100000 in
set_option maxHeartbeats 4000000 in
theorem ZbI (A : Option Addr) (c : Nat) (l : List S86) (hl : l.length ≤ 40) (w : World) (hr : Kd.C k86 w A l.length l) :
  Calls Tryz.prog 45 #[.slice A l.length c] w fun e w' => Below w.heap.size w w' ∧
   (((∀ x ∈ l, MayE x) ∧ e = .returned (.tuple #[.map (some w.heap.size), .bool true]) ∧ CMap w' w.heap.size 40 (cntE [] l)) ∨ ((¬ ∀ x ∈ l, MayE x) ∧ e = .returned (.tuple #[.map none, .bool false]))) := by
 have HR := Aside0.mk hr
 clear hr
 have hmm := @run_makeMap Tryz.prog
 have hu105 := Tryz.underlying105
 have hu86 := Tryz.underlying86
 have hu84 := Tryz.underlying84
 have hu70 := Tryz.underlying70
 have hu3 := Tryz.underlying3
 have HM0 : Aside0 (CMap (w.alloc (.map #[] 0)) w.heap.size 0 []) := ⟨by simp, _, World.ownsMap_made w Tryz.prog 3 intR, CntOf.nil⟩
 have HB0 := Aside0.mk (Zab (Below.refl w.heap.size w) (.map #[] 0))
 go_enter Tryz.func45, Tryz.ntmps45
 go_wp2_with (fail)
 generalize (w.alloc (.map #[] 0)) = w1 at HM0 HB0 ⊢
 go_loopw [10] (fun v10 wr => ∃ (k : Nat) (T : List S51), k ≤ l.length ∧ v10 = .int .i64 k ∧ Aside0 (Below w.heap.size w wr) ∧ Aside0 (CMap wr w.heap.size k T) ∧ Aside0 (cntE [] l = cntE T (l.drop k)) ∧ Aside0 (∀ j (h : j < l.length), j < k → MayE l[j]) ∧ Aside0 (∀ x ∈ T, 0 ≤ x.f1 ∧ x.f1 ≤ 65536 * (k : Int))) (fun v10 _ => l.length - (intOf v10).toNat)
 case atStart => exact ⟨0, [], Nat.zero_le _, rfl, HB0, HM0, ⟨by simp⟩, ⟨fun j h hj => absurd hj (Nat.not_lt_zero _)⟩, ⟨by simp⟩⟩
 case round =>
  as_aux_lemma =>
   clear HM0 HB0
   obtain ⟨k, T, hk, rfl, HB, HM, HE, HA, HV⟩ := hrel
   by_cases hlt : k < l.length
   ·have hk1 : k + 1 ≤ l.length := hlt
    obtain ⟨ad, rfl, c0, c1, c2, c3⟩ := ZaF (Kd.C_below HR.out HB.out) k hlt
    have hcall := fun W => ZbB.calls _ _ _ _ _ W (mayE_f l[k])
    generalize hx : l[k] = x at c0 c1 c2 c3 hcall
    have HX := Aside0.mk hx
    clear hx
    have hbx := Aside0.mk (Zas wr (.cells #[.int .i64 x.f0.f0, .int .i64 x.f0.f1, .int .i64 x.f1.f0, .int .i64 x.f1.f1] 86))
    have HBa := Aside0.mk (Zab HB.out (.cells #[.int .i64 x.f0.f0, .int .i64 x.f0.f1, .int .i64 x.f1.f0, .int .i64 x.f1.f1] 86))
    have HMa := Aside0.mk (HM.out.below (Zab (Below.refl _ _) (.cells #[.int .i64 x.f0.f0, .int .i64 x.f0.f1, .int .i64 x.f1.f0, .int .i64 x.f1.f1] 86)))
    by_cases hm : MayE x
    ·rw [if_pos hm] at hcall
     have HMx := Aside0.mk hm
     clear hm
     by_cases hz : x.f1.f0 = 0
     ·
      as_aux_lemma =>
       have hzb : (x.f1.f0 == 0) = true := by rw [hz]; rfl
       have HZ := Aside0.mk hz
       clear hz
       go_wp2_with (fail)
       refine (hcall _).mono ?_
       rintro e w2 ⟨rfl, hb2⟩
       have HB2 := Aside0.mk (Zae HBa.out hb2)
       have HM2 := Aside0.mk (HMa.out.below hb2)
       have bx := Zag hbx.out hb2
       have k2 : w2.cell? ⟨wr.heap.size, 2, none⟩ = some (.int .i64 x.f1.f0) := (Zaa bx 2).trans rfl
       clear hb2 bx c0 c1 c2 c3
       go_wp2_with (fail)
       refine ⟨⟨k + 1, T, hk1, by go_num, HB2, ⟨?_⟩, ⟨?_⟩, ⟨fun j h hj => ?_⟩, ⟨fun y hy => ?_⟩⟩, by simp [intOf]; omega⟩
       ·exact HM2.out.mono (by omega)
       ·rw [HE.out, Zcx hlt, HX.out]
        show cntE (addE T x) _ = _
        unfold addE
        rw [if_pos HZ.out]
       ·by_cases e : j = k
        ·subst e
         rw [HX.out]
         exact HMx.out
        ·exact HA.out j h (by omega)
       ·have := HV.out y hy
        omega
     ·
      as_aux_lemma =>
       have hzb : (x.f1.f0 == 0) = false := by rw [beq_eq_false_iff_ne]; exact hz
       have HZ := Aside0.mk hz
       clear hz
       go_wp2_with (fail)
       refine (hcall _).mono ?_
       rintro e w2 ⟨rfl, hb2⟩
       have HB2 := Aside0.mk (Zae HBa.out hb2)
       have HM2 := Aside0.mk (HMa.out.below hb2)
       have bx := Zag hbx.out hb2
       have k1 : w2.cell? ⟨wr.heap.size, 1, none⟩ = some (.int .i64 x.f0.f1) := (Zaa bx 1).trans rfl
       have k2 : w2.cell? ⟨wr.heap.size, 2, none⟩ = some (.int .i64 x.f1.f0) := (Zaa bx 2).trans rfl
       obtain ⟨m1, m2, m3, m4, m5, m6, m7⟩ := HMx.out
       have hlk := HM2.out.look (k := x.f1.f0) (wf_of (by omega) (by omega))
       obtain ⟨v1, v2⟩ := ZcX (B := 65536 * (k : Int)) HV.out (by omega) x.f1.f0
       have hcn : CntR ⟨x.f1.f0, valT T x.f1.f0 + x.f0.f1, valT T x.f1.f0 + x.f0.f1⟩ := ⟨by have := HZ.out; simp only; omega, m5, by simp only; omega, by simp only; omega, rfl⟩
       have HCN := Aside0.mk hcn
       have hwr : IntKind.i64.wrap (valT T x.f1.f0 + x.f0.f1) = valT T x.f1.f0 + x.f0.f1 := IntWalk.i64_in _ (by omega)
       have hM2 := HM2.out
       clear hb2 bx c0 c1 c2 c3 hcn m1 m2 m3 m4 m5 m6 m7
       go_wp2_with (at_mapUpdate; go_loud (refine wp_putC rfl _ _ _ rfl hM2 (by omega) ⟨x.f1.f0, valT T x.f1.f0 + x.f0.f1, valT T x.f1.f0 + x.f0.f1⟩ HCN.out rfl rfl rfl ?_); intro w6 hT6 hg6)
       refine ⟨⟨k + 1, putT ⟨x.f1.f0, valT T x.f1.f0 + x.f0.f1, valT T x.f1.f0 + x.f0.f1⟩ T, hk1, by go_num, ⟨HB2.out.grown hg6 HB2.out.size (fun j hj => by obtain rfl := Option.some.inj hj; exact Nat.le_refl _)⟩, ⟨?_⟩, ⟨?_⟩, ⟨fun j h hj => ?_⟩, ⟨fun y hy => ?_⟩⟩, by simp [intOf]; omega⟩
       ·exact hT6
       ·rw [HE.out, Zcx hlt, HX.out]
        show cntE (addE T x) _ = _
        unfold addE
        rw [if_neg HZ.out]
       ·by_cases e : j = k
        ·subst e
         rw [HX.out]
         exact HMx.out
        ·exact HA.out j h (by omega)
       ·have hs : T.Pairwise (fun x y => x.f0 < y.f0) := by obtain ⟨_, D, _, hD⟩ := HM.out; exact hD.1
        rcases (ZaI hs).1 hy with rfl | ⟨hy, _⟩
        ·have h1 := HMx.out.2.1
         have h2 := HMx.out.1
         have h3 := HMx.out.2.2.1
         simp only
         omega
        ·have := HV.out y hy
         omega
    ·
     as_aux_lemma =>
      rw [if_neg hm] at hcall
      have HMx := Aside0.mk hm
      clear hm
      go_wp2_with (fail)
      refine (hcall _).mono ?_
      rintro e w2 ⟨rfl, hb2⟩
      have HB2 := Aside0.mk (Zae HBa.out hb2)
      clear hb2 c0 c1 c2 c3
      go_wp2_with (fail)
      go_ret2
      exact ⟨HB2.out, .inr ⟨fun h => HMx.out (by rw [← HX.out]; exact h _ (List.getElem_mem hlt)), rfl⟩⟩
   ·have : k = l.length := by omega
    subst this
    go_wp2_with (fail)
    go_ret2
    refine ⟨HB.out, .inl ⟨fun x hx => ?_, rfl, ?_⟩⟩
    ·obtain ⟨j, hj, rfl⟩ := List.getElem_of_mem hx
     exact HA.out j hj hj
    ·rw [HE.out, List.drop_length]
     exact HM.out.mono hl
theorem ZaH (a : Int) (h : -9223372036854775808 ≤ a ∧ a ≤ 9223372036854775807) : wrap64 a = a := by unfold wrap64; omega
theorem findT_not {T : List S51} {q : Int} (h : ∀ x ∈ T, x.f0 ≠ q) : findT T q = none := by
 cases hf : findT T q with
 | none => rfl
 | some y =>
  obtain ⟨h1, h2⟩ := ZaD hf
  exact absurd h2 (h y h1)
theorem Zef {T : List S51} (hs : T.Pairwise (fun x y => x.f0 < y.f0)) (x : S86) : (addE T x).Pairwise (fun x y => x.f0 < y.f0) := by
 unfold addE
 split
 ·exact hs
 ·exact Zbs hs
def NetR (x : S51) : Prop := 1 ≤ x.f0 ∧ x.f0 < 1099511627776 ∧ -1000000000 ≤ x.f1 ∧ x.f1 ≤ 1000000000 ∧ x.f2 = x.f1
theorem key_net {x : S51} (h : NetR x) : keyOf Tryz.prog 3 (.int .i64 x.f0) = some (.int .i64 x.f0) := keyOf_int_mk Tryz.underlying3 (wf_of (by have := h.1; omega) (by have := h.2.1; omega))
def NetOf (D : DataW Unit) (T : List S51) : Prop :=
 T.Pairwise (fun x y => x.f0 < y.f0) ∧ (∀ x ∈ T, NetR x) ∧ (∀ kl, Maps.has D kl = true ↔ ∃ x ∈ T, kl = .int .i64 x.f0) ∧ ∀ x ∈ T, ∀ zd, D.atKey (.int .i64 x.f0) zd = numD x.f1
def NMap (w : World) (b N : Nat) (T : List S51) : Prop := T.length ≤ N ∧ ∃ D, w.ownsMap Tryz.prog 3 intR b N D ∧ NetOf D T
theorem NMap.lt {w : World} {b N : Nat} {T : List S51} (h : NMap w b N T) : b < w.heap.size := by
 obtain ⟨_, D, h, _⟩ := h
 exact h.lt
theorem NMap.kept {w w' : World} {b N : Nat} {T : List S51} {row : Option Nat} (h : NMap w b N T) (hg : w.grownBy w' row) (hne : some b ≠ row) : NMap w' b N T := by
 obtain ⟨h0, D, h, h1⟩ := h
 exact ⟨h0, D, h.kept hg hne, h1⟩
theorem NMap.mono {w : World} {b N M : Nat} {T : List S51} (h : NMap w b N T) (hM : N ≤ M) : NMap w b M T := by
 obtain ⟨h0, D, h, h1⟩ := h
 exact ⟨by omega, D, h.mono hM, h1⟩
theorem NMap.below {w w' : World} {b N : Nat} {T : List S51} (h : NMap w b N T) (hb : Below w.heap.size w w') : NMap w' b N T := h.kept (Zax hb none) (by simp)
theorem NetOf.put {D : DataW Unit} {T : List S51} {x : S51} (h : NetOf D T) (hx : NetR x) (hm : IsMap D) : NetOf (D.put (.int .i64 x.f0) (numD x.f1)) (putT x T) := by
 obtain ⟨h1, h2, h3, h4⟩ := h
 have hk : WideAt.IsKeyLit (.int .i64 x.f0) := keyed3.key (key_net hx)
 refine ⟨Zbs h1, fun z hz => ?_, fun kl => ?_, fun z hz zd => ?_⟩
 ·rcases (ZaI h1).1 hz with rfl | ⟨hz, _⟩
  ·exact hx
  ·exact h2 z hz
 ·by_cases he : kl = .int .i64 x.f0
  ·subst he
   rw [has_put_same hm hk]
   simp only [true_iff]
   exact ⟨x, (ZaI h1).2 (.inl rfl), rfl⟩
  ·rw [has_put_other he, h3]
   constructor
   ·rintro ⟨z, hz, rfl⟩
    exact ⟨z, (ZaI h1).2 (.inr ⟨hz, fun e => he (by rw [e])⟩), rfl⟩
   ·rintro ⟨z, hz, rfl⟩
    rcases (ZaI h1).1 hz with rfl | ⟨hz, _⟩
    ·exact absurd rfl he
    ·exact ⟨z, hz, rfl⟩
 ·rcases (ZaI h1).1 hz with rfl | ⟨hz, hne⟩
  ·exact atKey_put_same hm hk _ _
  ·rw [atKey_put_other (by simpa using hne)]
   exact h4 z hz zd
theorem NetOf.has_iff {D : DataW Unit} {T : List S51} (h : NetOf D T) (k : Int) : Maps.has D (.int .i64 k) = (findT T k).isSome := by
 cases hf : findT T k with
 | some x =>
  obtain ⟨hx, rfl⟩ := ZaD hf
  rw [(h.2.2.1 _).2 ⟨x, hx, rfl⟩]
  rfl
 | none =>
  have hn := Zbb hf
  cases hh : Maps.has D (.int .i64 k) with
  | false => rfl
  | true =>
   obtain ⟨x, hx, e⟩ := (h.2.2.1 _).1 hh
   injection e with _ e
   exact absurd e.symm (hn x hx)
theorem NMap.look {w : World} {b N : Nat} {T : List S51} {k : Int} (h : NMap w b N T) (hk : (Lit.int .i64 k).wf = true) :
  (Instr.lookup 105 (.map (some b)) (.int .i64 k) false).run Tryz.prog w = .ok (.int .i64 (valT T k)) w := by
 obtain ⟨_, D, h, hm⟩ := h
 obtain ⟨c, hrun, hat, hwc⟩ := h.lookup_int keyed3 Tryz.underlying105 Tryz.underlying3 (zero3c w) (keyOf_int_mk Tryz.underlying3 hk)
 refine hrun.trans ?_
 have hc : c = valT T k := ?_
 ·rw [hc]
 unfold valT
 cases hf : findT T k with
 | some x =>
  obtain ⟨hx, rfl⟩ := ZaD hf
  rw [hm.2.2.2 x hx] at hat
  simp [numD] at hat
  simpa using hat.symm
 | none =>
  have hh : Maps.has D (.int .i64 k) = false := by rw [hm.has_iff, hf]; rfl
  rw [atKey_of_not_has hh] at hat
  simp at hat
  simpa using hat.symm
theorem wp_putN {ops : Array Oper} {rest : List Oper} {o : Oper} {a : Act} {Q : Exit → Act → World → Prop} {W : World} {b N : Nat} {T : List S51} (hg : o.guard = none) (m x v : Operand) (hop : o.op = Op.mapUpdate 105 m x v)
  (hT : NMap W b N T) (hN : N < 1000000) (X : S51) (hX : NetR X) (hm : a.eval m = .map (some b)) (hx : a.eval x = .int .i64 X.f0) (hv : a.eval v = .int .i64 X.f1)
  (hK : ∀ w', NMap w' b (N + 1) (putT X T) → W.grownBy w' (some b) → wpList Tryz.prog ops Q rest (a.put o.dst undef) w') : wpList Tryz.prog ops Q (o :: rest) a W := by
 obtain ⟨h0, D, hown, hD⟩ := hT
 have hwf : (Lit.int .i64 X.f1).wf = true := wf_of (by have := hX.2.2.1; omega) (by have := hX.2.2.2.1; omega)
 refine wpList_mapUpdate_own W hg m x v 105 hop 3 3 keyed3 Tryz.underlying105 intR b N D hm hown (by unfold maxLen; omega) _ _ _ hx hv (key_net hX) (numD X.f1) [] (plainElem_int Tryz.underlying3 hwf) fun w' h1 h2 => ?_
 refine hK w' ⟨?_, _, h1, hD.put hX hown.isMap⟩ h2
 have := ZdA X T
 omega
def LooseR (x : S51) : Prop := 1 ≤ x.f0 ∧ x.f0 < 1099511627776 ∧ -3000000000 ≤ x.f1 ∧ x.f1 ≤ 3000000000 ∧ -3000000000 ≤ x.f2 ∧ x.f2 ≤ 3000000000
theorem key_loose {x : S51} (h : LooseR x) : keyOf Tryz.prog 3 (.int .i64 x.f0) = some (.int .i64 x.f0) := keyOf_int_mk Tryz.underlying3 (wf_of (by have := h.1; omega) (by have := h.2.1; omega))
theorem MayR.loose {x : S51} (h : MayR x) : LooseR x := by
 obtain ⟨h1, h2, h3, h4, h5, h6⟩ := h
 exact ⟨h1, h2, by omega, by omega, by omega, by omega⟩
def LooseOf (D : DataW Unit) (T : List S51) : Prop :=
 T.Pairwise (fun x y => x.f0 < y.f0) ∧ (∀ x ∈ T, LooseR x) ∧ (∀ kl, Maps.has D kl = true ↔ ∃ x ∈ T, kl = .int .i64 x.f0) ∧ ∀ x ∈ T, ∀ zd, D.atKey (.int .i64 x.f0) zd = rowD x
def LMap (w : World) (b N : Nat) (T : List S51) : Prop := T.length ≤ N ∧ ∃ D, w.ownsMap Tryz.prog 3 rowR b N D ∧ LooseOf D T
theorem LMap.kept {w w' : World} {b N : Nat} {T : List S51} {row : Option Nat} (h : LMap w b N T) (hg : w.grownBy w' row) (hne : some b ≠ row) : LMap w' b N T := by
 obtain ⟨h0, D, h, h1⟩ := h
 exact ⟨h0, D, h.kept hg hne, h1⟩
theorem LMap.mono {w : World} {b N M : Nat} {T : List S51} (h : LMap w b N T) (hM : N ≤ M) : LMap w b M T := by
 obtain ⟨h0, D, h, h1⟩ := h
 exact ⟨by omega, D, h.mono hM, h1⟩
theorem LMap.below {w w' : World} {b N : Nat} {T : List S51} (h : LMap w b N T) (hb : Below w.heap.size w w') : LMap w' b N T := by
 obtain ⟨h0, D, ⟨es, clock, hh, F, hs, hD⟩, h1⟩ := h
 exact ⟨h0, D, ⟨es, clock, (hb.block b (Array.getElem?_eq_some_iff.1 hh).1).trans hh, F, hs, hD⟩, h1⟩
theorem LooseOf.put {D : DataW Unit} {T : List S51} {x : S51} (h : LooseOf D T) (hx : LooseR x) (hm : IsMap D) : LooseOf (D.put (.int .i64 x.f0) (rowD x)) (putT x T) := by
 obtain ⟨h1, h2, h3, h4⟩ := h
 have hk : WideAt.IsKeyLit (.int .i64 x.f0) := by
  have := keyed3.key (key_loose hx)
  exact this
 refine ⟨Zbs h1, fun z hz => ?_, fun kl => ?_, fun z hz zd => ?_⟩
 ·rcases (ZaI h1).1 hz with rfl | ⟨hz, _⟩
  ·exact hx
  ·exact h2 z hz
 ·by_cases he : kl = .int .i64 x.f0
  ·subst he
   rw [has_put_same hm hk]
   simp only [true_iff]
   exact ⟨x, (ZaI h1).2 (.inl rfl), rfl⟩
  ·rw [has_put_other he, h3]
   constructor
   ·rintro ⟨z, hz, rfl⟩
    exact ⟨z, (ZaI h1).2 (.inr ⟨hz, fun e => he (by rw [e])⟩), rfl⟩
   ·rintro ⟨z, hz, rfl⟩
    rcases (ZaI h1).1 hz with rfl | ⟨hz, _⟩
    ·exact absurd rfl he
    ·exact ⟨z, hz, rfl⟩
 ·rcases (ZaI h1).1 hz with rfl | ⟨hz, hne⟩
  ·exact atKey_put_same hm hk _ _
  ·rw [atKey_put_other (by simpa using hne)]
   exact h4 z hz zd
theorem LooseOf.has_iff {D : DataW Unit} {T : List S51} (h : LooseOf D T) (k : Int) : Maps.has D (.int .i64 k) = (findT T k).isSome := by
 cases hf : findT T k with
 | some x =>
  obtain ⟨hx, rfl⟩ := ZaD hf
  rw [(h.2.2.1 _).2 ⟨x, hx, rfl⟩]
  rfl
 | none =>
  have hn := Zbb hf
  cases hh : Maps.has D (.int .i64 k) with
  | false => rfl
  | true =>
   obtain ⟨x, hx, e⟩ := (h.2.2.1 _).1 hh
   injection e with _ e
   exact absurd e.symm (hn x hx)
theorem LMap.look {w : World} {b N : Nat} {T : List S51} {k : Int} (h : LMap w b N T) (hk : (Lit.int .i64 k).wf = true) :
  (Instr.lookup 73 (.map (some b)) (.int .i64 k) true).run Tryz.prog w = .ok (.tuple #[rowV ((findT T k).getD ⟨0, 0, 0⟩), .bool (findT T k).isSome]) w := by
 obtain ⟨_, D, h, hm⟩ := h
 obtain ⟨v, ps, hrun, hv⟩ := h.look_ok keyed3 Tryz.underlying73 (zero51 w) (ZdO ⟨0, 0, 0⟩) (keyOf_int_mk Tryz.underlying3 hk)
 rw [hm.has_iff k] at hrun
 cases hf : findT T k with
 | some x =>
  obtain ⟨hx, rfl⟩ := ZaD hf
  rw [hm.2.2.2 x hx] at hv
  obtain ⟨y, rfl, hy⟩ := ZcF hv
  have hy := (Prod.mk.inj hy).1
  rw [hf] at hrun
  rw [← ZcG hy] at hrun
  exact hrun
 | none =>
  have hd : ∀ z, D.atKey (.int .i64 k) z = z := fun z => by
   have : Maps.has D (.int .i64 k) = false := by rw [hm.has_iff, hf]; rfl
   exact atKey_of_not_has this z
  rw [hd] at hv
  obtain ⟨y, rfl, hy⟩ := ZcF hv
  have hy := (Prod.mk.inj hy).1
  rw [hf] at hrun
  rw [← ZcG hy] at hrun
  exact hrun
theorem wp_putL {ops : Array Oper} {rest : List Oper} {o : Oper} {a : Act} {Q : Exit → Act → World → Prop} {W : World} {b N : Nat} {T : List S51} (hg : o.guard = none) (m x v : Operand) (hop : o.op = Op.mapUpdate 73 m x v)
  (hT : LMap W b N T) (hN : N < 1000000) (X : S51) (hX : LooseR X) (hm : a.eval m = .map (some b)) (hx : a.eval x = .int .i64 X.f0) (hv : a.eval v = rowV X)
  (hK : ∀ w', LMap w' b (N + 1) (putT X T) → W.grownBy w' (some b) → wpList Tryz.prog ops Q rest (a.put o.dst undef) w') : wpList Tryz.prog ops Q (o :: rest) a W := by
 obtain ⟨h0, D, hown, hD⟩ := hT
 refine wpList_mapUpdate_own W hg m x v 73 hop 3 51 keyed3 Tryz.underlying73 rowR b N D hm hown (by unfold maxLen; omega) _ _ _ hx hv (key_loose hX) (rowD X) [] (ZdO X) fun w' h1 h2 => ?_
 refine hK w' ⟨?_, _, h1, hD.put hX ?_⟩ h2
 ·have := ZdA X T
  omega
 ·exact hown.isMap
theorem TMap.loose {w : World} {b N : Nat} {T : List S51} (h : TMap w b N T) : LMap w b N T := by
 obtain ⟨h0, D, h, h1, h2, h3, h4⟩ := h
 exact ⟨h0, D, h, h1, fun x hx => (h2 x hx).loose, h3, h4⟩
theorem LMap.tight {w : World} {b N : Nat} {T : List S51} (h : LMap w b N T) (hm : ∀ x ∈ T, MayR x) : TMap w b N T := by
 obtain ⟨h0, D, h, h1, h2, h3, h4⟩ := h
 exact ⟨h0, D, h, h1, hm, h3, h4⟩
theorem CMap.net {w : World} {b N : Nat} {T : List S51} (h : CMap w b N T) : NMap w b N T := by
 obtain ⟨h0, D, h, h1, h2, h3, h4⟩ := h
 refine ⟨h0, D, h, h1, fun x hx => ?_, h3, h4⟩
 obtain ⟨q1, q2, q3, q4, q5⟩ := h2 x hx
 exact ⟨q1, q2, by omega, q4, q5⟩
def TbB (w : World) (g b N : Nat) (T : List S51) : Prop := w.heap[g]? = some (.cells #[.map (some b)] 75 (0, 0)) ∧ TMap w b N T
theorem TbB.tb {w : World} {g b N : Nat} {T : List S51} (h : TbB w g b N T) : Tb w g N T := ⟨b, h⟩
theorem TbB.mono {w : World} {g b N M : Nat} {T : List S51} (h : TbB w g b N T) (hM : N ≤ M) : TbB w g b M T := ⟨h.1, h.2.mono hM⟩
theorem TbB.below {w w' : World} {g b N : Nat} {T : List S51} (h : TbB w g b N T) (hb : Below w.heap.size w w') : TbB w' g b N T := ⟨Zag h.1 hb, h.2.below hb⟩
theorem TbB.grown {w w' : World} {g b N : Nat} {T : List S51} {row : Option Nat} (h : TbB w g b N T) (hg : w.grownBy w' row) (h1 : some g ≠ row) (h2 : some b ≠ row) : TbB w' g b N T := ⟨(hg.block g (blk_lt h.1) h1).trans h.1, h.2.kept hg h2⟩
theorem newB (w : World) : Calls Tryz.prog 6 #[] w fun e w' => ∃ g b, e = .returned (.pointer (some ⟨g, 0, none⟩)) ∧ w.heap.size ≤ g ∧ w.heap.size ≤ b ∧ TbB w' g b 0 [] ∧ Below w.heap.size w w' := by
 have hmm := @run_makeMap Tryz.prog
 go_enter Tryz.func6, Tryz.ntmps6
 go_wp2
 go_ret
 refine ⟨_, w.heap.size, rfl, by simp, Nat.le_refl _, ⟨(by have h := Zas (w.alloc (Obj.map #[] 0)) (.cells #[.map (some w.heap.size)] 75); rwa [World.size_alloc] at h), ?_⟩, Zab (Zab (Below.refl _ _) _) _⟩
 exact TMap.below ⟨by simp, _, World.ownsMap_made w Tryz.prog 3 rowR, MapOf.nil⟩ (Zab (Below.refl _ _) _)
set_option maxRecDepth 100000 in
set_option maxHeartbeats 2000000 in
theorem addB_calls (g b0 N : Nat) (T : List S51) (A : Option Addr) (c : Nat) (l : List S51) (w : World) (hT : TbB w g b0 N T) (hr : Kd.C k51 w A l.length l) (hN : N + l.length < 1000000) :
  Calls Tryz.prog 13 #[.pointer (some ⟨g, 0, none⟩), .slice A l.length c] w fun e w' => e = .returned (.int .i64 (addR T l).2) ∧ ∃ b, (b = b0 ∨ w.heap.size ≤ b) ∧ TbB w' g b (N + l.length) (addR T l).1 ∧ w.grownBy w' (some g) := by
 have HR := Aside0.mk hr
 have HT := Aside0.mk hT
 have hmx : l.length ≤ 9223372036854775807 := hr.2.1
 have HC := fun W h => contains_calls 42 #[] (fun x => !decide (MayR x)) A c l W h (enters_of Tryz.func42 (by kernel_rfl) rfl) (fun W x _ => bad_calls x W)
 have HC := Aside0.mk HC
 clear hr hT
 by_cases hany : l.any (fun x => !decide (MayR x)) = true
 ·have HA := Aside0.mk hany
  have hc := HC.out w HR.out
  rw [hany] at hc
  clear hany HC
  go_enter Tryz.func13, Tryz.ntmps13
  go_wp2_with (go_at_call 41; refine hc.mono ?_; rintro e w' ⟨rfl, hb⟩)
  go_ret
  have e1 : addR T l = (T, 1) := by unfold addR; rw [if_pos HA.out]
  rw [e1]
  exact ⟨rfl, b0, .inl rfl, (HT.out.below hb).mono (by omega), hb.os, hb.tape, hb.output, hb.size, fun k hk _ => hb.block k hk⟩
 ·have hany : l.any (fun x => !decide (MayR x)) = false := by simpa using hany
  have HA := Aside0.mk hany
  have hc := HC.out w HR.out
  rw [hany] at hc
  clear hany HC
  have hu73 := Tryz.underlying73
  have hu75 := Tryz.underlying75
  have hu51 := Tryz.underlying51
  obtain ⟨hg0, hT0⟩ := HT.out
  have z0 := blk_lt hg0
  go_enter Tryz.func13, Tryz.ntmps13
  go_wp2_with (fail)
  refine hc.mono ?_
  rintro e w1 ⟨rfl, hb1⟩
  have hg1 := Zag hg0 hb1
  have hT1 := hT0.below hb1
  have HB1 := Aside0.mk hb1
  have z1 := blk_lt hg1
  have c0 : w1.cell? ⟨g, 0, none⟩ = some (.map (some b0)) := (Zaa hg1 0).trans rfl
  clear hg0 hT0 hb1
  have hcl := Zed b0 N T w1 hT1
  go_wp2_with (fail)
  refine hcl.mono ?_
  rintro e w2 ⟨rfl, hT2, hb2⟩
  have HB2 := Aside0.mk (Zae HB1.out hb2)
  have HG2 := Aside0.mk (Zag hg1 hb2)
  have HS := Aside0.mk HB1.out.size
  have HT2 := Aside0.mk hT2
  clear hT2 hb2 hcl hT1 c0 hg1
  generalize w1.heap.size = b2 at HT2 z1 HS ⊢
  go_wp2_with (fail)
  go_loopw [21] (fun v21 wr => ∃ (k : Nat) (T' : List S51), k ≤ l.length ∧ v21 = .int .i64 k ∧ Aside0 (Below w.heap.size w wr) ∧ Aside0 (TMap wr b2 (N + k) T') ∧ Aside0 (addAll T l = addAll T' (l.drop k))) (fun v21 _ => l.length - (intOf v21).toNat)
  case atStart => exact ⟨0, T, Nat.zero_le _, rfl, ⟨HB2.out⟩, ⟨HT2.out⟩, ⟨by simp⟩⟩
  case round =>
   as_aux_lemma =>
    clear HB2 HG2 HT2
    obtain ⟨k, T', hk, rfl, HB, HM, HE⟩ := hrel
    by_cases hlt : k < l.length
    ·have hk1 : k + 1 ≤ l.length := hlt
     obtain ⟨ad, rfl, h0, h1, h2⟩ := ZbN (Kd.C_below HR.out HB.out) k hlt
     have hd := HE.out
     rw [drop_cons hlt] at hd
     have hmay : MayR l[k] := by
      have := List.any_eq_false.1 HA.out l[k] (List.getElem_mem hlt)
      simpa using this
     generalize l[k] = x at h0 h1 h2 hd hmay
     have HD := Aside0.mk hd
     have HX := Aside0.mk hmay
     have hwf : (Lit.int .i64 x.f0).wf = true := wf_of (by have := hmay.1; omega) (by have := hmay.2.1; omega)
     clear hd hmay HE
     obtain ⟨x0, x1, x2⟩ := x
     simp only at h0 h1 h2 hwf
     have hl := TMap.look (HM.out.below (Zab (Below.refl _ _) (.cells #[.int .i64 x0, .int .i64 x1, .int .i64 x2] 51))) hwf
     cases hq : findT T' x0 with
     | some y =>
      as_aux_lemma =>
       rw [hq] at hl
       simp only [rowV, Option.getD_some, Option.isSome_some] at hl
       go_wp2_with (fail)
       go_ret
       have e1 : addR T l = (T, 16) := by
        have : addAll T l = none := by
         rw [HD.out]
         unfold addAll
         rw [hq]
        unfold addR
        rw [if_neg (by rw [HA.out]; simp), this]
       rw [e1]
       have hb := Zab (Zab HB.out (.cells #[.int .i64 x0, .int .i64 x1, .int .i64 x2] 51)) (.cells #[.int .i64 y.f0, .int .i64 y.f1, .int .i64 y.f2] 51)
       exact ⟨rfl, b0, .inl rfl, (HT.out.below hb).mono (by omega), Zax hb _⟩
     | none =>
      as_aux_lemma =>
       rw [hq] at hl
       simp only [rowV, Option.getD_none, Option.isSome_none] at hl
       have hT5 := HM.out.below (Zab (Zab (Below.refl _ _) (.cells #[.int .i64 x0, .int .i64 x1, .int .i64 x2] 51)) (.cells #[.int .i64 0, .int .i64 0, .int .i64 0] 51))
       go_wp2_with (at_mapUpdate; refine wp_put rfl _ _ _ rfl hT5 (by omega) ⟨x0, x1, x2⟩ HX.out rfl rfl rfl ?_; intro w6 hT6 hg6)
       have hb := Zab (Zab HB.out (.cells #[.int .i64 x0, .int .i64 x1, .int .i64 x2] 51)) (.cells #[.int .i64 0, .int .i64 0, .int .i64 0] 51)
       refine ⟨⟨k + 1, putT ⟨x0, x1, x2⟩ T', hk1, by go_num, ⟨hb.grown hg6 hb.size (fun j hj => by obtain rfl := Option.some.inj hj; exact HS.out)⟩, ⟨hT6.mono (by omega)⟩, ⟨?_⟩⟩, by simp [intOf]; omega⟩
       rw [HD.out]
       conv => lhs; unfold addAll
       rw [hq]
    ·have : k = l.length := by omega
     subst this
     obtain ⟨hg9, -⟩ := HT.out
     have hg3 := Zag hg9 HB.out
     have f3 := Zad hg3 0
     have c3 : wr.cell? ⟨g, 0, none⟩ = some (.map (some b0)) := (Zaa hg3 0).trans rfl
     go_wp2_with (fail)
     go_ret
     have hAA : addAll T l = some T' := by
      rw [HE.out, List.drop_length]
      rfl
     have e1 : addR T l = (T', 0) := by
      unfold addR
      rw [if_neg (by rw [HA.out]; simp), hAA]
     rw [e1]
     have hgr : wr.grownBy (wr.setCell ⟨g, 0, none⟩ (.map (some b2))) (some g) := ZcM _ _ _ _
     have hne : b2 ≠ g := by have := HS.out; omega
     refine ⟨rfl, b2, .inr HS.out, ⟨by simpa using ZaG hg3 0 (.map (some b2)), HM.out.kept hgr (fun e => hne (Option.some.inj e))⟩, Zd4 (Zax HB.out (some g)) hgr (fun j hj => .inr hj)⟩
def Uniq (l : List S51) : Prop := ∀ x ∈ l, ∀ y ∈ l, x.f0 = y.f0 → x = y
theorem Zbf {T : List S51} (h : T.Pairwise (fun x y => x.f0 < y.f0)) : Uniq T := fun x hx y hy e => sorted_inj h hx hy e
theorem Zb5 {l : List S51} (h : Uniq l) {k : Int} {x : S51} : findT l k = some x ↔ x ∈ l ∧ x.f0 = k := by
 constructor
 ·exact ZaD
 ·rintro ⟨hx, rfl⟩
  cases hf : findT l x.f0 with
  | none => exact absurd rfl (Zbb hf x hx)
  | some y =>
   obtain ⟨h1, h2⟩ := ZaD hf
   rw [h y h1 x hx h2]
theorem ZbG {l : List S51} {k : Int} : findT l k = none ↔ ∀ x ∈ l, x.f0 ≠ k := ⟨Zbb, fun h => by
 cases hf : findT l k with
 | none => rfl
 | some y =>
  obtain ⟨h1, h2⟩ := ZaD hf
  exact absurd h2 (h y h1)⟩
theorem ZcP {T : List S51} (hT : T.Pairwise (fun x y => x.f0 < y.f0)) (x : S51) (k : Int) : findT (putT x T) k = if k = x.f0 then some x else findT T k := by
 have hu := Zbf (Zbs (x := x) hT)
 by_cases h : k = x.f0
 ·rw [if_pos h]
  exact (Zb5 hu).2 ⟨(ZaI hT).2 (.inl rfl), h.symm⟩
 ·rw [if_neg h]
  cases hf : findT T k with
  | none =>
   rw [ZbG]
   intro y hy
   rcases (ZaI hT).1 hy with rfl | ⟨hy, _⟩
   ·exact fun e => h e.symm
   ·exact Zbb hf y hy
  | some y =>
   obtain ⟨h1, h2⟩ := ZaD hf
   exact (Zb5 hu).2 ⟨(ZaI hT).2 (.inr ⟨h1, by omega⟩), h2⟩
theorem ZcO (l : List S51) (x : S51) (k : Int) (hn : findT l x.f0 = none) : findT (l ++ [x]) k = if k = x.f0 then some x else findT l k := by
 have e : findT (l ++ [x]) k = (findT l k).or (findT [x] k) := List.find?_append
 rw [e]
 by_cases h : k = x.f0
 ·subst h
  rw [hn, if_pos rfl]
  simp [findT]
 ·rw [if_neg h]
  have : findT [x] k = none := by
   rw [ZbG]
   intro y hy
   simp at hy
   subst hy
   exact fun e => h e.symm
  rw [this]
  simp
theorem Zd5 {l T : List S51} (hp : l.Perm T) (hT : Uniq T) (k : Int) : findT l k = findT T k := by
 have hl : Uniq l := fun x hx y hy e => hT x (hp.subset hx) y (hp.subset hy) e
 cases hf : findT T k with
 | none =>
  rw [ZbG]
  exact fun x hx => Zbb hf x (hp.subset hx)
 | some y =>
  obtain ⟨h1, h2⟩ := ZaD hf
  exact (Zb5 hl).2 ⟨hp.symm.subset h1, h2⟩
theorem Zdy {l : List S51} {k : Int} (h : findT l k = none) : valT l k = 0 := by unfold valT; rw [h]; rfl
theorem val_some {l : List S51} {k : Int} {x : S51} (h : findT l k = some x) : valT l k = x.f1 := by unfold valT; rw [h]; rfl
theorem ZcB {l l' : List S51} {k : Int} (h : findT l k = findT l' k) : valT l k = valT l' k := by unfold valT; rw [h]
def NetP (A ps T : List S51) : Prop := (∀ k, (findT T k).isSome = ((findT A k).isSome || (findT ps k).isSome)) ∧ ∀ k, valT T k = valT A k - valT ps k
theorem NetP.start (A : List S51) : NetP A [] A := ⟨fun k => by simp [findT], fun k => by rw [Zdy (l := []) rfl]; omega⟩
theorem NetP.step {A ps T : List S51} {x : S51} (h : NetP A ps T) (hT : T.Pairwise (fun x y => x.f0 < y.f0)) (hn : findT ps x.f0 = none) (v : Int) (hv : v = valT T x.f0 - x.f1) : NetP A (ps ++ [x]) (putT ⟨x.f0, v, v⟩ T) := by
 obtain ⟨h1, h2⟩ := h
 refine ⟨fun k => ?_, fun k => ?_⟩
 ·rw [ZcP hT, ZcO _ _ _ hn]
  by_cases e : k = x.f0
  ·simp [e]
  ·rw [if_neg e, if_neg e, h1]
 ·unfold valT at h2 hv ⊢
  rw [ZcP hT, ZcO _ _ _ hn]
  by_cases e : k = x.f0
  ·rw [if_pos e, if_pos e]
   have := h2 x.f0
   rw [hn] at this
   subst e
   simp at this ⊢
   rw [hv, this]
  ·rw [if_neg e, if_neg e]
   exact h2 k
def updL (T ps : List S51) : List S51 := T.map fun r => ⟨r.f0, r.f1, r.f2 + valT ps r.f0⟩
theorem updL_nil (T : List S51) : updL T [] = T := by
 unfold updL
 have : ∀ r : S51, (⟨r.f0, r.f1, r.f2 + valT [] r.f0⟩ : S51) = r := fun r => by
  rw [Zdy (l := []) rfl, Int.add_zero]
 simp only [this, List.map_id']
theorem Zb1 {T ps : List S51} (h : T.Pairwise (fun x y => x.f0 < y.f0)) : (updL T ps).Pairwise (fun x y => x.f0 < y.f0) := by
 unfold updL
 rw [List.pairwise_map]
 exact h
theorem ZcC (T ps : List S51) (k : Int) : findT (updL T ps) k = (findT T k).map fun r => ⟨r.f0, r.f1, r.f2 + valT ps r.f0⟩ := by
 unfold updL findT
 rw [List.find?_map]
 rfl
theorem sorted_ext {l l' : List S51} (h : l.Pairwise (fun x y => x.f0 < y.f0)) (h' : l'.Pairwise (fun x y => x.f0 < y.f0)) (he : ∀ k, findT l k = findT l' k) : l = l' := by
 refine ZdI ?_ h h'
 have hn : ∀ {l : List S51}, l.Pairwise (fun x y => x.f0 < y.f0) → l.Nodup := fun h => h.imp (fun h e => by rw [e] at h; omega)
 refine (List.perm_ext_iff_of_nodup (hn h) (hn h')).2 fun x => ⟨fun hx => ?_, fun hx => ?_⟩
 ·have := (Zb5 (Zbf h)).2 ⟨hx, rfl⟩
  rw [he] at this
  exact (ZaD this).1
 ·have := (Zb5 (Zbf h')).2 ⟨hx, rfl⟩
  rw [← he] at this
  exact (ZaD this).1
theorem updL_step {T ps : List S51} {x r : S51} (hT : T.Pairwise (fun x y => x.f0 < y.f0)) (hn : findT ps x.f0 = none) (hr : findT T x.f0 = some r) : putT ⟨r.f0, r.f1, r.f2 + x.f1⟩ (updL T ps) = updL T (ps ++ [x]) := by
 have hr0 := (ZaD hr).2
 refine sorted_ext (Zbs (Zb1 hT)) (Zb1 hT) fun k => ?_
 rw [ZcP (Zb1 hT), ZcC, ZcC]
 simp only
 by_cases e : k = r.f0
 ·rw [if_pos e, e, hr0, hr]
  simp only [Option.map_some, hr0]
  unfold valT
  rw [ZcO _ _ _ hn, if_pos rfl]
  rfl
 ·rw [if_neg e]
  cases hf : findT T k with
  | none => rfl
  | some y =>
   have hy := (ZaD hf).2
   simp only [Option.map_some]
   unfold valT
   rw [ZcO _ _ _ hn, if_neg (by omega)]
theorem updL_old {T ps : List S51} {x r : S51} (hn : findT ps x.f0 = none) (hr : findT T x.f0 = some r) : findT (updL T ps) x.f0 = some r := by
 have hr0 := (ZaD hr).2
 rw [ZcC, hr]
 simp only [Option.map_some]
 rw [hr0, Zdy hn, Int.add_zero, ← hr0]
theorem updL_may {T ps : List S51} {x r : S51} (hT : T.Pairwise (fun x y => x.f0 < y.f0)) (hm : ∀ y ∈ T, MayR y) (hn : findT ps x.f0 = none) (hr : findT T x.f0 = some r) :
  (∀ y ∈ updL T (ps ++ [x]), MayR y) ↔ MayR ⟨r.f0, r.f1, r.f2 + x.f1⟩ ∧ ∀ y ∈ updL T ps, MayR y := by
 rw [← updL_step hT hn hr]
 have hs := Zb1 (ps := ps) hT
 have hold := updL_old hn hr
 have hr0 := (ZaD hr).2
 constructor
 ·intro h
  refine ⟨h _ ((ZaI hs).2 (.inl rfl)), fun y hy => ?_⟩
  by_cases e : y.f0 = x.f0
  ·have := (Zb5 (Zbf hs)).2 ⟨hy, e⟩
   rw [hold] at this
   cases this
   exact hm r (ZaD hr).1
  ·exact h y ((ZaI hs).2 (.inr ⟨hy, by simp only; omega⟩))
 ·rintro ⟨h1, h2⟩ y hy
  rcases (ZaI hs).1 hy with rfl | ⟨hy, _⟩
  ·exact h1
  ·exact h2 y hy
def chgT (T : List S51) (more less : List S86) : List S51 := T.map fun r => ⟨r.f0, r.f1, r.f2 + (valT (cntE [] more) r.f0 - valT (cntE [] less) r.f0)⟩
def Known (T l : List S51) : Prop := ∀ x ∈ l, (findT T x.f0).isSome = true
instance (T l : List S51) : Decidable (Known T l) := by unfold Known; infer_instance
def chgR (T : List S51) (more less : List S86) : List S51 × Int :=
 if (∀ x ∈ more, MayE x) ∧ ∀ x ∈ less, MayE x then
  if Known T (cntE [] more) ∧ Known T (cntE [] less) then if ∀ r ∈ chgT T more less, MayR r then (chgT T more less, 0) else (T, 31) else (T, 15)
 else (T, 1)
theorem chgT_upd {T ps : List S51} {more less : List S86} (h : ∀ k, valT ps k = valT (cntE [] more) k - valT (cntE [] less) k) : updL T ps = chgT T more less := by
 unfold updL chgT
 simp only [h]
theorem TMap.sorted {w : World} {b N : Nat} {T : List S51} (h : TMap w b N T) : T.Pairwise (fun x y => x.f0 < y.f0) := by
 obtain ⟨_, D, _, h⟩ := h
 exact h.1
theorem TMap.may {w : World} {b N : Nat} {T : List S51} (h : TMap w b N T) : ∀ x ∈ T, MayR x := by
 obtain ⟨_, D, _, h⟩ := h
 exact h.2.1
end Go.Proofs.YtpfnaknmalojkaaGreat.PTopRows
