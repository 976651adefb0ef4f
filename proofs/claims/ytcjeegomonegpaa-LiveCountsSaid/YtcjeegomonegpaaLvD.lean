/- live.Count: the rows of extents, by rising numbers, told once. Conditions: what each theorem says. -/
import Derived.Test.YtcjeegomonegpaaLvC
import Derived.Shelf.SlSortCmp.NoneTotal
namespace Go.Proofs.Ytcjeegomonegpaa.PLivePlays
open Go.RowKit Go.Maps Go.Sort Go.Proofs.YtcjeegomonegpaaW.PrintWords Go.Proofs.YtcjeegomonegpaaW.PrintLast Go.Proofs.YtcjeegomonegpaaW.PrintMore
set_option linter.unusedVariables false
set_option linter.unusedSimpArgs false
theorem sort_nil (w : World) : Calls Try.prog 32 #[.slice none 0 0, .func (.func 33) #[] #[]] w fun e w' => e = .returned (.tuple #[]) ∧ w' = w := by
  have h := AnyF.slices_SortFunc_none sortRow none 0 (.func (.func 33) #[] #[]) w
  change Calls Try.prog 32 _ _ _ at h
  exact h
theorem CntOf.came {D : DataW Unit} {T : List S23} (h : CntOf D T) : Came T (Maps.has D) [] :=
  ⟨List.nodup_nil, by simp, fun x hx => .inl ((h.2.2.1 _).2 ⟨x, hx, rfl⟩), fun kl hk => (h.2.2.1 kl).1 hk⟩
set_option maxRecDepth 100000 in
set_option maxHeartbeats 4000000 in
/-- Of extents of which one may not be: none. -/
theorem count_bad (A : Option Addr) (c : Nat) (l : List S66) (hl : l.length ≤ 40) (hb : ¬ ∀ x ∈ l, MayE x) (w : World) (hr : Kd.C k66 w A l.length l) :
    Calls Try.prog 16 #[.slice A l.length c] w fun e w' => e = .returned (.slice none 0 0) ∧ Below w.heap.size w w' := by
  have HC := Aside0.mk (counted_calls A c l hl w hr)
  have HBad := Aside0.mk hb
  clear hr hb
  have hu70 := Try.underlying70
  go_enter Try.func16, Try.ntmps16
  go_wp2_with (fail)
  refine HC.out.mono ?_
  rintro e w1 ⟨hb, ⟨h, -, -⟩ | ⟨-, rfl⟩⟩
  · exact absurd h HBad.out
  have HB := Aside0.mk hb
  clear hb HC
  have hrg := run_range_nilMap (P := Try.prog) w1 70 3 3 Try.underlying70
  have hnx : ∀ ty, (Instr.next (.pointer (some ⟨w1.heap.size, 0, none⟩)) false ty).run Try.prog (w1.alloc (.mapIter none 0 #[] 0)) = _ := fun ty => run_next_nilMap w1 ty 0 0 #[]
  have HB2 := Aside0.mk (below_alloc HB.out (.mapIter none 0 #[] 0))
  go_wp2_with (fail)
  refine wp_loop_rounds 1 ?_
  rw [rounds_succ]
  go_wp2_with (fail)
  refine (sort_nil _).mono ?_
  rintro e w2 ⟨rfl, rfl⟩
  go_wp2_with (fail)
  go_ret
  exact ⟨rfl, HB2.out⟩
set_option maxRecDepth 100000 in
set_option maxHeartbeats 4000000 in
theorem count_good (A : Option Addr) (c : Nat) (l : List S66) (hl : l.length ≤ 40) (hg : ∀ x ∈ l, MayE x) (w : World) (hr : Kd.C k66 w A l.length l) :
    Calls Try.prog 16 #[.slice A l.length c] w fun e w' => ∃ v, e = .returned v ∧ SlR w' w.heap.size v (cntE [] l) ∧ Below w.heap.size w w' := by
  have HC := Aside0.mk (counted_calls A c l hl w hr)
  have HGood := Aside0.mk hg
  clear hr hg
  have hu70 := Try.underlying70
  have hu28 := Try.underlying28
  have hu23 := Try.underlying23
  obtain ⟨i0, hi0, hz0, hz1, hz2⟩ := info_parts info23
  go_enter Try.func16, Try.ntmps16
  go_wp2_with (fail)
  refine HC.out.mono ?_
  rintro e w1 ⟨hb, hor⟩
  have hor : e = .returned (.tuple #[.map (some w.heap.size), .bool true]) ∧ CMap w1 w.heap.size 40 (cntE [] l) := by
    rcases hor with ⟨-, h⟩ | ⟨h, -⟩
    · exact h
    · exact absurd HGood.out h
  obtain ⟨rfl, hM⟩ := hor
  generalize hTe : cntE [] l = T at hM
  have HTE := Aside0.mk hTe
  clear hTe
  obtain ⟨hTN, D, hown, hD⟩ := hM
  have HB := Aside0.mk hb
  have HD := Aside0.mk hD
  have hbl := hown.lt
  have HBL := Aside0.mk hbl
  have hsl := hown.size_le
  have HSL := Aside0.mk hsl
  clear hb HC hD hbl hsl hTN
  go_wp2_with (at_range; refine wpList_range_own _ rfl _ 70 rfl 3 3 keyed3 Try.underlying70 _ w.heap.size 40 _ rfl hown ?_; intro w0 hrg0 hg0 hs0)
  have HB0 := Aside0.mk (HB.out.grown hg0 HB.out.size (fun j hj => by cases hj))
  have HS0 := Aside0.mk hs0
  have HRG := Aside0.mk hrg0
  clear hown hg0 hs0 hrg0
  have hwr := Aside0.mk HB.out.size
  generalize hr0 : w1.heap.size = r0 at HS0 HRG HBL hwr ⊢
  go_frame
  go_loopw [5] (fun v5 wr => ∃ (left : Lit → Bool) (cnt : Nat) (ps : List S23), wr.ranges Try.prog 3 intR w.heap.size r0 40 D left cnt ∧ ps.length + cnt ≤ 40 ∧ Aside0 (Came T left ps) ∧ Aside0 (wr.ownsRow w0.heap.size 23 3 v5 ps.length (flatR ps)) ∧ Aside0 (Below w.heap.size w wr) ∧ w0.heap.size ≤ wr.heap.size) (fun _ wr => wr.rangeLeft w.heap.size r0)
  case atStart => exact ⟨_, _, [], HRG.out, by simpa using HSL.out, ⟨HD.out.came⟩, ⟨World.ownsRow_nil _ _ _ _⟩, HB0, Nat.le_refl _⟩
  case round =>
    obtain ⟨left, cnt, ps, hrg, hcs, hC, HO, HBr, hsw⟩ := hrel
    go_wp2_with (at_next; refine wpList_next_ranges_ii _ rfl _ rfl 3 3 .i64 .i64 keyed3 Try.underlying3 Try.underlying3 w.heap.size r0 40 D _ _ rfl hrg ?_ ?_)
    · intro hc0 hl0
      have hp := Aside0.mk (hC.out.perm HD.out.1 hl0)
      have HBW := HBr
      have hpl : ps.length ≤ 40 := by omega
      have hsz0 : w.heap.size ≤ w0.heap.size := HB0.out.size
      rcases SlR.of_own HO.out with ⟨rfl, h0⟩ | ⟨gs, o, cap, rfl, hgs, hgl, hcap, hh⟩
      · subst h0
        have hT : T = [] := hp.out.nil_eq.symm
        subst hT
        clear hp
        go_wp2_with (fail)
        refine (sort_nil _).mono ?_
        rintro e w2 ⟨rfl, rfl⟩
        go_wp2_with (fail)
        go_ret
        exact ⟨_, rfl, .inl ⟨rfl, HTE.out⟩, HBW.out⟩
      · have HS := Aside0.mk (sort_holds gs o cap ps wr hh hgl (by omega))
        have HL := Aside0.mk (show w.heap.size ≤ gs ∧ gs < wr.heap.size ∧ ps.length ≤ cap from ⟨Nat.le_trans hsz0 hgs, hgl, hcap⟩)
        clear hh hgs hgl hcap hrg hsz0
        go_wp2_with (fail)
        refine HS.out.mono ?_
        rintro e w2 ⟨rfl, l', hp2, hs2, hh2, hg2⟩
        go_wp2_with (fail)
        go_ret
        have e1 : l' = T := sorted_uniq (hp2.trans hp.out) (hs2.imp (fun h => by omega)) HD.out.1
        subst e1
        have hle : ps.length = l'.length := hp.out.length_eq
        rw [HTE.out]
        exact ⟨_, rfl, .inr ⟨gs, o, cap, by first | rfl | (rw [hle]; rfl), HL.out.1, Nat.lt_of_lt_of_le HL.out.2.1 hg2.size, by rw [← hle]; exact HL.out.2.2, hh2⟩, HBW.out.grown hg2 HBW.out.size (fun j hj => by obtain rfl := Option.some.inj hj; exact HL.out.1)⟩
    · intro x c w2 cnt2 hwx hwc hlx hat hrg2 hlt hg2 hs2 hen
      obtain ⟨t, ht, et⟩ := hC.out.2.2.2 _ hlx
      injection et with _ et
      subst et
      have hct := HD.out.2.1 t ht
      have hc : c = t.f1 := by
        have h1 := hat (.lit .nil)
        rw [HD.out.2.2.2 t ht] at h1
        simpa [numD] using h1.symm
      subst hc
      have HC2 := Aside0.mk (hC.out.step HD.out.1 ht hlx)
      have HLT := Aside0.mk (show cnt2 < cnt ∧ wr.rangeLeft w.heap.size r0 = cnt from ⟨hlt, hrg.left_eq⟩)
      obtain ⟨x0, x1, x2⟩ := t
      obtain rfl : x2 = x1 := hct.2.2.2.2
      have hno : u5.ownBlock = none ∨ u5.ownBlock ≠ some r0 := by
        refine .inr fun e => ?_
        have := own_base HO.out r0 e
        have := HS0.out
        omega
      have HOa := Aside0.mk (HO.out.kept hg2 hno)
      have HOb := Aside0.mk (HOa.out.alloc (.cells #[.int .i64 x0, .int .i64 x2, .int .i64 x2] 23))
      have hrg3 := hrg2.alloc (.cells #[.int .i64 x0, .int .i64 x2, .int .i64 x2] 23)
      have hnw := Aside0.mk (new_row w2 ⟨x0, x2, x2⟩)
      have hbs := HBr.out.size
      have hrw : w.heap.size ≤ r0 := hwr.out
      have HB2 := Aside0.mk (below_alloc (HBr.out.grown hg2 HBr.out.size (fun j hj => by obtain rfl := Option.some.inj hj; exact hrw)) (.cells #[.int .i64 x0, .int .i64 x2, .int .i64 x2] 23))
      have hsw2 : w0.heap.size ≤ w2.heap.size := by omega
      have HS2 := Aside0.mk hs2
      clear hs2 hat hwx hwc hlx ht hct hrg hrg2 HOa hno hg2
      have hO2 := HOb.out
      have hn2 := hnw.out
      go_wp2_with (at_builtin; refine wpList_append_own _ rfl _ _ 28 rfl w0.heap.size 23 i0 (rowV ⟨0, 0, 0⟩) 3 24 Try.underlying28 hi0 hz0 hz1 hz2 rfl (by decide) _ ps.length _ rfl hO2 ⟨w2.heap.size, 0, none⟩ 1 1 (rowL ⟨x0, x2, x2⟩) rfl rfl hn2 (by simp [rowL, Value.oneCell']) (by unfold maxLen; omega) (by omega) (by simp; omega) ?_; intro v' w5 hown' hgrow _)
      have hu5 : ∀ j, u5.ownBlock = some j → w0.heap.size ≤ j := fun j hj => own_base hO2 j hj
      have hs0 := HS0.out
      have hr5 := hrg3.kept hgrow (fun e => by have := hu5 _ e.symm; have := HBL.out; omega) (fun e => by have := hu5 _ e.symm; omega)
      refine ⟨⟨_, cnt2, ps ++ [⟨x0, x2, x2⟩], hr5, by simp; have := HLT.out.1; omega, HC2, ⟨?_⟩, ⟨?_⟩, ?_⟩, ?_⟩
      · rw [List.length_append, flatR_snoc]
        exact hown'
      · exact HB2.out.grown hgrow HB2.out.size (fun j hj => by have := hu5 j hj; omega)
      · exact Nat.le_trans (by simp; omega) hgrow.size
      · rw [hr5.left_eq, HLT.out.2]
        exact HLT.out.1
end Go.Proofs.Ytcjeegomonegpaa.PLivePlays
