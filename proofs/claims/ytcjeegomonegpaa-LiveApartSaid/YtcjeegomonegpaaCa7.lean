/- LiveApart: the plain law, the walk, the row. For every input the law answers true and its arguments read behind the call as ahead of it. No condition. -/
import Derived.Test.YtcjeegomonegpaaCb6
import Derived.Test.YtcjeegomonegpaaRows
import Derived.Shelf.SlSortCmp.NoneTotal
import Derived.WalkKit
import Derived.ProofKit
import Derived.OpenShut
import Derived.ShutString
import Derived.ChangeOld
import Derived.Below
import Derived.ChangeSlices
import Derived.SizedLaws
import Derived.Lib.SmallJoins
namespace Go.Proofs.Ytcjeegomonegpaa.PLivePlays
open Go.RowKit Go.Maps Go.Sort Go.Proofs.YtcjeegomonegpaaW.PrintWords Go.Proofs.YtcjeegomonegpaaW.PrintLast Go.Proofs.YtcjeegomonegpaaW.PrintMore
set_option linter.unusedVariables false
set_option linter.unusedSimpArgs false
theorem k64_mkM (w : World) (base : Nat) (ok : Nat → Prop) (x : S64)  : k64.M w base ok x [.int .i64 x.f0, .int .i64 x.f1] := ⟨[.int .i64 x.f0], [.int .i64 x.f1], rfl, rfl, rfl⟩
theorem k62_mkM (w : World) (base : Nat) (ok : Nat → Prop) (x : S62)  : k62.M w base ok x [.int .i64 x.f0, .int .i64 x.f1] := ⟨[.int .i64 x.f0], [.int .i64 x.f1], rfl, rfl, rfl⟩
theorem k66_mkM (w : World) (base : Nat) (ok : Nat → Prop) (x : S66)  : k66.M w base ok x [.int .i64 x.f0.f0, .int .i64 x.f0.f1, .int .i64 x.f1.f0, .int .i64 x.f1.f1] := ⟨[.int .i64 x.f0.f0, .int .i64 x.f0.f1], [.int .i64 x.f1.f0, .int .i64 x.f1.f1], rfl, (k64_mkM w base ok x.f0 ), (k62_mkM w base ok x.f1 )⟩
set_option maxRecDepth 100000 in
set_option maxHeartbeats 4000000 in
theorem count_good (A : Option Addr) (c : Nat) (l : List S66) (hl : l.length ≤ 40) (hg : ∀ x ∈ l, MayE x) (w : World) (hr : Kd.C k66 w A l.length l) :
    Calls Try.prog 16 #[.slice A l.length c] w fun e w' => ∃ v, e = .returned v ∧ SlR w' w.heap.size v (cntE [] l) ∧ Below w.heap.size w w' := by
  have HC := Aside0.mk (counted_calls A c l hl w hr)
  have HGood := Aside0.mk hg
  clear hr hg
  have hu70 := Try.underlying70
  have hu28 := Try.underlying28
  have hu23 := Try.underlying23
  obtain ⟨i0, hi0, hz0, hz1, hz2⟩ := info_parts info23
  go_enter Try.func16, Try.ntmps16
  go_wp2_with (fail)
  refine HC.out.mono ?_
  rintro e w1 ⟨hb, hor⟩
  have hor : e = .returned (.tuple #[.map (some w.heap.size), .bool true]) ∧ CMap w1 w.heap.size 40 (cntE [] l) := by
    rcases hor with ⟨-, h⟩ | ⟨h, -⟩
    · exact h
    · exact absurd HGood.out h
  obtain ⟨rfl, hM⟩ := hor
  generalize hTe : cntE [] l = T at hM
  have HTE := Aside0.mk hTe
  clear hTe
  obtain ⟨hTN, D, hown, hD⟩ := hM
  have HB := Aside0.mk hb
  have HD := Aside0.mk hD
  have hbl := hown.lt
  have HBL := Aside0.mk hbl
  have hsl := hown.size_le
  have HSL := Aside0.mk hsl
  clear hb HC hD hbl hsl hTN
  go_wp2_with (at_range; refine wpList_range_own _ rfl _ 70 rfl 3 3 keyed3 Try.underlying70 _ w.heap.size 40 _ rfl hown ?_; intro w0 hrg0 hg0 hs0)
  have HB0 := Aside0.mk (HB.out.grown hg0 HB.out.size (fun j hj => by cases hj))
  have HS0 := Aside0.mk hs0
  have HRG := Aside0.mk hrg0
  clear hown hg0 hs0 hrg0
  have hwr := Aside0.mk HB.out.size
  generalize hr0 : w1.heap.size = r0 at HS0 HRG HBL hwr ⊢
  go_frame
  go_loopw [5] (fun v5 wr => ∃ (left : Lit → Bool) (cnt : Nat) (ps : List S23), wr.ranges Try.prog 3 intR w.heap.size r0 40 D left cnt ∧ ps.length + cnt ≤ 40 ∧ Aside0 (Came T left ps) ∧ Aside0 (wr.ownsRow w0.heap.size 23 3 v5 ps.length (flatR ps)) ∧ Aside0 (Below w.heap.size w wr) ∧ w0.heap.size ≤ wr.heap.size) (fun _ wr => wr.rangeLeft w.heap.size r0)
  case atStart => exact ⟨_, _, [], HRG.out, by simpa using HSL.out, ⟨HD.out.came⟩, ⟨World.ownsRow_nil _ _ _ _⟩, HB0, Nat.le_refl _⟩
  case round =>
    obtain ⟨left, cnt, ps, hrg, hcs, hC, HO, HBr, hsw⟩ := hrel
    go_wp2_with (at_next; refine wpList_next_ranges_ii _ rfl _ rfl 3 3 .i64 .i64 keyed3 Try.underlying3 Try.underlying3 w.heap.size r0 40 D _ _ rfl hrg ?_ ?_)
    · intro hc0 hl0
      have hp := Aside0.mk (hC.out.perm HD.out.1 hl0)
      have HBW := HBr
      have hpl : ps.length ≤ 40 := by omega
      have hsz0 : w.heap.size ≤ w0.heap.size := HB0.out.size
      rcases SlR.of_own HO.out with ⟨rfl, h0⟩ | ⟨gs, o, cap, rfl, hgs, hgl, hcap, hh⟩
      · subst h0
        have hT : T = [] := hp.out.nil_eq.symm
        subst hT
        clear hp
        go_wp2_with (fail)
        refine (sort_nil _).mono ?_
        rintro e w2 ⟨rfl, rfl⟩
        go_wp2_with (fail)
        go_ret
        exact ⟨_, rfl, .inl ⟨rfl, HTE.out⟩, HBW.out⟩
      · have HS := Aside0.mk (sort_holds gs o cap ps wr hh hgl (by omega))
        have HL := Aside0.mk (show w.heap.size ≤ gs ∧ gs < wr.heap.size ∧ ps.length ≤ cap from ⟨Nat.le_trans hsz0 hgs, hgl, hcap⟩)
        clear hh hgs hgl hcap hrg hsz0
        go_wp2_with (fail)
        refine HS.out.mono ?_
        rintro e w2 ⟨rfl, l', hp2, hs2, hh2, hg2⟩
        go_wp2_with (fail)
        go_ret
        have e1 : l' = T := sorted_uniq (hp2.trans hp.out) (hs2.imp (fun h => by omega)) HD.out.1
        subst e1
        have hle : ps.length = l'.length := hp.out.length_eq
        rw [HTE.out]
        exact ⟨_, rfl, .inr ⟨gs, o, cap, by first | rfl | (rw [hle]; rfl), HL.out.1, Nat.lt_of_lt_of_le HL.out.2.1 hg2.size, by rw [← hle]; exact HL.out.2.2, hh2⟩, HBW.out.grown hg2 HBW.out.size (fun j hj => by obtain rfl := Option.some.inj hj; exact HL.out.1)⟩
    · intro x c w2 cnt2 hwx hwc hlx hat hrg2 hlt hg2 hs2 hen
      obtain ⟨t, ht, et⟩ := hC.out.2.2.2 _ hlx
      injection et with _ et
      subst et
      have hct := HD.out.2.1 t ht
      have hc : c = t.f1 := by
        have h1 := hat (.lit .nil)
        rw [HD.out.2.2.2 t ht] at h1
        simpa [numD] using h1.symm
      subst hc
      have HC2 := Aside0.mk (hC.out.step HD.out.1 ht hlx)
      have HLT := Aside0.mk (show cnt2 < cnt ∧ wr.rangeLeft w.heap.size r0 = cnt from ⟨hlt, hrg.left_eq⟩)
      obtain ⟨x0, x1, x2⟩ := t
      obtain rfl : x2 = x1 := hct.2.2.2.2
      have hno : u5.ownBlock = none ∨ u5.ownBlock ≠ some r0 := by
        refine .inr fun e => ?_
        have := own_base HO.out r0 e
        have := HS0.out
        omega
      have HOa := Aside0.mk (HO.out.kept hg2 hno)
      have HOb := Aside0.mk (HOa.out.alloc (.cells #[.int .i64 x0, .int .i64 x2, .int .i64 x2] 23))
      have hrg3 := hrg2.alloc (.cells #[.int .i64 x0, .int .i64 x2, .int .i64 x2] 23)
      have hnw := Aside0.mk (new_row w2 ⟨x0, x2, x2⟩)
      have hbs := HBr.out.size
      have hrw : w.heap.size ≤ r0 := hwr.out
      have HB2 := Aside0.mk (below_alloc (HBr.out.grown hg2 HBr.out.size (fun j hj => by obtain rfl := Option.some.inj hj; exact hrw)) (.cells #[.int .i64 x0, .int .i64 x2, .int .i64 x2] 23))
      have hsw2 : w0.heap.size ≤ w2.heap.size := by omega
      have HS2 := Aside0.mk hs2
      clear hs2 hat hwx hwc hlx ht hct hrg hrg2 HOa hno hg2
      have hO2 := HOb.out
      have hn2 := hnw.out
      go_wp2_with (at_builtin; refine wpList_append_own _ rfl _ _ 28 rfl w0.heap.size 23 i0 (rowV ⟨0, 0, 0⟩) 3 24 Try.underlying28 hi0 hz0 hz1 hz2 rfl (by decide) _ ps.length _ rfl hO2 ⟨w2.heap.size, 0, none⟩ 1 1 (rowL ⟨x0, x2, x2⟩) rfl rfl hn2 (by simp [rowL, Value.oneCell']) (by unfold maxLen; omega) (by omega) (by simp; omega) ?_; intro v' w5 hown' hgrow _)
      have hu5 : ∀ j, u5.ownBlock = some j → w0.heap.size ≤ j := fun j hj => own_base hO2 j hj
      have hs0 := HS0.out
      have hr5 := hrg3.kept hgrow (fun e => by have := hu5 _ e.symm; have := HBL.out; omega) (fun e => by have := hu5 _ e.symm; omega)
      refine ⟨⟨_, cnt2, ps ++ [⟨x0, x2, x2⟩], hr5, by simp; have := HLT.out.1; omega, HC2, ⟨?_⟩, ⟨?_⟩, ?_⟩, ?_⟩
      · rw [List.length_append, flatR_snoc]
        exact hown'
      · exact HB2.out.grown hgrow HB2.out.size (fun j hj => by have := hu5 j hj; omega)
      · exact Nat.le_trans (by simp; omega) hgrow.size
      · rw [hr5.left_eq, HLT.out.2]
        exact HLT.out.1
theorem cntE_none (k : Int) : ∀ (l : List S66) {T : List S23}, T.Pairwise (fun x y => x.f0 < y.f0) → (findT (cntE T l) k = none ↔ findT T k = none ∧ ∀ x ∈ l, x.f1.f0 ≠ 0 → x.f1.f0 ≠ k)
  | [], T, _ => by simp [cntE]
  | x :: l, T, h => by
    simp only [cntE]
    by_cases e : x.f1.f0 = 0
    · have e1 : addE T x = T := by unfold addE; rw [if_pos e]
      rw [e1, cntE_none k l h]
      simp [e]
    · have e1 : addE T x = putT ⟨x.f1.f0, valT T x.f1.f0 + x.f0.f1, valT T x.f1.f0 + x.f0.f1⟩ T := by unfold addE; rw [if_neg e]
      rw [e1, cntE_none k l (putT_sorted h), find_put h]
      simp only
      by_cases q : k = x.f1.f0
      · rw [if_pos q]
        simp [q, e]
      · rw [if_neg q]
        simp only [List.forall_mem_cons]
        exact ⟨fun ⟨a, b⟩ => ⟨a, fun _ c => q c.symm, b⟩, fun ⟨a, _, b⟩ => ⟨a, b⟩⟩
theorem cntE_both {k : Int} {m l : List S66} (h : findT (cntE [] (m ++ l)) k = none) : valT (cntE [] m) k = 0 ∧ valT (cntE [] l) k = 0 := by
  rw [cntE_none k _ List.Pairwise.nil] at h
  exact ⟨val_none ((cntE_none k _ List.Pairwise.nil).2 ⟨rfl, fun x hx => h.2 x (List.mem_append_left _ hx)⟩), val_none ((cntE_none k _ List.Pairwise.nil).2 ⟨rfl, fun x hx => h.2 x (List.mem_append_right _ hx)⟩)⟩
theorem sumT_same : ∀ T : List S23, (∀ y ∈ T, y.f2 = y.f1) → (sumT T).2 = (sumT T).1
  | [], _ => rfl
  | x :: T, h => by
    simp only [sumT]
    rw [sumT_same T fun y hy => h y (List.mem_cons_of_mem _ hy), h x List.mem_cons_self]
/-- The sum of the counts is what the extents come to. -/
theorem cntE_live (l : List S66) (hm : ∀ x ∈ l, MayE x) : (sumT (cntE [] l)).2 = numE l := by
  rw [sumT_same _ fun y hy => (cntE_vals l hm (B := 0) (by omega) List.Pairwise.nil (by simp) y hy).2.2, cntE_sum l List.Pairwise.nil]
  simp [sumT]
/-- What a Change leaves of a row. -/
def Left (T T' V : List S23) : Prop := T'.length = T.length ∧ ∀ i (h : i < T.length) (h' : i < T'.length), T'[i].f0 = T[i].f0 ∧ T'[i].f1 = T[i].f1 ∧ (findT V T[i].f0 = none → T'[i] = T[i])
theorem chgR_left (T : List S23) (more less : List S66) : Left T (chgR T more less).1 (cntE [] (more ++ less)) := by
  by_cases h : (chgR T more less).2 = 0
  · obtain ⟨_, _, _, e⟩ := chgR_ok h
    rw [e]
    refine ⟨by unfold chgT; exact List.length_map _, fun i h h' => ?_⟩
    simp only [chgT, List.getElem_map]
    refine ⟨trivial, trivial, fun hn => ?_⟩
    obtain ⟨q1, q2⟩ := cntE_both hn
    rw [q1, q2]
    generalize T[i] = r
    obtain ⟨a, b, c⟩ := r
    simp
  · rw [chgR_bad h]
    exact ⟨rfl, fun i h h' => ⟨rfl, rfl, fun _ => rfl⟩⟩
/-- Is a number among rows? -/
def named (V : List S23) (q : Int) : Bool := V.any fun x => x.f0 == q
theorem named_step {V : List S23} {k : Nat} (h : k < V.length) (q : Int) : named (V.take (k + 1)) q = (named (V.take k) q || V[k].f0 == q) := by
  unfold named
  rw [List.take_add_one, List.getElem?_eq_getElem h, List.any_append]
  simp
theorem named_none {V : List S23} {q : Int} (h : named V q = false) : findT V q = none := by
  rw [find_none_iff]
  intro x hx e
  unfold named at h
  rw [List.any_eq_false] at h
  exact h x hx (by simp [e])
theorem info66 : (Try.prog.info? 66).map (fun i => (i.zero, i.size, i.bytes)) = some (some (.agg #[.int .i64 0, .int .i64 0, .int .i64 0, .int .i64 0]), 4, 32) := by kernel_rfl
theorem sum2_bound : ∀ T : List S23, (∀ x ∈ T, 0 ≤ x.f2 ∧ x.f2 ≤ 2621440) → 0 ≤ (sumT T).2 ∧ (sumT T).2 ≤ 2621440 * (T.length : Int)
  | [], _ => by simp [sumT]
  | x :: T, h => by
    obtain ⟨h1, h2⟩ := sum2_bound T fun y hy => h y (List.mem_cons_of_mem _ hy)
    obtain ⟨m1, m2⟩ := h x List.mem_cons_self
    simp only [sumT, List.length_cons]
    omega
theorem k66_KM {w W : World} {base : Nat} {ok : Nat → Prop} (x : S66) (cs : List Value) (h : k66.K w x cs) : k66.M W base ok x cs := by
  rw [k66_open h]; exact k66_mkM _ _ _ x
theorem SlR.read {w : World} {base c : Nat} {A : Option Addr} {l : List S23} (h : SlR w base (.slice A l.length c) l) (hm : l.length ≤ 1000000) : Kd.C k23 w A l.length l := by
  obtain ⟨A', c', e, -, hr⟩ := h.reads hm
  injection e with e1 e2 e3
  rw [e1]
  exact hr
set_option maxRecDepth 100000 in
set_option maxHeartbeats 40000000 in
theorem apart_walk (A : Option Addr) (c : Nat) (l : List S46) (A1 : Option Addr) (c1 : Nat) (more : List S66) (A2 : Option Addr) (c2 : Nat) (less : List S66) (w : World) (hc : l.length ≤ c) (hr : Kd.C k46 w A l.length l) (hw : OpsWf l) (hc1 : more.length ≤ c1) (hr1 : Kd.C k66 w A1 more.length more) (hc2 : less.length ≤ c2) (hr2 : Kd.C k66 w A2 less.length less) :
    Calls Try.prog 10 #[.slice A l.length c, .slice A1 more.length c1, .slice A2 less.length c2] w fun e w' => e = .returned (.bool true) ∧ Below w.heap.size w w' := by
  have hu46 := Try.underlying46
  have hu23 := Try.underlying23
  have hu25 := Try.underlying25
  have hu26 := Try.underlying26
  have hu28 := Try.underlying28
  have hu33 := Try.underlying33
  have hu38 := Try.underlying38
  have hu66 := Try.underlying66
  have hu64 := Try.underlying64
  have hu62 := Try.underlying62
  have hmx : l.length ≤ 9223372036854775807 := hr.2.1
  have hmx1 : more.length ≤ 9223372036854775807 := hr1.2.1
  have hmx2 : less.length ≤ 9223372036854775807 := hr2.2.1
  have HR := Aside0.mk hr
  have HR1 := Aside0.mk hr1
  have HR2 := Aside0.mk hr2
  have HC := Aside0.mk hc
  have HW := Aside0.mk hw
  have HFew := fun W (hb : Below w.heap.size w W) => few_calls A c l W (Kd.C_below hr hb) hc
  have HAl1 := fun (hm : more.length ≤ 20) W (hb : Below w.heap.size w W) => lighterref08_All.calls 5000 A1 c1 more _ W (Kd.C_below hr1 hb) hc1 (refAll_f more (by omega) 5000 (by omega))
  have HAl2 := fun (hm : less.length ≤ 20) W (hb : Below w.heap.size w W) => lighterref08_All.calls 5000 A2 c2 less _ W (Kd.C_below hr2 hb) hc2 (refAll_f less (by omega) 5000 (by omega))
  clear hr hr1 hr2 hc hw hc1 hc2
  by_cases hf : FewP l
  · rw [decide_eq_true hf] at HFew
    have HF := Aside0.mk hf
    have HFew := Aside0.mk HFew
    clear hf
    by_cases hm1 : more.length ≤ 20
    · have g1 : decide ((more.length : Int) > 20) = false := by simp; omega
      replace HAl1 := HAl1 hm1
      by_cases hm2 : less.length ≤ 20
      · have g2 : decide ((less.length : Int) > 20) = false := by simp; omega
        replace HAl2 := HAl2 hm2
        by_cases ha1 : ∀ x ∈ more, MayE x
        · rw [decide_eq_true ha1] at HAl1
          have HAl1 := Aside0.mk HAl1
          have HE1 := Aside0.mk ha1
          clear ha1
          by_cases ha2 : ∀ x ∈ less, MayE x
          · rw [decide_eq_true ha2] at HAl2
            have HAl2 := Aside0.mk HAl2
            have HE2 := Aside0.mk ha2
            clear ha2
            as_aux_lemma =>
              go_enter Try.func10, Try.ntmps10
              go_wp2_with (fail)
              refine (newS w w (Below.refl _ _)).mono ?_
              rintro e w1 ⟨g, b, rfl, hs⟩
              have HS1 := Aside0.mk hs
              clear hs
              go_wp2_with (fail)
              refine (HFew.out w1 HS1.out.bel).mono ?_
              rintro e w2 ⟨rfl, hb2⟩
              have HS2 := Aside0.mk (HS1.out.below hb2)
              clear hb2 HS1
              go_wp2_with (fail)
              refine (HAl1.out _ HS2.out.bel).mono ?_
              rintro e w2 ⟨rfl, hb2⟩
              have HS2' := Aside0.mk (HS2.out.below hb2)
              clear hb2 HS2
              have HS2 := HS2'
              clear HS2'
              go_wp2_with (fail)
              refine (HAl2.out _ HS2.out.bel).mono ?_
              rintro e w2 ⟨rfl, hb2⟩
              have HS2' := Aside0.mk (HS2.out.below hb2)
              clear hb2 HS2
              have HS2 := HS2'
              clear HS2'
              go_wp2_with (fail)
              go_loopg [8] l.length (fun kx v8 wr => ∃ (i b N : Nat) (T : List S23), v8 = .int .i64 (i : Int) ∧ i ≤ l.length ∧ l.length - i ≤ kx ∧ N ≤ 80 * i ∧ Aside0 (Stt w wr g b N (20 * i) T (.slice none 0 0) []))
              case atStart => exact ⟨0, b, 0, [], rfl, Nat.zero_le _, by omega, by omega, HS2⟩
              case round =>
                clear HS2
                obtain ⟨i, b, N, T, rfl, hi, hik, hN, HS⟩ := hrel
                have hl40 : l.length ≤ 40 := HF.out.2
                by_cases hlt : i < l.length
                · as_aux_lemma =>
                    obtain ⟨ad, A2, c2, A3, c3, A4, c4, rfl, k0, k1, k2, k3, k4, ha⟩ := args_at HR.out HF.out HW.out i hlt
                    replace k0 := cell_below HS.out.bel k0
                    replace k1 := cell_below HS.out.bel k1
                    replace k2 := cell_below HS.out.bel k2
                    replace k3 := cell_below HS.out.bel k3
                    replace k4 := cell_below HS.out.bel k4
                    have HD := Aside0.mk (does_calls w wr g b N (20 * i) T [] (.slice none 0 0) l[i] A2 c2 A3 c3 A4 c4 HS.out ha (by omega) (by omega))
                    clear ha
                    go_wp2_with (fail)
                    refine HD.out.mono ?_
                    rintro e w3 ⟨b', v', ok, rfl, -, hs3⟩
                    have HS3 := Aside0.mk (hs3.forget (M' := 20 * (i + 1)))
                    clear hs3 k0 k1 k2 k3 k4 HD
                    go_wp2_with (fail)
                    go_roundg (gk - 1)
                    case measure => omega
                    case rel => exact ⟨i + 1, b', N + 80, _, by go_num, hlt, by omega, by omega, HS3⟩
                · as_aux_lemma =>
                    have hil : i = l.length := by omega
                    subst hil
                    clear hlt
                    have hN2 : N ≤ 3200 := by omega
                    have hTn : T.length ≤ 3200 := Nat.le_trans HS.out.tab.2.1 hN2
                    have HG := Aside0.mk (show Good T from ⟨HS.out.tab.2.sorted, HS.out.tab.2.may⟩)
                    have HM1 := Aside0.mk (Kd.C_below HR1.out HS.out.bel)
                    go_wp2_with (first | ((with_reducible refine gate_builtin (b := .append) (xs := #[.tmp 65, .tmp 66]) rfl ?_); at_builtin; refine Kd.R_append_rows k66 (Rr := k66.K wr) (w0 := wr) wr.heap.size rfl (.tmp 65) (.tmp 66) 33 66 (.agg #[.int .i64 0, .int .i64 0, .int .i64 0, .int .i64 0]) 32 rfl Try.underlying33 info66 rfl (by decide) (by decide) (.slice none 0 0) [] more A1 more.length c1 (fun _ => True) (fun _ => False) rfl rfl (Kd.R_nil _ _ _ _ _) HM1.out (fun x cs h => k66_KM x cs h) (fun _ h => h.elim) (fun _ _ => trivial) (Below.refl _ _) (Nat.le_refl _) ?aL ?_; (case aL => (simp; omega)); intro v4 w4 ho hb hg hat; have HB4 := Aside0.mk hb; have HO4 := Aside0.mk (show Kd.R k66 66 w4 wr.heap.size (fun _ => True) v4 more from ho); clear ho hb hg hat; obtain ⟨A4, c4, rfl, hc4, hrm4⟩ := Kd.R_reads HO4.out; clear hrm4; have HM2 := Aside0.mk (Kd.C_below (Kd.C_below HR2.out HS.out.bel) HB4.out)) | ((with_reducible refine gate_builtin (b := .append) (xs := #[.tmp 68, .tmp 69]) rfl ?_); at_builtin; refine Kd.R_append_rows k66 (Rr := k66.K w4) (w0 := wr) wr.heap.size rfl (.tmp 68) (.tmp 69) 33 66 (.agg #[.int .i64 0, .int .i64 0, .int .i64 0, .int .i64 0]) 32 rfl Try.underlying33 info66 rfl (by decide) (by decide) (.slice A4 more.length c4) more less A2 less.length c2 (fun _ => True) (fun _ => False) rfl rfl HO4.out HM2.out (fun x cs h => k66_KM x cs h) (fun _ h => h.elim) (fun _ _ => trivial) HB4.out HB4.out.size ?aL ?_; (case aL => omega); intro v5 w5 ho hb hg hat; have HB5 := Aside0.mk hb; have HO5 := Aside0.mk ho; clear ho hb hg hat; obtain ⟨A5, c5, rfl, hc5, hrm5⟩ := Kd.R_reads HO5.out; clear hrm5))
                    have hb5 : (more ++ less).length ≤ 40 := by rw [List.length_append]; omega
                    have hme : ∀ x ∈ more ++ less, MayE x := fun x hx => (List.mem_append.1 hx).elim (HE1.out x) (HE2.out x)
                    have HME := Aside0.mk hme
                    have HLive := Aside0.mk (cntE_live (more ++ less) hme)
                    have HVals := Aside0.mk (fun y hy => cntE_vals (more ++ less) hme (T := []) (B := 0) (by omega) List.Pairwise.nil (by simp) y hy)
                    have hVn : (cntE [] (more ++ less)).length ≤ 40 := by have := cntE_len2 (more ++ less) []; simp only [List.length_nil, Nat.zero_add] at this; omega
                    have HLeft := Aside0.mk (chgR_left T more less)
                    have HCo := Aside0.mk (count_good A5 c5 (more ++ less) hb5 hme w5 (Kd.R_reads' HO5.out).2.2)
                    have HS5 := Aside0.mk (HS.out.below HB5.out)
                    have HK5 := Aside0.mk (Kd.R_reads' HO5.out).2.2
                    clear hme HS HB5 HB4 HO4 HO5 HM1 HM2 hc4
                    rw [← List.length_append]
                    generalize hbo : more ++ less = both at HME HLive HVals hVn HLeft HCo HK5 hb5 hc5 ⊢
                    generalize cntE [] both = V at HLive HVals hVn HLeft HCo
                    refine HCo.out.mono ?_
                    rintro e w6 ⟨v6, rfl, hv6, hb6⟩
                    obtain ⟨A6, c6, rfl, hc6, hr6⟩ := hv6.reads (by omega)
                    have HS6 := Aside0.mk (HS5.out.below hb6)
                    have HV6 := Aside0.mk hv6
                    have HK6 := Aside0.mk (Kd.C_below HK5.out hb6)
                    have hgw : g < w5.heap.size := blk_lt HS5.out.tab.1
                    have HGW := Aside0.mk hgw
                    have HR6 := Aside0.mk hr6
                    clear hgw hr6 hv6 hb6 HCo HS5 HK5 hc6
                    go_wp2_with (fail)
                    have HV2 := Aside0.mk (show ∀ y ∈ V, 0 ≤ y.f2 ∧ y.f2 ≤ 2621440 from fun y hy => by obtain ⟨q1, q2, q3⟩ := HVals.out y hy; omega)
                    clear HVals
                    go_loopg [11, 12] V.length (fun kx v11 v12 wr => ∃ k : Nat, v12 = .int .i64 (k : Int) ∧ k ≤ V.length ∧ V.length - k ≤ kx ∧ v11 = .int .i64 (sumT (V.take k)).2 ∧ Aside0 (Below w6.heap.size w6 wr))
                    case atStart => exact ⟨0, rfl, Nat.zero_le _, by omega, rfl, ⟨Below.refl _ _⟩⟩
                    case round =>
                      obtain ⟨k, rfl, hk, hkk, rfl, HBr⟩ := hrel
                      by_cases hltk : k < V.length
                      · as_aux_lemma =>
                          have hk1 : k + 1 ≤ V.length := hltk
                          obtain ⟨ad6, rfl, h0, h1, h2⟩ := row_cells (Kd.C_below HR6.out HBr.out) k hltk
                          obtain ⟨b1, b2⟩ := sum2_bound (V.take k) fun x hx => HV2.out x (List.mem_of_mem_take hx)
                          obtain ⟨m1, m2⟩ := HV2.out V[k] (List.getElem_mem _)
                          have hlen : (V.take k).length ≤ 40 := by simp; omega
                          have hst : (sumT (V.take (k + 1))).2 = (sumT (V.take k)).2 + V[k].f2 := by
                            rw [List.take_add_one, List.getElem?_eq_getElem hltk, Option.toList_some, sumT_snoc]
                          have HST := Aside0.mk hst
                          clear hst
                          generalize V[k] = x at h0 h1 h2 m1 m2 HST
                          generalize (sumT (V.take k)).2 = s1 at b1 b2 HST ⊢
                          obtain ⟨x0, x1, x2⟩ := x
                          simp only at h0 h1 h2 m1 m2
                          have hw1 : IntKind.i64.wrap (s1 + x2) = s1 + x2 := IntWalk.i64_in _ (by omega)
                          go_wp2_with (fail)
                          go_roundg (gk - 1)
                          case measure => omega
                          case rel => exact ⟨k + 1, by go_num, hk1, by omega, by rw [HST.out], HBr⟩
                      · as_aux_lemma =>
                          have hkl : k = V.length := by omega
                          subst hkl
                          rw [List.take_length, HLive.out]
                          have HS7 := Aside0.mk (HS6.out.below HBr.out)
                          have HV7 := Aside0.mk (HV6.out.below HBr.out)
                          have HK7 := Aside0.mk (Kd.C_below HK6.out HBr.out)
                          clear HBr HS6 HV6 HK6 HR6 hltk hk hkk HV2
                          obtain ⟨wq, hwq⟩ : ∃ wq, wq = wr := ⟨_, rfl⟩
                          subst hwq
                          go_wp2_with (fail)
                          go_loopg [13, 14] both.length (fun kx v13 v14 wr => ∃ k : Nat, v14 = .int .i64 (k : Int) ∧ k ≤ both.length ∧ both.length - k ≤ kx ∧ v13 = .int .i64 (numE (both.take k)) ∧ Aside0 (Below wq.heap.size wq wr))
                          case atStart => exact ⟨0, rfl, Nat.zero_le _, by omega, rfl, ⟨Below.refl _ _⟩⟩
                          case round =>
                            obtain ⟨k, rfl, hk, hkk, rfl, HBr⟩ := hrel
                            by_cases hltk : k < both.length
                            · as_aux_lemma =>
                                obtain ⟨ad5, rfl, h0, h1, h2, h3⟩ := ext_cells (Kd.C_below HK7.out HBr.out) k hltk
                                have hk1 : k + 1 ≤ both.length := hltk
                                have hst : numE (both.take (k + 1)) = numE (both.take k) + (if both[k].f1.f0 = 0 then 0 else both[k].f0.f1) := by
                                  rw [List.take_add_one, List.getElem?_eq_getElem hltk]
                                  exact numE_snoc _ _
                                have HST := Aside0.mk hst
                                obtain ⟨b1, b2⟩ := numE_bound (both.take k) fun x hx => HME.out x (List.mem_of_mem_take hx)
                                have hlen : (both.take k).length ≤ 40 := by simp; omega
                                obtain ⟨m1, m2, m3, m4, m5, m6, m7⟩ := HME.out both[k] (List.getElem_mem _)
                                clear hst
                                generalize both[k] = x at h0 h1 h2 h3 m1 m2 m3 m4 m5 m6 m7 HST
                                generalize numE (both.take k) = s1 at b1 b2 HST ⊢
                                obtain ⟨⟨x0, x1⟩, ⟨x2, x3⟩⟩ := x
                                simp only at h0 h1 h2 h3 m1 m2 m3 m4 m5 m6 m7
                                have hw1 : IntKind.i64.wrap (s1 + x1) = s1 + x1 := IntWalk.i64_in _ (by omega)
                                by_cases hz : x2 = 0
                                · have hzb : (x2 != 0) = false := by simp [hz]
                                  have HZ0 := Aside0.mk hz
                                  clear hz
                                  as_aux_lemma =>
                                    go_wp2_with (fail)
                                    go_roundg (gk - 1)
                                    case measure => omega
                                    case rel => exact ⟨k + 1, by go_num, hk1, by omega, by rw [HST.out, if_pos HZ0.out]; simp, HBr⟩
                                · have hzb : (x2 != 0) = true := by simpa using hz
                                  have HZ0 := Aside0.mk hz
                                  clear hz
                                  as_aux_lemma =>
                                    go_wp2_with (fail)
                                    go_roundg (gk - 1)
                                    case measure => omega
                                    case rel => exact ⟨k + 1, by go_num, hk1, by omega, by rw [HST.out, if_neg HZ0.out], HBr⟩
                            · as_aux_lemma =>
                                have hkl : k = both.length := by omega
                                subst hkl
                                rw [List.take_length]
                                have HS8 := Aside0.mk (HS7.out.below HBr.out)
                                have HV8 := Aside0.mk (HV7.out.below HBr.out)
                                clear HBr HS7 HV7 HK7 hltk hk hkk HME
                                obtain ⟨wp, hwp⟩ : ∃ wp, wp = wr := ⟨_, rfl⟩
                                subst hwp
                                generalize numE both = total
                                go_wp2_with (fail)
                                refine (rows2 g N (by omega) T _ HS8.out.tab.tb).mono ?_
                                rintro e w9 ⟨v9, rfl, hv9, hb9⟩
                                have HS9 := Aside0.mk (HS8.out.below hb9)
                                have HV9 := Aside0.mk (HV8.out.below hb9)
                                obtain ⟨A9, c9, rfl, hc9, hr9⟩ := hv9.reads (by omega)
                                have HW9 := Aside0.mk hv9
                                have hgw2 : g < wp.heap.size := blk_lt HS8.out.tab.1
                                have HGW2 := Aside0.mk hgw2
                                clear hv9 hb9 hr9 hc9 HS8 HV8 hgw2
                                have HCh := Aside0.mk (change_calls g b N (by omega) T A1 c1 more A2 c2 less (by omega) (by omega) w9 HS9.out.tab (Kd.C_below HR1.out HS9.out.bel) (Kd.C_below HR2.out HS9.out.bel))
                                generalize (chgR T more less).1 = T' at HCh HLeft
                                generalize (chgR T more less).2 = code at HCh
                                go_wp2_with (fail)
                                refine HCh.out.mono ?_
                                rintro e w10 ⟨rfl, b10, hb10, ht10, hg10⟩
                                have HS10 := Aside0.mk (HS9.out.tabs hb10 ht10 hg10 (.inl rfl))
                                have HV10 := Aside0.mk (HV9.out.grown hg10 HGW.out)
                                have HW10 := Aside0.mk (HW9.out.grown hg10 HGW2.out)
                                clear hb10 ht10 hg10 HCh HS9 HV9 HW9 HGW HGW2
                                have hTT : T'.length = T.length := HLeft.out.1
                                go_wp2_with (fail)
                                refine (rows2 g _ (by omega) T' _ HS10.out.tab.tb).mono ?_
                                rintro e w11 ⟨v11, rfl, hv11, hb11⟩
                                obtain ⟨A11, c11, rfl, hc11, hr11⟩ := hv11.reads (by omega)
                                have HS11 := Aside0.mk (HS10.out.below hb11)
                                have HRV := Aside0.mk ((HV10.out.below hb11).read (by omega))
                                have HRW := Aside0.mk ((HW10.out.below hb11).read (by omega))
                                have HRN := Aside0.mk hr11
                                clear hv11 hb11 hr11 hc11 HS10 HV10 HW10
                                have hlb : ((T.length : Int) != (T'.length : Int)) = false := by rw [hTT]; simp
                                have htb : (total != total) = false := by simp
                                go_wp2_with (fail)
                                go_loopg [17] T.length (fun kx v17 wr => ∃ i : Nat, v17 = .int .i64 (i : Int) ∧ i ≤ T.length ∧ T.length - i ≤ kx ∧ Aside0 (Below w11.heap.size w11 wr))
                                case atStart => exact ⟨0, rfl, Nat.zero_le _, by omega, ⟨Below.refl _ _⟩⟩
                                case round =>
                                  obtain ⟨i, rfl, hi, hik, HBo⟩ := hrel
                                  obtain ⟨gq, hgq⟩ : ∃ gq, gq = gk := ⟨_, rfl⟩
                                  subst hgq
                                  obtain ⟨wo, hwo⟩ : ∃ wo, wo = wr := ⟨_, rfl⟩
                                  subst hwo
                                  by_cases hlti : i < T.length
                                  · as_aux_lemma =>
                                      have hi' : i < T'.length := by omega
                                      have hi1 : i + 1 ≤ T.length := hlti
                                      obtain ⟨e0, e1, e2⟩ := HLeft.out.2 i hlti hi'
                                      obtain ⟨adW, rfl, a0, a1, a2⟩ := row_cells (Kd.C_below HRW.out HBo.out) i hlti
                                      obtain ⟨adN, rfl, b0, b1, b2⟩ := row_cells (Kd.C_below HRN.out HBo.out) i hi'
                                      rw [e0] at b0
                                      rw [e1] at b1
                                      clear e0 e1
                                      have HE2 := Aside0.mk e2
                                      clear e2
                                      generalize T[i] = x at a0 a1 a2 b0 b1 HE2
                                      generalize T'[i] = y at b2 HE2
                                      obtain ⟨x0, x1, x2⟩ := x
                                      simp only at a0 a1 a2 b0 b1 HE2
                                      go_wp2_with (fail)
                                      go_loopg [18, 19] V.length (fun kx v18 v19 wr => ∃ j : Nat, v19 = .int .i64 (j : Int) ∧ j ≤ V.length ∧ V.length - j ≤ kx ∧ v18 = .bool (named (V.take j) x0) ∧ Aside0 (Below wo.heap.size wo wr))
                                      case atStart => exact ⟨0, rfl, Nat.zero_le _, by omega, rfl, ⟨Below.refl _ _⟩⟩
                                      case round =>
                                        obtain ⟨j, rfl, hj, hjk, rfl, HBi⟩ := hrel
                                        by_cases hltj : j < V.length
                                        · as_aux_lemma =>
                                            have hj1 : j + 1 ≤ V.length := hltj
                                            obtain ⟨adV, rfl, v0, v1, v2⟩ := row_cells (Kd.C_below HRV.out (below_step HBo.out HBi.out)) j hltj
                                            have a0' := cell_below HBi.out a0
                                            have HST := Aside0.mk (named_step hltj x0)
                                            clear a0 a1 a2 b0 b1 b2 HE2
                                            generalize V[j] = z at v0 v1 v2 HST
                                            obtain ⟨z0, z1, z2⟩ := z
                                            simp only at v0 v1 v2 HST
                                            generalize named (V.take j) x0 = nm at HST ⊢
                                            cases nm
                                            · as_aux_lemma =>
                                                go_wp2_with (fail)
                                                go_quiet (fail)
                                                go_wp2_with (fail)
                                                go_roundg (gk - 1)
                                                case measure => omega
                                                case rel => exact ⟨j + 1, by go_num, hj1, by omega, by rw [HST.out]; simp, ⟨pw_below_drewN HBi.out _⟩⟩
                                            · as_aux_lemma =>
                                                go_wp2_with (fail)
                                                go_quiet (fail)
                                                go_wp2_with (fail)
                                                go_roundg (gk - 1)
                                                case measure => omega
                                                case rel => exact ⟨j + 1, by go_num, hj1, by omega, by rw [HST.out]; simp, ⟨pw_below_drewN HBi.out _⟩⟩
                                        · as_aux_lemma =>
                                            have hjl : j = V.length := by omega
                                            subst hjl
                                            rw [List.take_length]
                                            replace a0 := cell_below HBi.out a0
                                            replace a1 := cell_below HBi.out a1
                                            replace a2 := cell_below HBi.out a2
                                            replace b0 := cell_below HBi.out b0
                                            replace b1 := cell_below HBi.out b1
                                            replace b2 := cell_below HBi.out b2
                                            by_cases hn : named V x0 = true
                                            · rw [hn]
                                              as_aux_lemma =>
                                                go_wp2_with (fail)
                                                go_quiet (fail)
                                                go_wp2_with (fail)
                                                go_roundg (gq - 1)
                                                case measure => omega
                                                case rel => exact ⟨i + 1, by go_num, hi1, by omega, ⟨pw_below_drewN (below_step HBo.out HBi.out) _⟩⟩
                                            · have hn' : named V x0 = false := by simpa using hn
                                              have hy := HE2.out (named_none hn')
                                              rw [hy] at b2
                                              rw [hn']
                                              clear hy hn' hn HE2
                                              simp only at b2
                                              as_aux_lemma =>
                                                go_wp2_with (fail)
                                                go_quiet (fail)
                                                go_wp2_with (fail)
                                                go_roundg (gq - 1)
                                                case measure => omega
                                                case rel => exact ⟨i + 1, by go_num, hi1, by omega, ⟨pw_below_drewN (below_step HBo.out HBi.out) _⟩⟩
                                  · as_aux_lemma =>
                                      have hil : i = T.length := by omega
                                      subst hil
                                      have HS12 := Aside0.mk (HS11.out.below HBo.out)
                                      go_wp2_with (fail)
                                      refine (awake_calls _).mono ?_
                                      rintro e w14 ⟨rfl, hb14⟩
                                      have HS14 := Aside0.mk (HS12.out.below hb14)
                                      clear hb14
                                      go_wp2_with (fail)
                                      go_ret
                                      exact ⟨rfl, HS14.out.bel⟩
          · rw [decide_eq_false ha2] at HAl2
            have HAl2 := Aside0.mk HAl2
            clear ha2
            as_aux_lemma =>
              go_enter Try.func10, Try.ntmps10
              go_wp2_with (fail)
              refine (newS w w (Below.refl _ _)).mono ?_
              rintro e w1 ⟨g, b, rfl, hs⟩
              have HS1 := Aside0.mk hs
              clear hs
              go_wp2_with (fail)
              refine (HFew.out w1 HS1.out.bel).mono ?_
              rintro e w2 ⟨rfl, hb2⟩
              have HS2 := Aside0.mk (HS1.out.below hb2)
              clear hb2 HS1
              go_wp2_with (fail)
              refine (HAl1.out _ HS2.out.bel).mono ?_
              rintro e w2 ⟨rfl, hb2⟩
              have HS2' := Aside0.mk (HS2.out.below hb2)
              clear hb2 HS2
              have HS2 := HS2'
              clear HS2'
              go_wp2_with (fail)
              refine (HAl2.out _ HS2.out.bel).mono ?_
              rintro e w2 ⟨rfl, hb2⟩
              have HS2' := Aside0.mk (HS2.out.below hb2)
              clear hb2 HS2
              have HS2 := HS2'
              clear HS2'
              go_wp2_with (fail)
              refine (awake_calls _).mono ?_
              rintro e w3 ⟨rfl, hb3⟩
              have HS3 := Aside0.mk (HS2.out.below hb3)
              clear hb3 HS2
              go_wp2_with (fail)
              go_ret
              exact ⟨rfl, HS3.out.bel⟩
        · rw [decide_eq_false ha1] at HAl1
          have HAl1 := Aside0.mk HAl1
          clear ha1
          as_aux_lemma =>
            go_enter Try.func10, Try.ntmps10
            go_wp2_with (fail)
            refine (newS w w (Below.refl _ _)).mono ?_
            rintro e w1 ⟨g, b, rfl, hs⟩
            have HS1 := Aside0.mk hs
            clear hs
            go_wp2_with (fail)
            refine (HFew.out w1 HS1.out.bel).mono ?_
            rintro e w2 ⟨rfl, hb2⟩
            have HS2 := Aside0.mk (HS1.out.below hb2)
            clear hb2 HS1
            go_wp2_with (fail)
            refine (HAl1.out _ HS2.out.bel).mono ?_
            rintro e w2 ⟨rfl, hb2⟩
            have HS2' := Aside0.mk (HS2.out.below hb2)
            clear hb2 HS2
            have HS2 := HS2'
            clear HS2'
            go_wp2_with (fail)
            refine (awake_calls _).mono ?_
            rintro e w3 ⟨rfl, hb3⟩
            have HS3 := Aside0.mk (HS2.out.below hb3)
            clear hb3 HS2
            go_wp2_with (fail)
            go_ret
            exact ⟨rfl, HS3.out.bel⟩
      · have g2 : decide ((less.length : Int) > 20) = true := by simp; omega
        clear HAl1 HAl2
        as_aux_lemma =>
          go_enter Try.func10, Try.ntmps10
          go_wp2_with (fail)
          refine (newS w w (Below.refl _ _)).mono ?_
          rintro e w1 ⟨g, b, rfl, hs⟩
          have HS1 := Aside0.mk hs
          clear hs
          go_wp2_with (fail)
          refine (HFew.out w1 HS1.out.bel).mono ?_
          rintro e w2 ⟨rfl, hb2⟩
          have HS2 := Aside0.mk (HS1.out.below hb2)
          clear hb2 HS1
          go_wp2_with (fail)
          refine (awake_calls _).mono ?_
          rintro e w3 ⟨rfl, hb3⟩
          have HS3 := Aside0.mk (HS2.out.below hb3)
          clear hb3 HS2
          go_wp2_with (fail)
          go_ret
          exact ⟨rfl, HS3.out.bel⟩
    · have g1 : decide ((more.length : Int) > 20) = true := by simp; omega
      clear HAl1 HAl2
      as_aux_lemma =>
        go_enter Try.func10, Try.ntmps10
        go_wp2_with (fail)
        refine (newS w w (Below.refl _ _)).mono ?_
        rintro e w1 ⟨g, b, rfl, hs⟩
        have HS1 := Aside0.mk hs
        clear hs
        go_wp2_with (fail)
        refine (HFew.out w1 HS1.out.bel).mono ?_
        rintro e w2 ⟨rfl, hb2⟩
        have HS2 := Aside0.mk (HS1.out.below hb2)
        clear hb2 HS1
        go_wp2_with (fail)
        refine (awake_calls _).mono ?_
        rintro e w3 ⟨rfl, hb3⟩
        have HS3 := Aside0.mk (HS2.out.below hb3)
        clear hb3 HS2
        go_wp2_with (fail)
        go_ret
        exact ⟨rfl, HS3.out.bel⟩
  · rw [decide_eq_false hf] at HFew
    have HFew := Aside0.mk HFew
    clear hf HAl1 HAl2
    as_aux_lemma =>
      go_enter Try.func10, Try.ntmps10
      go_wp2_with (fail)
      refine (newS w w (Below.refl _ _)).mono ?_
      rintro e w1 ⟨g, b, rfl, hs⟩
      have HS1 := Aside0.mk hs
      clear hs
      go_wp2_with (fail)
      refine (HFew.out w1 HS1.out.bel).mono ?_
      rintro e w2 ⟨rfl, hb2⟩
      have HS2 := Aside0.mk (HS1.out.below hb2)
      clear hb2 HS1
      go_wp2_with (fail)
      refine (awake_calls _).mono ?_
      rintro e w3 ⟨rfl, hb3⟩
      have HS3 := Aside0.mk (HS2.out.below hb3)
      clear hb3 HS2
      go_wp2_with (fail)
      go_ret
      exact ⟨rfl, HS3.out.bel⟩
end Go.Proofs.Ytcjeegomonegpaa.PLivePlays
namespace Go.Proofs.Ytcjeegomonegpaa.liveApart
open Go.ChangeShapes Go.WideShapes Go.ChangeAt Go.RowKit Go.Joins
set_option linter.unusedVariables false
theorem own : ownKnob Try.prog.godebug = none := by kernel_rfl
theorem laidOut : laidOutB Try.prog = true := by kernel_rfl

set_option maxRecDepth 100000 in
theorem lifted (os : Os) (started : os.Started) (H : Type) (enc : TypeId × Value → H) :
    ReturnsInHanded {} Try.checked os 10 .any (Rows.liveApartSpec.pre6 enc Try.prog Try.f10 Rows.liveApartRow.domain false) (Rows.liveApartSpec.post enc Try.prog Try.f10 false true false false) := by
  refine returnsInHanded_of_change_sized (C := Try.checked) own started (by kernel_rfl) Try.func10
    (ChangeSpec.witness6 (enc := enc) (C := Try.checked) false ⟨#[], #[.slice none 0 0, .slice none 0 0, .slice none 0 0], []⟩ 8 (by kernel_rfl) (by kernel_rfl) (by kernel_rfl) (by kernel_rfl)) ?_
  intro W base args ds gs before hval0 hW hcnd hsz0 _
  have hval : ∀ (j : Nat) t v, Try.f10.params[j]? = some t → args[j]? = some v → Value.okWide Try.prog W .any base t v := hval0
  have hW' := hW
  obtain ⟨p, q, hA0, hV, rfl, hfz, hnd⟩ := hW
  have hA : DataW.TrodAll enc Try.prog W 0 (fun _ => true) true Try.f10.params.toList args.toList ds p := hA0
  rw [Try.params10] at hA hval
  obtain ⟨v0, vs0, d0, ds0, p0, q0, hargs, rfl, rfl, h0, r0⟩ := trodAll_cons hA
  obtain ⟨v1, vs1, d1, ds1, p1, q1, rfl, rfl, rfl, h1, r1⟩ := trodAll_cons r0
  obtain ⟨v2, vs2, d2, ds2, p2, q2, rfl, rfl, rfl, h2, r2⟩ := trodAll_cons r1
  obtain ⟨rfl, rfl, rfl⟩ := trodAll_nil r2
  obtain rfl : args = #[v0, v1, v2] := by cases args; simp_all
  obtain ⟨rfl, rfl⟩ := trodVars_none hV
  have k0 := h0
  have lt0 : ∀ x ∈ p0, x.block < W.heap.size := by obtain ⟨m, hm⟩ := k0; exact DataW.trod_lt m _ _ _ hm
  obtain ⟨A0, n0, c0, rfl⟩ := okWide_slice Try.underlying38 (hval 0 38 v0 rfl rfl)
  obtain ⟨l0, rfl, hc0, hr0, hw0⟩ : ∃ l : List PLivePlays.S46, l.length = n0 ∧ n0 ≤ c0 ∧ Go.Proofs.YtcjeegomonegpaaW.PrintWords.Kd.C PLivePlays.k46 W A0 n0 l ∧ PLivePlays.OpsWf l := by obtain ⟨m, hm⟩ := h0; exact PLivePlays.open_ops hm
  have k1 := h1
  have lt1 : ∀ x ∈ p1, x.block < W.heap.size := by obtain ⟨m, hm⟩ := k1; exact DataW.trod_lt m _ _ _ hm
  obtain ⟨A1, n1, c1, rfl⟩ := okWide_slice Try.underlying33 (hval 1 33 v1 rfl rfl)
  obtain ⟨l1, rfl, hc1, hr1⟩ : ∃ l : List PLivePlays.S66, l.length = n1 ∧ n1 ≤ c1 ∧ Go.Proofs.YtcjeegomonegpaaW.PrintWords.Kd.C PLivePlays.k66 W A1 n1 l := by obtain ⟨m, hm⟩ := h1; exact PLivePlays.open_exts hm
  have k2 := h2
  have lt2 : ∀ x ∈ p2, x.block < W.heap.size := by obtain ⟨m, hm⟩ := k2; exact DataW.trod_lt m _ _ _ hm
  obtain ⟨A2, n2, c2, rfl⟩ := okWide_slice Try.underlying33 (hval 2 33 v2 rfl rfl)
  obtain ⟨l2, rfl, hc2, hr2⟩ : ∃ l : List PLivePlays.S66, l.length = n2 ∧ n2 ≤ c2 ∧ Go.Proofs.YtcjeegomonegpaaW.PrintWords.Kd.C PLivePlays.k66 W A2 n2 l := by obtain ⟨m, hm⟩ := h2; exact PLivePlays.open_exts hm
  clear hA0 hval0 hsz0
  refine (PLivePlays.apart_walk A0 c0 l0 A1 c1 l1 A2 c2 l2 W hc0 hr0 hw0 hc1 hr1 hc2 hr2).mono fun e W' ⟨he, bel⟩ => ?_
  subst he
  exact ⟨_, rfl, _, _, _, [], _, [], hW', trodAll_mk1 (shut_bool Try.underlying4 _), (trodAll_cons_mk (Below.trod laidOut (by kernel_rfl) (of_decide_eq_true (by kernel_rfl)) k0 bel lt0) (trodAll_cons_mk (Below.trod laidOut (by kernel_rfl) (of_decide_eq_true (by kernel_rfl)) k1 bel lt1) (trodAll_cons_mk (Below.trod laidOut (by kernel_rfl) (of_decide_eq_true (by kernel_rfl)) k2 bel lt2) trodAll_mk0))), rfl, bel.frame _, fun h => by cases h⟩
theorem over : Rows.liveApartRow.holds Try.pinned (OpenSpec.ofChange Rows.liveApartSpec) :=
  OpenClaim.holds_of_wide 10 Try.f10 rfl rfl rfl rfl rfl rfl rfl ⟨rfl, rfl, rfl, rfl, rfl⟩ rfl rfl rfl rfl rfl (by kernel_rfl) Try.func10 (by kernel_rfl)
    (of_decide_eq_true (by kernel_rfl)) (by unfold Func.isWrapper; first | (rw [if_pos (by decide +kernel)]; kernel_rfl) | (rw [if_neg (by decide +kernel)]; exact ⟨rfl, rfl⟩))
    (fun os started H enc _ => lifted os started H enc)
theorem proved : Rows.LiveApartSaid := over
#print axioms proved
end Go.Proofs.Ytcjeegomonegpaa.liveApart
namespace Go.Proofs.Ytcjeegomonegpaa
/-- The row, under a short name, for the claim. -/
theorem liveApart_holds : Rows.LiveApartSaid := liveApart.proved
end Go.Proofs.Ytcjeegomonegpaa
