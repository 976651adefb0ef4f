/- LiveCounts: the law's walk. Conditions: what each theorem says. -/
import Derived.Test.YtcjeegomonegpaaLvA
import Derived.Test.YtcjeegomonegpaaLvD
import Derived.Test.YtcjeegomonegpaaLvE
namespace Go.Proofs.Ytcjeegomonegpaa.PLivePlays
open Go.RowKit Go.Maps Go.Sort Go.Proofs.YtcjeegomonegpaaW.PrintWords Go.Proofs.YtcjeegomonegpaaW.PrintLast Go.Proofs.YtcjeegomonegpaaW.PrintMore
set_option linter.unusedVariables false
set_option linter.unusedSimpArgs false
theorem cntE_len : ∀ (l : List S66) (T : List S23), (cntE T l).length ≤ T.length + l.length
  | [], T => by simp [cntE]
  | x :: l, T => by
    have := cntE_len l (addE T x)
    have := addE_len T x
    simp only [cntE, List.length_cons]
    omega
set_option maxRecDepth 100000 in
set_option maxHeartbeats 4000000 in
theorem counts_walk (A : Option Addr) (c : Nat) (l : List S66) (w : World) (hc : l.length ≤ c) (hr : Kd.C k66 w A l.length l) :
    Calls Try.prog 4 #[.slice A l.length c] w fun e w' => e = .returned (.bool true) ∧ Below w.heap.size w w' := by
  have hu28 := Try.underlying28
  have HR := Aside0.mk hr
  have HC := Aside0.mk hc
  have hmax := hr.2.1
  clear hr hc
  obtain ⟨K, hK⟩ : ∃ K, K = 5000 := ⟨_, rfl⟩
  have HK := Aside0.mk hK
  clear hK
  by_cases hl : l.length ≤ 40
  · have h40 : decide ((l.length : Int) > 40) = false := by simp; omega
    have hall := refAll_f l (by omega) K (by have := HK.out; omega)
    by_cases hg : ∀ x ∈ l, MayE x
    · rw [decide_eq_true hg] at hall
      have HAll := Aside0.mk (fun w hr => lighterref08_All.calls K A c l true w hr HC.out hall)
      have HG := Aside0.mk hg
      clear hall hg
      go_enter Try.func4, Try.ntmps4
      go_wp2_with (fail)
      refine (HAll.out _ HR.out).mono ?_
      rintro e w1 ⟨rfl, hb1⟩
      have HB1 := Aside0.mk hb1
      clear hb1
      go_wp2_with (fail)
      refine (count_good A c l hl HG.out w1 (Kd.C_below HR.out HB1.out)).mono ?_
      rintro e w2 ⟨v, rfl, hv, hb2⟩
      obtain ⟨A2, c2, rfl, hc2, hr2⟩ := hv.reads (by have := cntE_len l []; simp at this; omega)
      have HB2 := Aside0.mk (below_step HB1.out hb2)
      have HR2 := Aside0.mk hr2
      have HC2 := Aside0.mk hc2
      clear hb2 hv hr2 hc2
      go_wp2_with (fail)
      refine (lighterref08_Count.calls K A c l ((cntE [] l).map toP) w2 (Kd.C_below HR.out HB2.out) HC.out (by rw [HK.out]; exact refCount_f l (by omega) HG.out)).mono ?_
      rintro e w3 ⟨v3, rfl, hv3, hb3⟩
      obtain ⟨A3, c3, rfl, hc3, hr3⟩ := Kd.R_reads hv3
      have hlen : (cntE [] l).length ≤ 1000000 := by have := cntE_len l []; simp at this; omega
      have hS0 := (lighterlaw08_Same.calls K A2 c2 (cntE [] l) A3 c3 ((cntE [] l).map toP) true w3 (Kd.C_below HR2.out hb3) HC2.out hr3 hc3 (same_f (cntE [] l) hlen K (by have hq := cntE_len l []; have := HK.out; simp at hq; omega)))
      rw [show ((cntE [] l).map toP).length = (cntE [] l).length from List.length_map _] at hS0
      have HSame := Aside0.mk hS0
      have HB3 := Aside0.mk (below_step HB2.out hb3)
      clear hS0 hb3 hv3 hr3 hc3 hlen
      go_wp2_with (fail)
      refine HSame.out.mono ?_
      rintro e w4 ⟨rfl, hb4⟩
      have HB4 := Aside0.mk (below_step HB3.out hb4)
      clear hb4
      go_wp2_with (fail)
      refine (awake_calls _).mono ?_
      rintro e w5 ⟨rfl, hb5⟩
      have HB5 := Aside0.mk (below_step HB4.out hb5)
      clear hb5
      go_wp2_with (fail)
      go_ret
      exact ⟨rfl, HB5.out⟩
    · rw [decide_eq_false hg] at hall
      have HAll := Aside0.mk (fun w hr => lighterref08_All.calls K A c l false w hr HC.out hall)
      have HG := Aside0.mk hg
      clear hall hg
      go_enter Try.func4, Try.ntmps4
      go_wp2_with (fail)
      refine (HAll.out _ HR.out).mono ?_
      rintro e w1 ⟨rfl, hb1⟩
      have HB1 := Aside0.mk hb1
      clear hb1
      go_wp2_with (fail)
      refine (count_bad A c l hl HG.out w1 (Kd.C_below HR.out HB1.out)).mono ?_
      rintro e w2 ⟨rfl, hb2⟩
      have HB2 := Aside0.mk (below_step HB1.out hb2)
      clear hb2
      go_wp2_with (fail)
      refine (awake_calls _).mono ?_
      rintro e w3 ⟨rfl, hb3⟩
      have HB3 := Aside0.mk (below_step HB2.out hb3)
      clear hb3
      go_wp2_with (fail)
      go_ret
      exact ⟨rfl, HB3.out⟩
  · have h40 : decide ((l.length : Int) > 40) = true := by simp; omega
    go_enter Try.func4, Try.ntmps4
    go_wp2_with (fail)
    refine (awake_calls _).mono ?_
    rintro e w1 ⟨rfl, hb1⟩
    have HB1 := Aside0.mk hb1
    clear hb1
    go_wp2_with (fail)
    go_ret
    exact ⟨rfl, HB1.out⟩
end Go.Proofs.Ytcjeegomonegpaa.PLivePlays
