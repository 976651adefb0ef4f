/- YtpfnaknmalojkaaGreatC13: what this claim rests on. Words and contracts are those of the kit's print (print.sh wrote them, those that nothing here reaches are left out); all else is own work. Conditions: what each theorem says. -/
import Derived.Test.YtpfnaknmalojkaaGreatC12
namespace Go.Proofs.YtpfnaknmalojkaaGreat.PTopRows
open Go.RowKit Go.Proofs.YtpfnaknmalojkaaGreatW.PrintWords Go.Proofs.YtpfnaknmalojkaaGreatW.PrintLast Go.Proofs.YtpfnaknmalojkaaGreatW.PrintMore
attribute [local go_sem] Za5 Za4 Zbp Zbo Za7 Za6 Zbl Zbk   -- for this text's walks alone
set_option linter.unusedVariables false
set_option linter.unusedSimpArgs false
mutual
def Zah.j0 : Nat → Bool → Int → Int → Int → List (S70) → ByteArray → ByteArray → Option (Int)
 | 0, _, _, _, _, _, _, _ => none
 | k + 1, x20, x107000, x107001, x107002, x107003, x107004, x107005 => if x20 = true then (some 31) else (if x107002 < 1 then (Zah.j1 k true x107000 x107001 x107002 x107003 x107004 x107005) else (Zah.j1 k (decide (x107002 > 3)) x107000 x107001 x107002 x107003 x107004 x107005))
def Zah.j1 : Nat → Bool → Int → Int → Int → List (S70) → ByteArray → ByteArray → Option (Int)
 | 0, _, _, _, _, _, _, _ => none
 | k + 1, x28, x107000, x107001, x107002, x107003, x107004, x107005 => if x28 = true then (some 14) else (if x107002 = 3 then (if (x107003.length : Int) > 0 then (some 1) else (if x107004.toList = ([] : List UInt8) then (if (x107005.size : Int) > 512 then (some 1) else (some 0)) else (some 1))) else (if (x107003.length : Int) < 1 then (Zah.j2 k true x107000 x107001 x107002 x107003 x107004 x107005) else (if (x107003.length : Int) > 64 then (Zah.j2 k true x107000 x107001 x107002 x107003 x107004 x107005) else (if x107005.toList = ([] : List UInt8) then (if x107002 = 2 then (if x107004.toList = ([] : List UInt8) then ((Zat.f k x107003).bind fun t107 => (if t107 = true then (if x107002 = 1 then ((Zar.f k x107003).bind fun t108 => (Zah.j2 k (decide (t108 > 512)) x107000 x107001 x107002 x107003 x107004 x107005)) else (Zah.j2 k false x107000 x107001 x107002 x107003 x107004 x107005)) else (Zah.j2 k true x107000 x107001 x107002 x107003 x107004 x107005))) else (Zah.j2 k true x107000 x107001 x107002 x107003 x107004 x107005)) else ((Zat.f k x107003).bind fun t109 => (if t109 = true then (if x107002 = 1 then ((Zar.f k x107003).bind fun t110 => (Zah.j2 k (decide (t110 > 512)) x107000 x107001 x107002 x107003 x107004 x107005)) else (Zah.j2 k false x107000 x107001 x107002 x107003 x107004 x107005)) else (Zah.j2 k true x107000 x107001 x107002 x107003 x107004 x107005)))) else (Zah.j2 k true x107000 x107001 x107002 x107003 x107004 x107005)))))
def Zah.j2 : Nat → Bool → Int → Int → Int → List (S70) → ByteArray → ByteArray → Option (Int)
 | 0, _, _, _, _, _, _, _ => none
 | k + 1, x88, x107000, x107001, x107002, x107003, x107004, x107005 => if x88 = true then (some 1) else (if x107002 = 1 then ((Zar.f k x107003).bind fun t111 => (if (x107004.size : Int) = (wrap64 (64 * t111)) then (some 0) else (some 30))) else (some 0))
end
def Zah.f (k : Nat) (a0_0 : Int) (a0_1 : Int) (a0_2 : Int) (l0_3 : List (S70)) (a0_4 : ByteArray) (a0_5 : ByteArray) : Option (Int) := if a0_0 < 0 then (Zah.j0 k true a0_0 a0_1 a0_2 l0_3 a0_4 a0_5) else (if a0_0 ≥ 4294967296 then (Zah.j0 k true a0_0 a0_1 a0_2 l0_3 a0_4 a0_5) else (if a0_1 < 0 then (Zah.j0 k true a0_0 a0_1 a0_2 l0_3 a0_4 a0_5) else (Zah.j0 k (decide (a0_1 ≥ 1099511627776)) a0_0 a0_1 a0_2 l0_3 a0_4 a0_5)))
set_option maxHeartbeats 8000000 in
set_option maxRecDepth 100000 in
theorem Zah.calls (k : Nat) (a0_0 : Int) (a0_1 : Int) (a0_2 : Int) (A0_3 : Option Addr) (c0_3 : Nat) (l0_3 : List (S70)) (a0_4 : ByteArray) (a0_5 : ByteArray) (r : Int) (w : World) (hr0_3 : Kd.C k70 w A0_3 l0_3.length l0_3) (hc0_3 : l0_3.length ≤ c0_3) (h : Zah.f k a0_0 a0_1 a0_2 l0_3 a0_4 a0_5 = some r) :
  Calls Tryz.prog 21 #[.agg #[.int .i64 a0_0, .int .i64 a0_1, .int .i64 a0_2, .slice A0_3 l0_3.length c0_3, .string a0_4, .string a0_5]] w fun e w' => e = .returned (.int .i64 r) ∧ Below w.heap.size w w' := by
 have hu66 := Tryz.underlying66
 have HR0_3 := Aside0.mk hr0_3
 have HC0_3 := Aside0.mk hc0_3
 clear hr0_3 hc0_3
 have HB := Aside0.mk (Below.refl w.heap.size w)
 have H : (if a0_0 < 0 then (Zah.j0 k true a0_0 a0_1 a0_2 l0_3 a0_4 a0_5) else (if a0_0 ≥ 4294967296 then (Zah.j0 k true a0_0 a0_1 a0_2 l0_3 a0_4 a0_5) else (if a0_1 < 0 then (Zah.j0 k true a0_0 a0_1 a0_2 l0_3 a0_4 a0_5) else (Zah.j0 k (decide (a0_1 ≥ 1099511627776)) a0_0 a0_1 a0_2 l0_3 a0_4 a0_5)))) = some r := h
 clear h
 have HC2 := Aside0.mk H
 clear H
 go_enter Tryz.func21, Tryz.ntmps21
 go_upto_region 1 with (first | ((with_reducible refine Zaw (N := 1) rfl ?_); (try (refine Zbw (by rfl) ?_; dsimp only)); refine Zau ?hg (N := 1) ?hd (cs := #[.int .i64 a0_0, .int .i64 a0_1, .int .i64 a0_2, .slice A0_3 l0_3.length c0_3, .string a0_4, .string a0_5]) (t := 66) ?hr ?_; (case hd => rfl); (case hg => rfl); (case hr => first | (go_simp; done) | (go_simp; rfl)); intro gb106 hg w3 hbox hb; have n0_ := Aside0.mk (Zae (by repeat (first | (with_reducible first | exact HB.out | apply Zab | apply Zac | apply Zaf) | exact HB.out)) hb); have n1_ := Aside0.mk (hbox); have n2_ := Aside0.mk ((by rw [hg]; exact (Zai (by repeat (first | (with_reducible first | exact HB.out | apply Zab | apply Zac | apply Zaf) | exact HB.out))) : w.heap.size ≤ gb106)); have n3_ := Aside0.mk ((by rw [hg]; exact (Zai (by repeat (first | (with_reducible first | exact HB.out | apply Zab | apply Zac | apply Zaf) | exact HB.out))) : w.heap.size ≤ gb106)); clear HB; have HB := n0_; have BK106 := n1_; have GW106 := n2_; have GE106 := n3_; clear n0_ n1_ n2_ n3_; clear hb hbox hg))
 repeat (go_quiet (first | ((with_reducible refine Zaw (N := 1) rfl ?_); (try (refine Zbw (by rfl) ?_; dsimp only)); refine Zau ?hg (N := 1) ?hd (cs := #[.int .i64 a0_0, .int .i64 a0_1, .int .i64 a0_2, .slice A0_3 l0_3.length c0_3, .string a0_4, .string a0_5]) (t := 66) ?hr ?_; (case hd => rfl); (case hg => rfl); (case hr => first | (go_simp; done) | (go_simp; rfl)); intro gb106 hg w3 hbox hb; have n0_ := Aside0.mk (Zae (by repeat (first | (with_reducible first | exact HB.out | apply Zab | apply Zac | apply Zaf) | exact HB.out)) hb); have n1_ := Aside0.mk (hbox); have n2_ := Aside0.mk ((by rw [hg]; exact (Zai (by repeat (first | (with_reducible first | exact HB.out | apply Zab | apply Zac | apply Zaf) | exact HB.out))) : w.heap.size ≤ gb106)); have n3_ := Aside0.mk ((by rw [hg]; exact (Zai (by repeat (first | (with_reducible first | exact HB.out | apply Zab | apply Zac | apply Zaf) | exact HB.out))) : w.heap.size ≤ gb106)); clear HB; have HB := n0_; have BK106 := n1_; have GW106 := n2_; have GE106 := n3_; clear n0_ n1_ n2_ n3_; clear hb hbox hg)); go_upto_region 1 with (first | ((with_reducible refine Zaw (N := 1) rfl ?_); (try (refine Zbw (by rfl) ?_; dsimp only)); refine Zau ?hg (N := 1) ?hd (cs := #[.int .i64 a0_0, .int .i64 a0_1, .int .i64 a0_2, .slice A0_3 l0_3.length c0_3, .string a0_4, .string a0_5]) (t := 66) ?hr ?_; (case hd => rfl); (case hg => rfl); (case hr => first | (go_simp; done) | (go_simp; rfl)); intro gb106 hg w3 hbox hb; have n0_ := Aside0.mk (Zae (by repeat (first | (with_reducible first | exact HB.out | apply Zab | apply Zac | apply Zaf) | exact HB.out)) hb); have n1_ := Aside0.mk (hbox); have n2_ := Aside0.mk ((by rw [hg]; exact (Zai (by repeat (first | (with_reducible first | exact HB.out | apply Zab | apply Zac | apply Zaf) | exact HB.out))) : w.heap.size ≤ gb106)); have n3_ := Aside0.mk ((by rw [hg]; exact (Zai (by repeat (first | (with_reducible first | exact HB.out | apply Zab | apply Zac | apply Zaf) | exact HB.out))) : w.heap.size ≤ gb106)); clear HB; have HB := n0_; have BK106 := n1_; have GW106 := n2_; have GE106 := n3_; clear n0_ n1_ n2_ n3_; clear hb hbox hg)))
 (try simp only [Act.put, List.setIfInBounds_toArray, List.set_cons_zero, List.set_cons_succ])
 go_cut [20] (fun v20 wc => ∃ (kq : Nat) (x20_1 : Bool), v20 = .bool x20_1 ∧ Aside0 (Zah.j0 kq x20_1 a0_0 a0_1 a0_2 l0_3 a0_4 a0_5 = some r) ∧ Aside0 (kq ≤ k) ∧ Aside0 (wc.heap[gb106]? = some (.cells #[.int .i64 a0_0, .int .i64 a0_1, .int .i64 a0_2, (.slice A0_3 l0_3.length c0_3), .string a0_4, .string a0_5] 66 (0, 0))) ∧ Aside0 (Below w.heap.size w wc))
 case first =>
  have H := HC2.out
  clear HC2
  by_cases c4 : a0_0 < 0
  ·rw [if_pos c4] at H
   have c4b0 : decide (a0_0 < 0) = true := decide_eq_true c4
   clear c4
   (first | rw [c4b0] | (simp only [i64_w, i32_w]; rw [c4b0]) | skip)
   have H' := Aside0.mk H
   clear H
   have hcz5_0 : w3.cell? ⟨gb106, 0, none⟩ = some (.int .i64 a0_0) := (Zaa BK106.out 0).trans rfl
   have hcz5_1 : w3.cell? ⟨gb106, 1, none⟩ = some (.int .i64 a0_1) := (Zaa BK106.out 1).trans rfl
   have hcz5_2 : w3.cell? ⟨gb106, 2, none⟩ = some (.int .i64 a0_2) := (Zaa BK106.out 2).trans rfl
   have hcz5_3 : w3.cell? ⟨gb106, 3, none⟩ = some (.slice A0_3 l0_3.length c0_3) := (Zaa BK106.out 3).trans rfl
   have hcz5_4 : w3.cell? ⟨gb106, 4, none⟩ = some (.string a0_4) := (Zaa BK106.out 4).trans rfl
   have hcz5_5 : w3.cell? ⟨gb106, 5, none⟩ = some (.string a0_5) := (Zaa BK106.out 5).trans rfl
   have hfz5_0 := Zad BK106.out 0
   have hfz5_1 := Zad BK106.out 1
   have hfz5_2 := Zad BK106.out 2
   have hfz5_3 := Zad BK106.out 3
   have hfz5_4 := Zad BK106.out 4
   have hfz5_5 := Zad BK106.out 5
   go_wp2
   repeat (go_quiet (fail); try go_wp2)
   go_meet
   case rel => exact ⟨_, (true), (by first | rfl | (simp; done) | (simp [*]; done)), H', ⟨by first | omega | exact Nat.le_refl _⟩, ⟨by (with_reducible repeat (first | refine Zao ?_ _ | refine Zaq ?_ | refine Zan ?_ _)); exact BK106.out⟩, ⟨by repeat (first | (with_reducible first | exact HB.out | apply Zab | apply Zac | apply Zaf | refine Zaj ?_ GE106.out) | exact HB.out)⟩⟩
  ·rw [if_neg c4] at H
   have c4b0 : decide (a0_0 < 0) = false := decide_eq_false c4
   clear c4
   (first | rw [c4b0] | (simp only [i64_w, i32_w]; rw [c4b0]) | skip)
   by_cases c6 : a0_0 ≥ 4294967296
   ·rw [if_pos c6] at H
    have c6b0 : decide (4294967296 ≤ a0_0) = true := decide_eq_true c6
    clear c6
    have H' := Aside0.mk H
    clear H
    have hcz7_0 : w3.cell? ⟨gb106, 0, none⟩ = some (.int .i64 a0_0) := (Zaa BK106.out 0).trans rfl
    have hcz7_1 : w3.cell? ⟨gb106, 1, none⟩ = some (.int .i64 a0_1) := (Zaa BK106.out 1).trans rfl
    have hcz7_2 : w3.cell? ⟨gb106, 2, none⟩ = some (.int .i64 a0_2) := (Zaa BK106.out 2).trans rfl
    have hcz7_3 : w3.cell? ⟨gb106, 3, none⟩ = some (.slice A0_3 l0_3.length c0_3) := (Zaa BK106.out 3).trans rfl
    have hcz7_4 : w3.cell? ⟨gb106, 4, none⟩ = some (.string a0_4) := (Zaa BK106.out 4).trans rfl
    have hcz7_5 : w3.cell? ⟨gb106, 5, none⟩ = some (.string a0_5) := (Zaa BK106.out 5).trans rfl
    have hfz7_0 := Zad BK106.out 0
    have hfz7_1 := Zad BK106.out 1
    have hfz7_2 := Zad BK106.out 2
    have hfz7_3 := Zad BK106.out 3
    have hfz7_4 := Zad BK106.out 4
    have hfz7_5 := Zad BK106.out 5
    go_wp2
    repeat (go_quiet (fail); try go_wp2)
    go_meet
    case rel => exact ⟨_, (true), (by first | rfl | (simp; done) | (simp [*]; done)), H', ⟨by first | omega | exact Nat.le_refl _⟩, ⟨by (with_reducible repeat (first | refine Zao ?_ _ | refine Zaq ?_ | refine Zan ?_ _)); exact BK106.out⟩, ⟨by repeat (first | (with_reducible first | exact HB.out | apply Zab | apply Zac | apply Zaf | refine Zaj ?_ GE106.out) | exact HB.out)⟩⟩
   ·rw [if_neg c6] at H
    have c6b0 : decide (4294967296 ≤ a0_0) = false := decide_eq_false c6
    clear c6
    by_cases c8 : a0_1 < 0
    ·rw [if_pos c8] at H
     have c8b0 : decide (a0_1 < 0) = true := decide_eq_true c8
     clear c8
     have H' := Aside0.mk H
     clear H
     have hcz9_0 : w3.cell? ⟨gb106, 0, none⟩ = some (.int .i64 a0_0) := (Zaa BK106.out 0).trans rfl
     have hcz9_1 : w3.cell? ⟨gb106, 1, none⟩ = some (.int .i64 a0_1) := (Zaa BK106.out 1).trans rfl
     have hcz9_2 : w3.cell? ⟨gb106, 2, none⟩ = some (.int .i64 a0_2) := (Zaa BK106.out 2).trans rfl
     have hcz9_3 : w3.cell? ⟨gb106, 3, none⟩ = some (.slice A0_3 l0_3.length c0_3) := (Zaa BK106.out 3).trans rfl
     have hcz9_4 : w3.cell? ⟨gb106, 4, none⟩ = some (.string a0_4) := (Zaa BK106.out 4).trans rfl
     have hcz9_5 : w3.cell? ⟨gb106, 5, none⟩ = some (.string a0_5) := (Zaa BK106.out 5).trans rfl
     have hfz9_0 := Zad BK106.out 0
     have hfz9_1 := Zad BK106.out 1
     have hfz9_2 := Zad BK106.out 2
     have hfz9_3 := Zad BK106.out 3
     have hfz9_4 := Zad BK106.out 4
     have hfz9_5 := Zad BK106.out 5
     go_wp2
     repeat (go_quiet (fail); try go_wp2)
     go_meet
     case rel => exact ⟨_, (true), (by first | rfl | (simp; done) | (simp [*]; done)), H', ⟨by first | omega | exact Nat.le_refl _⟩, ⟨by (with_reducible repeat (first | refine Zao ?_ _ | refine Zaq ?_ | refine Zan ?_ _)); exact BK106.out⟩, ⟨by repeat (first | (with_reducible first | exact HB.out | apply Zab | apply Zac | apply Zaf | refine Zaj ?_ GE106.out) | exact HB.out)⟩⟩
    ·rw [if_neg c8] at H
     have c8b0 : decide (a0_1 < 0) = false := decide_eq_false c8
     clear c8
     have H' := Aside0.mk H
     clear H
     have hcz10_0 : w3.cell? ⟨gb106, 0, none⟩ = some (.int .i64 a0_0) := (Zaa BK106.out 0).trans rfl
     have hcz10_1 : w3.cell? ⟨gb106, 1, none⟩ = some (.int .i64 a0_1) := (Zaa BK106.out 1).trans rfl
     have hcz10_2 : w3.cell? ⟨gb106, 2, none⟩ = some (.int .i64 a0_2) := (Zaa BK106.out 2).trans rfl
     have hcz10_3 : w3.cell? ⟨gb106, 3, none⟩ = some (.slice A0_3 l0_3.length c0_3) := (Zaa BK106.out 3).trans rfl
     have hcz10_4 : w3.cell? ⟨gb106, 4, none⟩ = some (.string a0_4) := (Zaa BK106.out 4).trans rfl
     have hcz10_5 : w3.cell? ⟨gb106, 5, none⟩ = some (.string a0_5) := (Zaa BK106.out 5).trans rfl
     have hfz10_0 := Zad BK106.out 0
     have hfz10_1 := Zad BK106.out 1
     have hfz10_2 := Zad BK106.out 2
     have hfz10_3 := Zad BK106.out 3
     have hfz10_4 := Zad BK106.out 4
     have hfz10_5 := Zad BK106.out 5
     go_wp2
     repeat (go_quiet (fail); try go_wp2)
     go_meet
     case rel => exact ⟨_, (decide (a0_1 ≥ 1099511627776)), (by first | rfl | (simp; done) | (simp [*]; done)), H', ⟨by first | omega | exact Nat.le_refl _⟩, ⟨by (with_reducible repeat (first | refine Zao ?_ _ | refine Zaq ?_ | refine Zan ?_ _)); exact BK106.out⟩, ⟨by repeat (first | (with_reducible first | exact HB.out | apply Zab | apply Zac | apply Zaf | refine Zaj ?_ GE106.out) | exact HB.out)⟩⟩
 case rest =>
  clear HC2
  try clear c2
  try clear p2
  try clear c4
  try clear c4b0
  try clear c6
  try clear c6b0
  try clear c8
  try clear c8b0
  try clear hcz10_0
  try clear hcz10_1
  try clear hcz10_2
  try clear hcz10_3
  try clear hcz10_4
  try clear hcz10_5
  try clear hcz5_0
  try clear hcz5_1
  try clear hcz5_2
  try clear hcz5_3
  try clear hcz5_4
  try clear hcz5_5
  try clear hcz7_0
  try clear hcz7_1
  try clear hcz7_2
  try clear hcz7_3
  try clear hcz7_4
  try clear hcz7_5
  try clear hcz9_0
  try clear hcz9_1
  try clear hcz9_2
  try clear hcz9_3
  try clear hcz9_4
  try clear hcz9_5
  try clear hfz10_0
  try clear hfz10_1
  try clear hfz10_2
  try clear hfz10_3
  try clear hfz10_4
  try clear hfz10_5
  try clear hfz5_0
  try clear hfz5_1
  try clear hfz5_2
  try clear hfz5_3
  try clear hfz5_4
  try clear hfz5_5
  try clear hfz7_0
  try clear hfz7_1
  try clear hfz7_2
  try clear hfz7_3
  try clear hfz7_4
  try clear hfz7_5
  try clear hfz9_0
  try clear hfz9_1
  try clear hfz9_2
  try clear hfz9_3
  try clear hfz9_4
  try clear hfz9_5
  obtain ⟨kq, x20_1, rfl, HA, HJ1, BK106, HB⟩ := hcut
  cases kq with
  | zero => exact absurd HA.out (by simp [Zah.j0])
  | succ kj1 =>
   have H := HA.out
   clear HA
   simp only [Zah.j0] at H
   by_cases c11 : x20_1 = true
   ·subst c11
    have H1 : (some 31) = some r := by rw [if_pos rfl] at H; exact H
    clear H
    have H := H1
    clear H1
    obtain rfl := Option.some.inj H
    go_wp2
    repeat (go_quiet (fail); try go_wp2)
    go_ret
    exact ⟨by first | rfl | (simp [Zal, Zak] <;> rfl) | (simp [*, Zal, Zak] <;> rfl), by repeat (first | (with_reducible first | exact HB.out | apply Zab | apply Zac | apply Zaf | refine Zaj ?_ GE106.out) | exact HB.out)⟩
   ·replace c11 := Bool.eq_false_iff.mpr c11
    subst c11
    have H1 : (if a0_2 < 1 then (Zah.j1 kj1 true a0_0 a0_1 a0_2 l0_3 a0_4 a0_5) else (Zah.j1 kj1 (decide (a0_2 > 3)) a0_0 a0_1 a0_2 l0_3 a0_4 a0_5)) = some r := by rw [if_neg (show ¬ (false = true) by decide)] at H; exact H
    clear H
    have H := H1
    clear H1
    have HC12 := Aside0.mk H
    clear H
    go_upto_region 3 with (fail)
    repeat (go_quiet (fail); go_upto_region 3 with (fail))
    go_cut [28] (fun v28 wc => ∃ (kq : Nat) (x28_11 : Bool), v28 = .bool x28_11 ∧ Aside0 (Zah.j1 kq x28_11 a0_0 a0_1 a0_2 l0_3 a0_4 a0_5 = some r) ∧ Aside0 (kq ≤ kj1) ∧ Aside0 (wc.heap[gb106]? = some (.cells #[.int .i64 a0_0, .int .i64 a0_1, .int .i64 a0_2, (.slice A0_3 l0_3.length c0_3), .string a0_4, .string a0_5] 66 (0, 0))) ∧ Aside0 (Below w.heap.size w wc))
    case first =>
     have H := HC12.out
     clear HC12
     by_cases c13 : a0_2 < 1
     ·rw [if_pos c13] at H
      have c13b0 : decide (a0_2 < 1) = true := decide_eq_true c13
      clear c13
      (first | rw [c13b0] | (simp only [i64_w, i32_w]; rw [c13b0]) | skip)
      have H' := Aside0.mk H
      clear H
      have hcz14_0 : wc.cell? ⟨gb106, 0, none⟩ = some (.int .i64 a0_0) := (Zaa BK106.out 0).trans rfl
      have hcz14_1 : wc.cell? ⟨gb106, 1, none⟩ = some (.int .i64 a0_1) := (Zaa BK106.out 1).trans rfl
      have hcz14_2 : wc.cell? ⟨gb106, 2, none⟩ = some (.int .i64 a0_2) := (Zaa BK106.out 2).trans rfl
      have hcz14_3 : wc.cell? ⟨gb106, 3, none⟩ = some (.slice A0_3 l0_3.length c0_3) := (Zaa BK106.out 3).trans rfl
      have hcz14_4 : wc.cell? ⟨gb106, 4, none⟩ = some (.string a0_4) := (Zaa BK106.out 4).trans rfl
      have hcz14_5 : wc.cell? ⟨gb106, 5, none⟩ = some (.string a0_5) := (Zaa BK106.out 5).trans rfl
      have hfz14_0 := Zad BK106.out 0
      have hfz14_1 := Zad BK106.out 1
      have hfz14_2 := Zad BK106.out 2
      have hfz14_3 := Zad BK106.out 3
      have hfz14_4 := Zad BK106.out 4
      have hfz14_5 := Zad BK106.out 5
      go_wp2
      repeat (go_quiet (fail); try go_wp2)
      go_meet
      case rel => exact ⟨_, (true), (by first | rfl | (simp; done) | (simp [*]; done)), H', ⟨by have := HJ1.out; first | omega | exact Nat.le_refl _⟩, ⟨by (with_reducible repeat (first | refine Zao ?_ _ | refine Zaq ?_ | refine Zan ?_ _)); exact BK106.out⟩, ⟨by repeat (first | (with_reducible first | exact HB.out | apply Zab | apply Zac | apply Zaf | refine Zaj ?_ GE106.out) | exact HB.out)⟩⟩
     ·rw [if_neg c13] at H
      have c13b0 : decide (a0_2 < 1) = false := decide_eq_false c13
      clear c13
      (first | rw [c13b0] | (simp only [i64_w, i32_w]; rw [c13b0]) | skip)
      have H' := Aside0.mk H
      clear H
      have hcz15_0 : wc.cell? ⟨gb106, 0, none⟩ = some (.int .i64 a0_0) := (Zaa BK106.out 0).trans rfl
      have hcz15_1 : wc.cell? ⟨gb106, 1, none⟩ = some (.int .i64 a0_1) := (Zaa BK106.out 1).trans rfl
      have hcz15_2 : wc.cell? ⟨gb106, 2, none⟩ = some (.int .i64 a0_2) := (Zaa BK106.out 2).trans rfl
      have hcz15_3 : wc.cell? ⟨gb106, 3, none⟩ = some (.slice A0_3 l0_3.length c0_3) := (Zaa BK106.out 3).trans rfl
      have hcz15_4 : wc.cell? ⟨gb106, 4, none⟩ = some (.string a0_4) := (Zaa BK106.out 4).trans rfl
      have hcz15_5 : wc.cell? ⟨gb106, 5, none⟩ = some (.string a0_5) := (Zaa BK106.out 5).trans rfl
      have hfz15_0 := Zad BK106.out 0
      have hfz15_1 := Zad BK106.out 1
      have hfz15_2 := Zad BK106.out 2
      have hfz15_3 := Zad BK106.out 3
      have hfz15_4 := Zad BK106.out 4
      have hfz15_5 := Zad BK106.out 5
      go_wp2
      repeat (go_quiet (fail); try go_wp2)
      go_meet
      case rel => exact ⟨_, (decide (a0_2 > 3)), (by first | rfl | (simp; done) | (simp [*]; done)), H', ⟨by have := HJ1.out; first | omega | exact Nat.le_refl _⟩, ⟨by (with_reducible repeat (first | refine Zao ?_ _ | refine Zaq ?_ | refine Zan ?_ _)); exact BK106.out⟩, ⟨by repeat (first | (with_reducible first | exact HB.out | apply Zab | apply Zac | apply Zaf | refine Zaj ?_ GE106.out) | exact HB.out)⟩⟩
    case rest =>
     clear HC12
     try clear c1
     try clear c2
     try clear p2
     try clear c4
     try clear c4b0
     try clear c6
     try clear c6b0
     try clear c8
     try clear c8b0
     try clear c11
     try clear c13
     try clear c13b0
     try clear hcz10_0
     try clear hcz10_1
     try clear hcz10_2
     try clear hcz10_3
     try clear hcz10_4
     try clear hcz10_5
     try clear hcz14_0
     try clear hcz14_1
     try clear hcz14_2
     try clear hcz14_3
     try clear hcz14_4
     try clear hcz14_5
     try clear hcz15_0
     try clear hcz15_1
     try clear hcz15_2
     try clear hcz15_3
     try clear hcz15_4
     try clear hcz15_5
     try clear hcz5_0
     try clear hcz5_1
     try clear hcz5_2
     try clear hcz5_3
     try clear hcz5_4
     try clear hcz5_5
     try clear hcz7_0
     try clear hcz7_1
     try clear hcz7_2
     try clear hcz7_3
     try clear hcz7_4
     try clear hcz7_5
     try clear hcz9_0
     try clear hcz9_1
     try clear hcz9_2
     try clear hcz9_3
     try clear hcz9_4
     try clear hcz9_5
     try clear hfz10_0
     try clear hfz10_1
     try clear hfz10_2
     try clear hfz10_3
     try clear hfz10_4
     try clear hfz10_5
     try clear hfz14_0
     try clear hfz14_1
     try clear hfz14_2
     try clear hfz14_3
     try clear hfz14_4
     try clear hfz14_5
     try clear hfz15_0
     try clear hfz15_1
     try clear hfz15_2
     try clear hfz15_3
     try clear hfz15_4
     try clear hfz15_5
     try clear hfz5_0
     try clear hfz5_1
     try clear hfz5_2
     try clear hfz5_3
     try clear hfz5_4
     try clear hfz5_5
     try clear hfz7_0
     try clear hfz7_1
     try clear hfz7_2
     try clear hfz7_3
     try clear hfz7_4
     try clear hfz7_5
     try clear hfz9_0
     try clear hfz9_1
     try clear hfz9_2
     try clear hfz9_3
     try clear hfz9_4
     try clear hfz9_5
     try clear p2
     obtain ⟨kq, x28_11, rfl, HA, HJ11, BK106, HB⟩ := hcut
     cases kq with
     | zero => exact absurd HA.out (by simp [Zah.j1])
     | succ kj11 =>
      have H := HA.out
      clear HA
      simp only [Zah.j1] at H
      by_cases c16 : x28_11 = true
      ·subst c16
       have H1 : (some 14) = some r := by rw [if_pos rfl] at H; exact H
       clear H
       have H := H1
       clear H1
       obtain rfl := Option.some.inj H
       go_wp2
       repeat (go_quiet (fail); try go_wp2)
       go_ret
       exact ⟨by first | rfl | (simp [Zal, Zak] <;> rfl) | (simp [*, Zal, Zak] <;> rfl), by repeat (first | (with_reducible first | exact HB.out | apply Zab | apply Zac | apply Zaf | refine Zaj ?_ GE106.out) | exact HB.out)⟩
      ·replace c16 := Bool.eq_false_iff.mpr c16
       subst c16
       have H1 : (if a0_2 = 3 then (if (l0_3.length : Int) > 0 then (some 1) else (if a0_4.toList = ([] : List UInt8) then (if (a0_5.size : Int) > 512 then (some 1) else (some 0)) else (some 1))) else (if (l0_3.length : Int) < 1 then (Zah.j2 kj11 true a0_0 a0_1 a0_2 l0_3 a0_4 a0_5) else (if (l0_3.length : Int) > 64 then (Zah.j2 kj11 true a0_0 a0_1 a0_2 l0_3 a0_4 a0_5) else (if a0_5.toList = ([] : List UInt8) then (if a0_2 = 2 then (if a0_4.toList = ([] : List UInt8) then ((Zat.f kj11 l0_3).bind fun t107 => (if t107 = true then (if a0_2 = 1 then ((Zar.f kj11 l0_3).bind fun t108 => (Zah.j2 kj11 (decide (t108 > 512)) a0_0 a0_1 a0_2 l0_3 a0_4 a0_5)) else (Zah.j2 kj11 false a0_0 a0_1 a0_2 l0_3 a0_4 a0_5)) else (Zah.j2 kj11 true a0_0 a0_1 a0_2 l0_3 a0_4 a0_5))) else (Zah.j2 kj11 true a0_0 a0_1 a0_2 l0_3 a0_4 a0_5)) else ((Zat.f kj11 l0_3).bind fun t109 => (if t109 = true then (if a0_2 = 1 then ((Zar.f kj11 l0_3).bind fun t110 => (Zah.j2 kj11 (decide (t110 > 512)) a0_0 a0_1 a0_2 l0_3 a0_4 a0_5)) else (Zah.j2 kj11 false a0_0 a0_1 a0_2 l0_3 a0_4 a0_5)) else (Zah.j2 kj11 true a0_0 a0_1 a0_2 l0_3 a0_4 a0_5)))) else (Zah.j2 kj11 true a0_0 a0_1 a0_2 l0_3 a0_4 a0_5))))) = some r := by rw [if_neg (show ¬ (false = true) by decide)] at H; exact H
       clear H
       have H := H1
       clear H1
       by_cases c17 : a0_2 = 3
       ·rw [if_pos c17] at H
        have c17b0 : (a0_2 == 3) = true := beq_iff_eq.mpr c17
        have c17b1 : (a0_2 != 3) = false := bne_eq_false_iff_eq.mpr c17
        clear c17
        by_cases c18 : (l0_3.length : Int) > 0
        ·rw [if_pos c18] at H
         have c18b0 : decide (0 < (l0_3.length : Int)) = true := decide_eq_true c18
         have c18b1 : decide (0 < l0_3.length) = true := decide_eq_true (by omega)
         clear c18
         obtain rfl := Option.some.inj H
         have hcz19_0 : wc.cell? ⟨gb106, 0, none⟩ = some (.int .i64 a0_0) := (Zaa BK106.out 0).trans rfl
         have hcz19_1 : wc.cell? ⟨gb106, 1, none⟩ = some (.int .i64 a0_1) := (Zaa BK106.out 1).trans rfl
         have hcz19_2 : wc.cell? ⟨gb106, 2, none⟩ = some (.int .i64 a0_2) := (Zaa BK106.out 2).trans rfl
         have hcz19_3 : wc.cell? ⟨gb106, 3, none⟩ = some (.slice A0_3 l0_3.length c0_3) := (Zaa BK106.out 3).trans rfl
         have hcz19_4 : wc.cell? ⟨gb106, 4, none⟩ = some (.string a0_4) := (Zaa BK106.out 4).trans rfl
         have hcz19_5 : wc.cell? ⟨gb106, 5, none⟩ = some (.string a0_5) := (Zaa BK106.out 5).trans rfl
         have hfz19_0 := Zad BK106.out 0
         have hfz19_1 := Zad BK106.out 1
         have hfz19_2 := Zad BK106.out 2
         have hfz19_3 := Zad BK106.out 3
         have hfz19_4 := Zad BK106.out 4
         have hfz19_5 := Zad BK106.out 5
         go_wp2
         repeat (go_quiet (fail); try go_wp2)
         go_ret
         exact ⟨by first | rfl | (simp [Zal, Zak] <;> rfl) | (simp [*, Zal, Zak] <;> rfl), by repeat (first | (with_reducible first | exact HB.out | apply Zab | apply Zac | apply Zaf | refine Zaj ?_ GE106.out) | exact HB.out)⟩
        ·rw [if_neg c18] at H
         have c18b0 : decide (0 < (l0_3.length : Int)) = false := decide_eq_false c18
         have c18b1 : decide (0 < l0_3.length) = false := decide_eq_false (by omega)
         clear c18
         by_cases c20 : a0_4.toList = ([] : List UInt8)
         ·rw [if_pos c20] at H
          have c20b0 : (a0_4.toList == ([] : List UInt8)) = true := beq_iff_eq.mpr c20
          have c20b1 : (a0_4.toList != ([] : List UInt8)) = false := bne_eq_false_iff_eq.mpr c20
          clear c20
          by_cases c21 : (a0_5.size : Int) > 512
          ·rw [if_pos c21] at H
           have c21b0 : decide (512 < (a0_5.size : Int)) = true := decide_eq_true c21
           have c21b1 : decide (512 < a0_5.size) = true := decide_eq_true (by omega)
           clear c21
           obtain rfl := Option.some.inj H
           have hcz22_0 : wc.cell? ⟨gb106, 0, none⟩ = some (.int .i64 a0_0) := (Zaa BK106.out 0).trans rfl
           have hcz22_1 : wc.cell? ⟨gb106, 1, none⟩ = some (.int .i64 a0_1) := (Zaa BK106.out 1).trans rfl
           have hcz22_2 : wc.cell? ⟨gb106, 2, none⟩ = some (.int .i64 a0_2) := (Zaa BK106.out 2).trans rfl
           have hcz22_3 : wc.cell? ⟨gb106, 3, none⟩ = some (.slice A0_3 l0_3.length c0_3) := (Zaa BK106.out 3).trans rfl
           have hcz22_4 : wc.cell? ⟨gb106, 4, none⟩ = some (.string a0_4) := (Zaa BK106.out 4).trans rfl
           have hcz22_5 : wc.cell? ⟨gb106, 5, none⟩ = some (.string a0_5) := (Zaa BK106.out 5).trans rfl
           have hfz22_0 := Zad BK106.out 0
           have hfz22_1 := Zad BK106.out 1
           have hfz22_2 := Zad BK106.out 2
           have hfz22_3 := Zad BK106.out 3
           have hfz22_4 := Zad BK106.out 4
           have hfz22_5 := Zad BK106.out 5
           go_wp2
           repeat (go_quiet (fail); try go_wp2)
           go_ret
           exact ⟨by first | rfl | (simp [Zal, Zak] <;> rfl) | (simp [*, Zal, Zak] <;> rfl), by repeat (first | (with_reducible first | exact HB.out | apply Zab | apply Zac | apply Zaf | refine Zaj ?_ GE106.out) | exact HB.out)⟩
          ·rw [if_neg c21] at H
           have c21b0 : decide (512 < (a0_5.size : Int)) = false := decide_eq_false c21
           have c21b1 : decide (512 < a0_5.size) = false := decide_eq_false (by omega)
           clear c21
           obtain rfl := Option.some.inj H
           have hcz23_0 : wc.cell? ⟨gb106, 0, none⟩ = some (.int .i64 a0_0) := (Zaa BK106.out 0).trans rfl
           have hcz23_1 : wc.cell? ⟨gb106, 1, none⟩ = some (.int .i64 a0_1) := (Zaa BK106.out 1).trans rfl
           have hcz23_2 : wc.cell? ⟨gb106, 2, none⟩ = some (.int .i64 a0_2) := (Zaa BK106.out 2).trans rfl
           have hcz23_3 : wc.cell? ⟨gb106, 3, none⟩ = some (.slice A0_3 l0_3.length c0_3) := (Zaa BK106.out 3).trans rfl
           have hcz23_4 : wc.cell? ⟨gb106, 4, none⟩ = some (.string a0_4) := (Zaa BK106.out 4).trans rfl
           have hcz23_5 : wc.cell? ⟨gb106, 5, none⟩ = some (.string a0_5) := (Zaa BK106.out 5).trans rfl
           have hfz23_0 := Zad BK106.out 0
           have hfz23_1 := Zad BK106.out 1
           have hfz23_2 := Zad BK106.out 2
           have hfz23_3 := Zad BK106.out 3
           have hfz23_4 := Zad BK106.out 4
           have hfz23_5 := Zad BK106.out 5
           go_wp2
           repeat (go_quiet (fail); try go_wp2)
           go_ret
           exact ⟨by first | rfl | (simp [Zal, Zak] <;> rfl) | (simp [*, Zal, Zak] <;> rfl), by repeat (first | (with_reducible first | exact HB.out | apply Zab | apply Zac | apply Zaf | refine Zaj ?_ GE106.out) | exact HB.out)⟩
         ·rw [if_neg c20] at H
          have c20b0 : (a0_4.toList == ([] : List UInt8)) = false := beq_eq_false_iff_ne.mpr c20
          have c20b1 : (a0_4.toList != ([] : List UInt8)) = true := bne_iff_ne.mpr c20
          obtain rfl := Option.some.inj H
          have hcz24_0 : wc.cell? ⟨gb106, 0, none⟩ = some (.int .i64 a0_0) := (Zaa BK106.out 0).trans rfl
          have hcz24_1 : wc.cell? ⟨gb106, 1, none⟩ = some (.int .i64 a0_1) := (Zaa BK106.out 1).trans rfl
          have hcz24_2 : wc.cell? ⟨gb106, 2, none⟩ = some (.int .i64 a0_2) := (Zaa BK106.out 2).trans rfl
          have hcz24_3 : wc.cell? ⟨gb106, 3, none⟩ = some (.slice A0_3 l0_3.length c0_3) := (Zaa BK106.out 3).trans rfl
          have hcz24_4 : wc.cell? ⟨gb106, 4, none⟩ = some (.string a0_4) := (Zaa BK106.out 4).trans rfl
          have hcz24_5 : wc.cell? ⟨gb106, 5, none⟩ = some (.string a0_5) := (Zaa BK106.out 5).trans rfl
          have hfz24_0 := Zad BK106.out 0
          have hfz24_1 := Zad BK106.out 1
          have hfz24_2 := Zad BK106.out 2
          have hfz24_3 := Zad BK106.out 3
          have hfz24_4 := Zad BK106.out 4
          have hfz24_5 := Zad BK106.out 5
          go_wp2
          repeat (go_quiet (fail); try go_wp2)
          go_ret
          exact ⟨by first | rfl | (simp [Zal, Zak] <;> rfl) | (simp [*, Zal, Zak] <;> rfl), by repeat (first | (with_reducible first | exact HB.out | apply Zab | apply Zac | apply Zaf | refine Zaj ?_ GE106.out) | exact HB.out)⟩
       ·rw [if_neg c17] at H
        have c17b0 : (a0_2 == 3) = false := beq_eq_false_iff_ne.mpr c17
        have c17b1 : (a0_2 != 3) = true := bne_iff_ne.mpr c17
        have HC25 := Aside0.mk H
        clear H
        have hcz26_0 : wc.cell? ⟨gb106, 0, none⟩ = some (.int .i64 a0_0) := (Zaa BK106.out 0).trans rfl
        have hcz26_1 : wc.cell? ⟨gb106, 1, none⟩ = some (.int .i64 a0_1) := (Zaa BK106.out 1).trans rfl
        have hcz26_2 : wc.cell? ⟨gb106, 2, none⟩ = some (.int .i64 a0_2) := (Zaa BK106.out 2).trans rfl
        have hcz26_3 : wc.cell? ⟨gb106, 3, none⟩ = some (.slice A0_3 l0_3.length c0_3) := (Zaa BK106.out 3).trans rfl
        have hcz26_4 : wc.cell? ⟨gb106, 4, none⟩ = some (.string a0_4) := (Zaa BK106.out 4).trans rfl
        have hcz26_5 : wc.cell? ⟨gb106, 5, none⟩ = some (.string a0_5) := (Zaa BK106.out 5).trans rfl
        have hfz26_0 := Zad BK106.out 0
        have hfz26_1 := Zad BK106.out 1
        have hfz26_2 := Zad BK106.out 2
        have hfz26_3 := Zad BK106.out 3
        have hfz26_4 := Zad BK106.out 4
        have hfz26_5 := Zad BK106.out 5
        go_upto_region 9 with (fail)
        repeat (go_quiet (fail); go_upto_region 9 with (fail))
        go_cut [88] (fun v88 wc => ∃ (kq : Nat) (x88_24 : Bool), v88 = .bool x88_24 ∧ Aside0 (Zah.j2 kq x88_24 a0_0 a0_1 a0_2 l0_3 a0_4 a0_5 = some r) ∧ Aside0 (kq ≤ kj11) ∧ Aside0 (wc.heap[gb106]? = some (.cells #[.int .i64 a0_0, .int .i64 a0_1, .int .i64 a0_2, (.slice A0_3 l0_3.length c0_3), .string a0_4, .string a0_5] 66 (0, 0))) ∧ Aside0 (Below w.heap.size w wc))
        case first =>
         have H := HC25.out
         clear HC25
         by_cases c27 : (l0_3.length : Int) < 1
         ·rw [if_pos c27] at H
          have c27b0 : decide ((l0_3.length : Int) < 1) = true := decide_eq_true c27
          have c27b1 : decide (l0_3.length < 1) = true := decide_eq_true (by omega)
          clear c27
          (first | rw [c27b0] | (simp only [i64_w, i32_w]; rw [c27b0]) | skip)
          have H' := Aside0.mk H
          clear H
          have hcz28_0 : wc.cell? ⟨gb106, 0, none⟩ = some (.int .i64 a0_0) := (Zaa BK106.out 0).trans rfl
          have hcz28_1 : wc.cell? ⟨gb106, 1, none⟩ = some (.int .i64 a0_1) := (Zaa BK106.out 1).trans rfl
          have hcz28_2 : wc.cell? ⟨gb106, 2, none⟩ = some (.int .i64 a0_2) := (Zaa BK106.out 2).trans rfl
          have hcz28_3 : wc.cell? ⟨gb106, 3, none⟩ = some (.slice A0_3 l0_3.length c0_3) := (Zaa BK106.out 3).trans rfl
          have hcz28_4 : wc.cell? ⟨gb106, 4, none⟩ = some (.string a0_4) := (Zaa BK106.out 4).trans rfl
          have hcz28_5 : wc.cell? ⟨gb106, 5, none⟩ = some (.string a0_5) := (Zaa BK106.out 5).trans rfl
          have hfz28_0 := Zad BK106.out 0
          have hfz28_1 := Zad BK106.out 1
          have hfz28_2 := Zad BK106.out 2
          have hfz28_3 := Zad BK106.out 3
          have hfz28_4 := Zad BK106.out 4
          have hfz28_5 := Zad BK106.out 5
          go_wp2
          repeat (go_quiet (fail); try go_wp2)
          go_meet
          case rel => exact ⟨_, (true), (by first | rfl | (simp; done) | (simp [*]; done)), H', ⟨by have := HJ1.out; have := HJ11.out; first | omega | exact Nat.le_refl _⟩, ⟨by (with_reducible repeat (first | refine Zao ?_ _ | refine Zaq ?_ | refine Zan ?_ _)); exact BK106.out⟩, ⟨by repeat (first | (with_reducible first | exact HB.out | apply Zab | apply Zac | apply Zaf | refine Zaj ?_ GE106.out) | exact HB.out)⟩⟩
         ·rw [if_neg c27] at H
          have c27b0 : decide ((l0_3.length : Int) < 1) = false := decide_eq_false c27
          have c27b1 : decide (l0_3.length < 1) = false := decide_eq_false (by omega)
          clear c27
          (first | rw [c27b0] | (simp only [i64_w, i32_w]; rw [c27b0]) | skip)
          by_cases c29 : (l0_3.length : Int) > 64
          ·rw [if_pos c29] at H
           have c29b0 : decide (64 < (l0_3.length : Int)) = true := decide_eq_true c29
           have c29b1 : decide (64 < l0_3.length) = true := decide_eq_true (by omega)
           clear c29
           have H' := Aside0.mk H
           clear H
           have hcz30_0 : wc.cell? ⟨gb106, 0, none⟩ = some (.int .i64 a0_0) := (Zaa BK106.out 0).trans rfl
           have hcz30_1 : wc.cell? ⟨gb106, 1, none⟩ = some (.int .i64 a0_1) := (Zaa BK106.out 1).trans rfl
           have hcz30_2 : wc.cell? ⟨gb106, 2, none⟩ = some (.int .i64 a0_2) := (Zaa BK106.out 2).trans rfl
           have hcz30_3 : wc.cell? ⟨gb106, 3, none⟩ = some (.slice A0_3 l0_3.length c0_3) := (Zaa BK106.out 3).trans rfl
           have hcz30_4 : wc.cell? ⟨gb106, 4, none⟩ = some (.string a0_4) := (Zaa BK106.out 4).trans rfl
           have hcz30_5 : wc.cell? ⟨gb106, 5, none⟩ = some (.string a0_5) := (Zaa BK106.out 5).trans rfl
           have hfz30_0 := Zad BK106.out 0
           have hfz30_1 := Zad BK106.out 1
           have hfz30_2 := Zad BK106.out 2
           have hfz30_3 := Zad BK106.out 3
           have hfz30_4 := Zad BK106.out 4
           have hfz30_5 := Zad BK106.out 5
           go_wp2
           repeat (go_quiet (fail); try go_wp2)
           go_meet
           case rel => exact ⟨_, (true), (by first | rfl | (simp; done) | (simp [*]; done)), H', ⟨by have := HJ1.out; have := HJ11.out; first | omega | exact Nat.le_refl _⟩, ⟨by (with_reducible repeat (first | refine Zao ?_ _ | refine Zaq ?_ | refine Zan ?_ _)); exact BK106.out⟩, ⟨by repeat (first | (with_reducible first | exact HB.out | apply Zab | apply Zac | apply Zaf | refine Zaj ?_ GE106.out) | exact HB.out)⟩⟩
          ·rw [if_neg c29] at H
           have c29b0 : decide (64 < (l0_3.length : Int)) = false := decide_eq_false c29
           have c29b1 : decide (64 < l0_3.length) = false := decide_eq_false (by omega)
           clear c29
           by_cases c31 : a0_5.toList = ([] : List UInt8)
           ·rw [if_pos c31] at H
            have c31b0 : (a0_5.toList == ([] : List UInt8)) = true := beq_iff_eq.mpr c31
            have c31b1 : (a0_5.toList != ([] : List UInt8)) = false := bne_eq_false_iff_eq.mpr c31
            clear c31
            by_cases c32 : a0_2 = 2
            ·rw [if_pos c32] at H
             have c32b0 : (a0_2 == 2) = true := beq_iff_eq.mpr c32
             have c32b1 : (a0_2 != 2) = false := bne_eq_false_iff_eq.mpr c32
             clear c32
             by_cases c33 : a0_4.toList = ([] : List UInt8)
             ·rw [if_pos c33] at H
              have c33b0 : (a0_4.toList == ([] : List UInt8)) = true := beq_iff_eq.mpr c33
              have c33b1 : (a0_4.toList != ([] : List UInt8)) = false := bne_eq_false_iff_eq.mpr c33
              clear c33
              replace H := Option.bind_eq_some_iff.mp H
              obtain ⟨t107, A340, H⟩ := H
              replace H : (if t107 = true then (if a0_2 = 1 then ((Zar.f kj11 l0_3).bind fun t108 => (Zah.j2 kj11 (decide (t108 > 512)) a0_0 a0_1 a0_2 l0_3 a0_4 a0_5)) else (Zah.j2 kj11 false a0_0 a0_1 a0_2 l0_3 a0_4 a0_5)) else (Zah.j2 kj11 true a0_0 a0_1 a0_2 l0_3 a0_4 a0_5)) = some r := H
              have A34 := Aside0.mk A340
              clear A340
              by_cases c35 : t107 = true
              ·subst c35
               have H1 : (if a0_2 = 1 then ((Zar.f kj11 l0_3).bind fun t108 => (Zah.j2 kj11 (decide (t108 > 512)) a0_0 a0_1 a0_2 l0_3 a0_4 a0_5)) else (Zah.j2 kj11 false a0_0 a0_1 a0_2 l0_3 a0_4 a0_5)) = some r := by rw [if_pos rfl] at H; exact H
               clear H
               have H := H1
               clear H1
               by_cases c36 : a0_2 = 1
               ·rw [if_pos c36] at H
                have c36b0 : (a0_2 == 1) = true := beq_iff_eq.mpr c36
                have c36b1 : (a0_2 != 1) = false := bne_eq_false_iff_eq.mpr c36
                clear c36
                replace H := Option.bind_eq_some_iff.mp H
                obtain ⟨t108, A370, H⟩ := H
                replace H : (Zah.j2 kj11 (decide (t108 > 512)) a0_0 a0_1 a0_2 l0_3 a0_4 a0_5) = some r := H
                have A37 := Aside0.mk A370
                clear A370
                have H' := Aside0.mk H
                clear H
                have hcz38_0 : wc.cell? ⟨gb106, 0, none⟩ = some (.int .i64 a0_0) := (Zaa BK106.out 0).trans rfl
                have hcz38_1 : wc.cell? ⟨gb106, 1, none⟩ = some (.int .i64 a0_1) := (Zaa BK106.out 1).trans rfl
                have hcz38_2 : wc.cell? ⟨gb106, 2, none⟩ = some (.int .i64 a0_2) := (Zaa BK106.out 2).trans rfl
                have hcz38_3 : wc.cell? ⟨gb106, 3, none⟩ = some (.slice A0_3 l0_3.length c0_3) := (Zaa BK106.out 3).trans rfl
                have hcz38_4 : wc.cell? ⟨gb106, 4, none⟩ = some (.string a0_4) := (Zaa BK106.out 4).trans rfl
                have hcz38_5 : wc.cell? ⟨gb106, 5, none⟩ = some (.string a0_5) := (Zaa BK106.out 5).trans rfl
                have hfz38_0 := Zad BK106.out 0
                have hfz38_1 := Zad BK106.out 1
                have hfz38_2 := Zad BK106.out 2
                have hfz38_3 := Zad BK106.out 3
                have hfz38_4 := Zad BK106.out 4
                have hfz38_5 := Zad BK106.out 5
                go_wp2_with (first | (go_at_call 57; (with_reducible refine (Zat.calls kj11 _ _ l0_3 true _ ?side1 ?side2 A34.out).mono ?_); (case side1 => repeat (first | exact (Kd.C_below HR0_3.out HB.out) | (with_reducible refine Kd.C_alloc ?_ _) | (with_reducible refine Kd.C_drewN ?_ _) | (with_reducible refine Kd.C_drew ?_))); (case side2 => exact HC0_3.out); rintro e w39 ⟨rfl, hb⟩; have n0_ := Aside0.mk (Zag (g := gb106) (o := .cells #[.int .i64 a0_0, .int .i64 a0_1, .int .i64 a0_2, .slice A0_3 l0_3.length c0_3, .string a0_4, .string a0_5] 66 (0, 0)) (by (with_reducible repeat (first | refine Zao ?_ _ | refine Zaq ?_ | refine Zan ?_ _)); exact BK106.out) hb); have n1_ := Aside0.mk (Zae (by repeat (first | (with_reducible first | exact HB.out | apply Zab | apply Zac | apply Zaf | refine Zaj ?_ GE106.out) | exact HB.out)) hb); clear BK106; clear HB; have BK106 := n0_; have HB := n1_; clear n0_ n1_; (try clear hb); (try clear hb2); (try clear hk); (try clear hi); have hcz40_0 : w39.cell? ⟨gb106, 0, none⟩ = some (.int .i64 a0_0) := (Zaa BK106.out 0).trans rfl; have hcz40_1 : w39.cell? ⟨gb106, 1, none⟩ = some (.int .i64 a0_1) := (Zaa BK106.out 1).trans rfl; have hcz40_2 : w39.cell? ⟨gb106, 2, none⟩ = some (.int .i64 a0_2) := (Zaa BK106.out 2).trans rfl; have hcz40_3 : w39.cell? ⟨gb106, 3, none⟩ = some (.slice A0_3 l0_3.length c0_3) := (Zaa BK106.out 3).trans rfl; have hcz40_4 : w39.cell? ⟨gb106, 4, none⟩ = some (.string a0_4) := (Zaa BK106.out 4).trans rfl; have hcz40_5 : w39.cell? ⟨gb106, 5, none⟩ = some (.string a0_5) := (Zaa BK106.out 5).trans rfl; have hfz40_0 := Zad BK106.out 0; have hfz40_1 := Zad BK106.out 1; have hfz40_2 := Zad BK106.out 2; have hfz40_3 := Zad BK106.out 3; have hfz40_4 := Zad BK106.out 4; have hfz40_5 := Zad BK106.out 5) | (go_at_call 23; (with_reducible refine (Zar.calls kj11 _ _ l0_3 t108 _ ?side1 ?side2 A37.out).mono ?_); (case side1 => repeat (first | exact (Kd.C_below HR0_3.out HB.out) | (with_reducible refine Kd.C_alloc ?_ _) | (with_reducible refine Kd.C_drewN ?_ _) | (with_reducible refine Kd.C_drew ?_))); (case side2 => exact HC0_3.out); rintro e w' ⟨rfl, ⟨nd, rfl⟩⟩; (try first | exact ⟨rfl, _, World.drewN_drewN _ _ _⟩ | exact ⟨rfl, _, Eq.trans (World.drewN_drewN _ _ _) (congrArg (World.drewN _) (Nat.add_assoc _ _ _))⟩)))
                repeat (go_quiet (first | (go_at_call 57; (with_reducible refine (Zat.calls kj11 _ _ l0_3 true _ ?side1 ?side2 A34.out).mono ?_); (case side1 => repeat (first | exact (Kd.C_below HR0_3.out HB.out) | (with_reducible refine Kd.C_alloc ?_ _) | (with_reducible refine Kd.C_drewN ?_ _) | (with_reducible refine Kd.C_drew ?_))); (case side2 => exact HC0_3.out); rintro e w39 ⟨rfl, hb⟩; have n0_ := Aside0.mk (Zag (g := gb106) (o := .cells #[.int .i64 a0_0, .int .i64 a0_1, .int .i64 a0_2, .slice A0_3 l0_3.length c0_3, .string a0_4, .string a0_5] 66 (0, 0)) (by (with_reducible repeat (first | refine Zao ?_ _ | refine Zaq ?_ | refine Zan ?_ _)); exact BK106.out) hb); have n1_ := Aside0.mk (Zae (by repeat (first | (with_reducible first | exact HB.out | apply Zab | apply Zac | apply Zaf | refine Zaj ?_ GE106.out) | exact HB.out)) hb); clear BK106; clear HB; have BK106 := n0_; have HB := n1_; clear n0_ n1_; (try clear hb); (try clear hb2); (try clear hk); (try clear hi); have hcz40_0 : w39.cell? ⟨gb106, 0, none⟩ = some (.int .i64 a0_0) := (Zaa BK106.out 0).trans rfl; have hcz40_1 : w39.cell? ⟨gb106, 1, none⟩ = some (.int .i64 a0_1) := (Zaa BK106.out 1).trans rfl; have hcz40_2 : w39.cell? ⟨gb106, 2, none⟩ = some (.int .i64 a0_2) := (Zaa BK106.out 2).trans rfl; have hcz40_3 : w39.cell? ⟨gb106, 3, none⟩ = some (.slice A0_3 l0_3.length c0_3) := (Zaa BK106.out 3).trans rfl; have hcz40_4 : w39.cell? ⟨gb106, 4, none⟩ = some (.string a0_4) := (Zaa BK106.out 4).trans rfl; have hcz40_5 : w39.cell? ⟨gb106, 5, none⟩ = some (.string a0_5) := (Zaa BK106.out 5).trans rfl; have hfz40_0 := Zad BK106.out 0; have hfz40_1 := Zad BK106.out 1; have hfz40_2 := Zad BK106.out 2; have hfz40_3 := Zad BK106.out 3; have hfz40_4 := Zad BK106.out 4; have hfz40_5 := Zad BK106.out 5) | (go_at_call 23; (with_reducible refine (Zar.calls kj11 _ _ l0_3 t108 _ ?side1 ?side2 A37.out).mono ?_); (case side1 => repeat (first | exact (Kd.C_below HR0_3.out HB.out) | (with_reducible refine Kd.C_alloc ?_ _) | (with_reducible refine Kd.C_drewN ?_ _) | (with_reducible refine Kd.C_drew ?_))); (case side2 => exact HC0_3.out); rintro e w' ⟨rfl, ⟨nd, rfl⟩⟩; (try first | exact ⟨rfl, _, World.drewN_drewN _ _ _⟩ | exact ⟨rfl, _, Eq.trans (World.drewN_drewN _ _ _) (congrArg (World.drewN _) (Nat.add_assoc _ _ _))⟩))); try go_wp2_with (first | (go_at_call 57; (with_reducible refine (Zat.calls kj11 _ _ l0_3 true _ ?side1 ?side2 A34.out).mono ?_); (case side1 => repeat (first | exact (Kd.C_below HR0_3.out HB.out) | (with_reducible refine Kd.C_alloc ?_ _) | (with_reducible refine Kd.C_drewN ?_ _) | (with_reducible refine Kd.C_drew ?_))); (case side2 => exact HC0_3.out); rintro e w39 ⟨rfl, hb⟩; have n0_ := Aside0.mk (Zag (g := gb106) (o := .cells #[.int .i64 a0_0, .int .i64 a0_1, .int .i64 a0_2, .slice A0_3 l0_3.length c0_3, .string a0_4, .string a0_5] 66 (0, 0)) (by (with_reducible repeat (first | refine Zao ?_ _ | refine Zaq ?_ | refine Zan ?_ _)); exact BK106.out) hb); have n1_ := Aside0.mk (Zae (by repeat (first | (with_reducible first | exact HB.out | apply Zab | apply Zac | apply Zaf | refine Zaj ?_ GE106.out) | exact HB.out)) hb); clear BK106; clear HB; have BK106 := n0_; have HB := n1_; clear n0_ n1_; (try clear hb); (try clear hb2); (try clear hk); (try clear hi); have hcz40_0 : w39.cell? ⟨gb106, 0, none⟩ = some (.int .i64 a0_0) := (Zaa BK106.out 0).trans rfl; have hcz40_1 : w39.cell? ⟨gb106, 1, none⟩ = some (.int .i64 a0_1) := (Zaa BK106.out 1).trans rfl; have hcz40_2 : w39.cell? ⟨gb106, 2, none⟩ = some (.int .i64 a0_2) := (Zaa BK106.out 2).trans rfl; have hcz40_3 : w39.cell? ⟨gb106, 3, none⟩ = some (.slice A0_3 l0_3.length c0_3) := (Zaa BK106.out 3).trans rfl; have hcz40_4 : w39.cell? ⟨gb106, 4, none⟩ = some (.string a0_4) := (Zaa BK106.out 4).trans rfl; have hcz40_5 : w39.cell? ⟨gb106, 5, none⟩ = some (.string a0_5) := (Zaa BK106.out 5).trans rfl; have hfz40_0 := Zad BK106.out 0; have hfz40_1 := Zad BK106.out 1; have hfz40_2 := Zad BK106.out 2; have hfz40_3 := Zad BK106.out 3; have hfz40_4 := Zad BK106.out 4; have hfz40_5 := Zad BK106.out 5) | (go_at_call 23; (with_reducible refine (Zar.calls kj11 _ _ l0_3 t108 _ ?side1 ?side2 A37.out).mono ?_); (case side1 => repeat (first | exact (Kd.C_below HR0_3.out HB.out) | (with_reducible refine Kd.C_alloc ?_ _) | (with_reducible refine Kd.C_drewN ?_ _) | (with_reducible refine Kd.C_drew ?_))); (case side2 => exact HC0_3.out); rintro e w' ⟨rfl, ⟨nd, rfl⟩⟩; (try first | exact ⟨rfl, _, World.drewN_drewN _ _ _⟩ | exact ⟨rfl, _, Eq.trans (World.drewN_drewN _ _ _) (congrArg (World.drewN _) (Nat.add_assoc _ _ _))⟩))))
                go_meet
                case rel => exact ⟨_, (decide (t108 > 512)), (by first | rfl | (simp; done) | (simp [*]; done)), H', ⟨by have := HJ1.out; have := HJ11.out; first | omega | exact Nat.le_refl _⟩, ⟨by (with_reducible repeat (first | refine Zao ?_ _ | refine Zaq ?_ | refine Zan ?_ _)); exact BK106.out⟩, ⟨by repeat (first | (with_reducible first | exact HB.out | apply Zab | apply Zac | apply Zaf | refine Zaj ?_ GE106.out) | exact HB.out)⟩⟩
               ·rw [if_neg c36] at H
                have c36b0 : (a0_2 == 1) = false := beq_eq_false_iff_ne.mpr c36
                have c36b1 : (a0_2 != 1) = true := bne_iff_ne.mpr c36
                have H' := Aside0.mk H
                clear H
                have hcz41_0 : wc.cell? ⟨gb106, 0, none⟩ = some (.int .i64 a0_0) := (Zaa BK106.out 0).trans rfl
                have hcz41_1 : wc.cell? ⟨gb106, 1, none⟩ = some (.int .i64 a0_1) := (Zaa BK106.out 1).trans rfl
                have hcz41_2 : wc.cell? ⟨gb106, 2, none⟩ = some (.int .i64 a0_2) := (Zaa BK106.out 2).trans rfl
                have hcz41_3 : wc.cell? ⟨gb106, 3, none⟩ = some (.slice A0_3 l0_3.length c0_3) := (Zaa BK106.out 3).trans rfl
                have hcz41_4 : wc.cell? ⟨gb106, 4, none⟩ = some (.string a0_4) := (Zaa BK106.out 4).trans rfl
                have hcz41_5 : wc.cell? ⟨gb106, 5, none⟩ = some (.string a0_5) := (Zaa BK106.out 5).trans rfl
                have hfz41_0 := Zad BK106.out 0
                have hfz41_1 := Zad BK106.out 1
                have hfz41_2 := Zad BK106.out 2
                have hfz41_3 := Zad BK106.out 3
                have hfz41_4 := Zad BK106.out 4
                have hfz41_5 := Zad BK106.out 5
                go_wp2_with (first | (go_at_call 57; (with_reducible refine (Zat.calls kj11 _ _ l0_3 true _ ?side1 ?side2 A34.out).mono ?_); (case side1 => repeat (first | exact (Kd.C_below HR0_3.out HB.out) | (with_reducible refine Kd.C_alloc ?_ _) | (with_reducible refine Kd.C_drewN ?_ _) | (with_reducible refine Kd.C_drew ?_))); (case side2 => exact HC0_3.out); rintro e w42 ⟨rfl, hb⟩; have n0_ := Aside0.mk (Zag (g := gb106) (o := .cells #[.int .i64 a0_0, .int .i64 a0_1, .int .i64 a0_2, .slice A0_3 l0_3.length c0_3, .string a0_4, .string a0_5] 66 (0, 0)) (by (with_reducible repeat (first | refine Zao ?_ _ | refine Zaq ?_ | refine Zan ?_ _)); exact BK106.out) hb); have n1_ := Aside0.mk (Zae (by repeat (first | (with_reducible first | exact HB.out | apply Zab | apply Zac | apply Zaf | refine Zaj ?_ GE106.out) | exact HB.out)) hb); clear BK106; clear HB; have BK106 := n0_; have HB := n1_; clear n0_ n1_; (try clear hb); (try clear hb2); (try clear hk); (try clear hi); have hcz43_0 : w42.cell? ⟨gb106, 0, none⟩ = some (.int .i64 a0_0) := (Zaa BK106.out 0).trans rfl; have hcz43_1 : w42.cell? ⟨gb106, 1, none⟩ = some (.int .i64 a0_1) := (Zaa BK106.out 1).trans rfl; have hcz43_2 : w42.cell? ⟨gb106, 2, none⟩ = some (.int .i64 a0_2) := (Zaa BK106.out 2).trans rfl; have hcz43_3 : w42.cell? ⟨gb106, 3, none⟩ = some (.slice A0_3 l0_3.length c0_3) := (Zaa BK106.out 3).trans rfl; have hcz43_4 : w42.cell? ⟨gb106, 4, none⟩ = some (.string a0_4) := (Zaa BK106.out 4).trans rfl; have hcz43_5 : w42.cell? ⟨gb106, 5, none⟩ = some (.string a0_5) := (Zaa BK106.out 5).trans rfl; have hfz43_0 := Zad BK106.out 0; have hfz43_1 := Zad BK106.out 1; have hfz43_2 := Zad BK106.out 2; have hfz43_3 := Zad BK106.out 3; have hfz43_4 := Zad BK106.out 4; have hfz43_5 := Zad BK106.out 5))
                repeat (go_quiet (first | (go_at_call 57; (with_reducible refine (Zat.calls kj11 _ _ l0_3 true _ ?side1 ?side2 A34.out).mono ?_); (case side1 => repeat (first | exact (Kd.C_below HR0_3.out HB.out) | (with_reducible refine Kd.C_alloc ?_ _) | (with_reducible refine Kd.C_drewN ?_ _) | (with_reducible refine Kd.C_drew ?_))); (case side2 => exact HC0_3.out); rintro e w42 ⟨rfl, hb⟩; have n0_ := Aside0.mk (Zag (g := gb106) (o := .cells #[.int .i64 a0_0, .int .i64 a0_1, .int .i64 a0_2, .slice A0_3 l0_3.length c0_3, .string a0_4, .string a0_5] 66 (0, 0)) (by (with_reducible repeat (first | refine Zao ?_ _ | refine Zaq ?_ | refine Zan ?_ _)); exact BK106.out) hb); have n1_ := Aside0.mk (Zae (by repeat (first | (with_reducible first | exact HB.out | apply Zab | apply Zac | apply Zaf | refine Zaj ?_ GE106.out) | exact HB.out)) hb); clear BK106; clear HB; have BK106 := n0_; have HB := n1_; clear n0_ n1_; (try clear hb); (try clear hb2); (try clear hk); (try clear hi); have hcz43_0 : w42.cell? ⟨gb106, 0, none⟩ = some (.int .i64 a0_0) := (Zaa BK106.out 0).trans rfl; have hcz43_1 : w42.cell? ⟨gb106, 1, none⟩ = some (.int .i64 a0_1) := (Zaa BK106.out 1).trans rfl; have hcz43_2 : w42.cell? ⟨gb106, 2, none⟩ = some (.int .i64 a0_2) := (Zaa BK106.out 2).trans rfl; have hcz43_3 : w42.cell? ⟨gb106, 3, none⟩ = some (.slice A0_3 l0_3.length c0_3) := (Zaa BK106.out 3).trans rfl; have hcz43_4 : w42.cell? ⟨gb106, 4, none⟩ = some (.string a0_4) := (Zaa BK106.out 4).trans rfl; have hcz43_5 : w42.cell? ⟨gb106, 5, none⟩ = some (.string a0_5) := (Zaa BK106.out 5).trans rfl; have hfz43_0 := Zad BK106.out 0; have hfz43_1 := Zad BK106.out 1; have hfz43_2 := Zad BK106.out 2; have hfz43_3 := Zad BK106.out 3; have hfz43_4 := Zad BK106.out 4; have hfz43_5 := Zad BK106.out 5)); try go_wp2_with (first | (go_at_call 57; (with_reducible refine (Zat.calls kj11 _ _ l0_3 true _ ?side1 ?side2 A34.out).mono ?_); (case side1 => repeat (first | exact (Kd.C_below HR0_3.out HB.out) | (with_reducible refine Kd.C_alloc ?_ _) | (with_reducible refine Kd.C_drewN ?_ _) | (with_reducible refine Kd.C_drew ?_))); (case side2 => exact HC0_3.out); rintro e w42 ⟨rfl, hb⟩; have n0_ := Aside0.mk (Zag (g := gb106) (o := .cells #[.int .i64 a0_0, .int .i64 a0_1, .int .i64 a0_2, .slice A0_3 l0_3.length c0_3, .string a0_4, .string a0_5] 66 (0, 0)) (by (with_reducible repeat (first | refine Zao ?_ _ | refine Zaq ?_ | refine Zan ?_ _)); exact BK106.out) hb); have n1_ := Aside0.mk (Zae (by repeat (first | (with_reducible first | exact HB.out | apply Zab | apply Zac | apply Zaf | refine Zaj ?_ GE106.out) | exact HB.out)) hb); clear BK106; clear HB; have BK106 := n0_; have HB := n1_; clear n0_ n1_; (try clear hb); (try clear hb2); (try clear hk); (try clear hi); have hcz43_0 : w42.cell? ⟨gb106, 0, none⟩ = some (.int .i64 a0_0) := (Zaa BK106.out 0).trans rfl; have hcz43_1 : w42.cell? ⟨gb106, 1, none⟩ = some (.int .i64 a0_1) := (Zaa BK106.out 1).trans rfl; have hcz43_2 : w42.cell? ⟨gb106, 2, none⟩ = some (.int .i64 a0_2) := (Zaa BK106.out 2).trans rfl; have hcz43_3 : w42.cell? ⟨gb106, 3, none⟩ = some (.slice A0_3 l0_3.length c0_3) := (Zaa BK106.out 3).trans rfl; have hcz43_4 : w42.cell? ⟨gb106, 4, none⟩ = some (.string a0_4) := (Zaa BK106.out 4).trans rfl; have hcz43_5 : w42.cell? ⟨gb106, 5, none⟩ = some (.string a0_5) := (Zaa BK106.out 5).trans rfl; have hfz43_0 := Zad BK106.out 0; have hfz43_1 := Zad BK106.out 1; have hfz43_2 := Zad BK106.out 2; have hfz43_3 := Zad BK106.out 3; have hfz43_4 := Zad BK106.out 4; have hfz43_5 := Zad BK106.out 5)))
                go_meet
                case rel => exact ⟨_, (false), (by first | rfl | (simp; done) | (simp [*]; done)), H', ⟨by have := HJ1.out; have := HJ11.out; first | omega | exact Nat.le_refl _⟩, ⟨by (with_reducible repeat (first | refine Zao ?_ _ | refine Zaq ?_ | refine Zan ?_ _)); exact BK106.out⟩, ⟨by repeat (first | (with_reducible first | exact HB.out | apply Zab | apply Zac | apply Zaf | refine Zaj ?_ GE106.out) | exact HB.out)⟩⟩
              ·replace c35 := Bool.eq_false_iff.mpr c35
               subst c35
               have H1 : (Zah.j2 kj11 true a0_0 a0_1 a0_2 l0_3 a0_4 a0_5) = some r := by rw [if_neg (show ¬ (false = true) by decide)] at H; exact H
               clear H
               have H := H1
               clear H1
               have H' := Aside0.mk H
               clear H
               have hcz44_0 : wc.cell? ⟨gb106, 0, none⟩ = some (.int .i64 a0_0) := (Zaa BK106.out 0).trans rfl
               have hcz44_1 : wc.cell? ⟨gb106, 1, none⟩ = some (.int .i64 a0_1) := (Zaa BK106.out 1).trans rfl
               have hcz44_2 : wc.cell? ⟨gb106, 2, none⟩ = some (.int .i64 a0_2) := (Zaa BK106.out 2).trans rfl
               have hcz44_3 : wc.cell? ⟨gb106, 3, none⟩ = some (.slice A0_3 l0_3.length c0_3) := (Zaa BK106.out 3).trans rfl
               have hcz44_4 : wc.cell? ⟨gb106, 4, none⟩ = some (.string a0_4) := (Zaa BK106.out 4).trans rfl
               have hcz44_5 : wc.cell? ⟨gb106, 5, none⟩ = some (.string a0_5) := (Zaa BK106.out 5).trans rfl
               have hfz44_0 := Zad BK106.out 0
               have hfz44_1 := Zad BK106.out 1
               have hfz44_2 := Zad BK106.out 2
               have hfz44_3 := Zad BK106.out 3
               have hfz44_4 := Zad BK106.out 4
               have hfz44_5 := Zad BK106.out 5
               go_wp2_with (first | (go_at_call 57; (with_reducible refine (Zat.calls kj11 _ _ l0_3 false _ ?side1 ?side2 A34.out).mono ?_); (case side1 => repeat (first | exact (Kd.C_below HR0_3.out HB.out) | (with_reducible refine Kd.C_alloc ?_ _) | (with_reducible refine Kd.C_drewN ?_ _) | (with_reducible refine Kd.C_drew ?_))); (case side2 => exact HC0_3.out); rintro e w45 ⟨rfl, hb⟩; have n0_ := Aside0.mk (Zag (g := gb106) (o := .cells #[.int .i64 a0_0, .int .i64 a0_1, .int .i64 a0_2, .slice A0_3 l0_3.length c0_3, .string a0_4, .string a0_5] 66 (0, 0)) (by (with_reducible repeat (first | refine Zao ?_ _ | refine Zaq ?_ | refine Zan ?_ _)); exact BK106.out) hb); have n1_ := Aside0.mk (Zae (by repeat (first | (with_reducible first | exact HB.out | apply Zab | apply Zac | apply Zaf | refine Zaj ?_ GE106.out) | exact HB.out)) hb); clear BK106; clear HB; have BK106 := n0_; have HB := n1_; clear n0_ n1_; (try clear hb); (try clear hb2); (try clear hk); (try clear hi)))
               repeat (go_quiet (first | (go_at_call 57; (with_reducible refine (Zat.calls kj11 _ _ l0_3 false _ ?side1 ?side2 A34.out).mono ?_); (case side1 => repeat (first | exact (Kd.C_below HR0_3.out HB.out) | (with_reducible refine Kd.C_alloc ?_ _) | (with_reducible refine Kd.C_drewN ?_ _) | (with_reducible refine Kd.C_drew ?_))); (case side2 => exact HC0_3.out); rintro e w45 ⟨rfl, hb⟩; have n0_ := Aside0.mk (Zag (g := gb106) (o := .cells #[.int .i64 a0_0, .int .i64 a0_1, .int .i64 a0_2, .slice A0_3 l0_3.length c0_3, .string a0_4, .string a0_5] 66 (0, 0)) (by (with_reducible repeat (first | refine Zao ?_ _ | refine Zaq ?_ | refine Zan ?_ _)); exact BK106.out) hb); have n1_ := Aside0.mk (Zae (by repeat (first | (with_reducible first | exact HB.out | apply Zab | apply Zac | apply Zaf | refine Zaj ?_ GE106.out) | exact HB.out)) hb); clear BK106; clear HB; have BK106 := n0_; have HB := n1_; clear n0_ n1_; (try clear hb); (try clear hb2); (try clear hk); (try clear hi))); try go_wp2_with (first | (go_at_call 57; (with_reducible refine (Zat.calls kj11 _ _ l0_3 false _ ?side1 ?side2 A34.out).mono ?_); (case side1 => repeat (first | exact (Kd.C_below HR0_3.out HB.out) | (with_reducible refine Kd.C_alloc ?_ _) | (with_reducible refine Kd.C_drewN ?_ _) | (with_reducible refine Kd.C_drew ?_))); (case side2 => exact HC0_3.out); rintro e w45 ⟨rfl, hb⟩; have n0_ := Aside0.mk (Zag (g := gb106) (o := .cells #[.int .i64 a0_0, .int .i64 a0_1, .int .i64 a0_2, .slice A0_3 l0_3.length c0_3, .string a0_4, .string a0_5] 66 (0, 0)) (by (with_reducible repeat (first | refine Zao ?_ _ | refine Zaq ?_ | refine Zan ?_ _)); exact BK106.out) hb); have n1_ := Aside0.mk (Zae (by repeat (first | (with_reducible first | exact HB.out | apply Zab | apply Zac | apply Zaf | refine Zaj ?_ GE106.out) | exact HB.out)) hb); clear BK106; clear HB; have BK106 := n0_; have HB := n1_; clear n0_ n1_; (try clear hb); (try clear hb2); (try clear hk); (try clear hi))))
               go_meet
               case rel => exact ⟨_, (true), (by first | rfl | (simp; done) | (simp [*]; done)), H', ⟨by have := HJ1.out; have := HJ11.out; first | omega | exact Nat.le_refl _⟩, ⟨by (with_reducible repeat (first | refine Zao ?_ _ | refine Zaq ?_ | refine Zan ?_ _)); exact BK106.out⟩, ⟨by repeat (first | (with_reducible first | exact HB.out | apply Zab | apply Zac | apply Zaf | refine Zaj ?_ GE106.out) | exact HB.out)⟩⟩
             ·rw [if_neg c33] at H
              have c33b0 : (a0_4.toList == ([] : List UInt8)) = false := beq_eq_false_iff_ne.mpr c33
              have c33b1 : (a0_4.toList != ([] : List UInt8)) = true := bne_iff_ne.mpr c33
              have H' := Aside0.mk H
              clear H
              have hcz46_0 : wc.cell? ⟨gb106, 0, none⟩ = some (.int .i64 a0_0) := (Zaa BK106.out 0).trans rfl
              have hcz46_1 : wc.cell? ⟨gb106, 1, none⟩ = some (.int .i64 a0_1) := (Zaa BK106.out 1).trans rfl
              have hcz46_2 : wc.cell? ⟨gb106, 2, none⟩ = some (.int .i64 a0_2) := (Zaa BK106.out 2).trans rfl
              have hcz46_3 : wc.cell? ⟨gb106, 3, none⟩ = some (.slice A0_3 l0_3.length c0_3) := (Zaa BK106.out 3).trans rfl
              have hcz46_4 : wc.cell? ⟨gb106, 4, none⟩ = some (.string a0_4) := (Zaa BK106.out 4).trans rfl
              have hcz46_5 : wc.cell? ⟨gb106, 5, none⟩ = some (.string a0_5) := (Zaa BK106.out 5).trans rfl
              have hfz46_0 := Zad BK106.out 0
              have hfz46_1 := Zad BK106.out 1
              have hfz46_2 := Zad BK106.out 2
              have hfz46_3 := Zad BK106.out 3
              have hfz46_4 := Zad BK106.out 4
              have hfz46_5 := Zad BK106.out 5
              go_wp2
              repeat (go_quiet (fail); try go_wp2)
              go_meet
              case rel => exact ⟨_, (true), (by first | rfl | (simp; done) | (simp [*]; done)), H', ⟨by have := HJ1.out; have := HJ11.out; first | omega | exact Nat.le_refl _⟩, ⟨by (with_reducible repeat (first | refine Zao ?_ _ | refine Zaq ?_ | refine Zan ?_ _)); exact BK106.out⟩, ⟨by repeat (first | (with_reducible first | exact HB.out | apply Zab | apply Zac | apply Zaf | refine Zaj ?_ GE106.out) | exact HB.out)⟩⟩
            ·rw [if_neg c32] at H
             have c32b0 : (a0_2 == 2) = false := beq_eq_false_iff_ne.mpr c32
             have c32b1 : (a0_2 != 2) = true := bne_iff_ne.mpr c32
             replace H := Option.bind_eq_some_iff.mp H
             obtain ⟨t109, A470, H⟩ := H
             replace H : (if t109 = true then (if a0_2 = 1 then ((Zar.f kj11 l0_3).bind fun t110 => (Zah.j2 kj11 (decide (t110 > 512)) a0_0 a0_1 a0_2 l0_3 a0_4 a0_5)) else (Zah.j2 kj11 false a0_0 a0_1 a0_2 l0_3 a0_4 a0_5)) else (Zah.j2 kj11 true a0_0 a0_1 a0_2 l0_3 a0_4 a0_5)) = some r := H
             have A47 := Aside0.mk A470
             clear A470
             by_cases c48 : t109 = true
             ·subst c48
              have H1 : (if a0_2 = 1 then ((Zar.f kj11 l0_3).bind fun t110 => (Zah.j2 kj11 (decide (t110 > 512)) a0_0 a0_1 a0_2 l0_3 a0_4 a0_5)) else (Zah.j2 kj11 false a0_0 a0_1 a0_2 l0_3 a0_4 a0_5)) = some r := by rw [if_pos rfl] at H; exact H
              clear H
              have H := H1
              clear H1
              by_cases c49 : a0_2 = 1
              ·rw [if_pos c49] at H
               have c49b0 : (a0_2 == 1) = true := beq_iff_eq.mpr c49
               have c49b1 : (a0_2 != 1) = false := bne_eq_false_iff_eq.mpr c49
               clear c49
               replace H := Option.bind_eq_some_iff.mp H
               obtain ⟨t110, A500, H⟩ := H
               replace H : (Zah.j2 kj11 (decide (t110 > 512)) a0_0 a0_1 a0_2 l0_3 a0_4 a0_5) = some r := H
               have A50 := Aside0.mk A500
               clear A500
               have H' := Aside0.mk H
               clear H
               have hcz51_0 : wc.cell? ⟨gb106, 0, none⟩ = some (.int .i64 a0_0) := (Zaa BK106.out 0).trans rfl
               have hcz51_1 : wc.cell? ⟨gb106, 1, none⟩ = some (.int .i64 a0_1) := (Zaa BK106.out 1).trans rfl
               have hcz51_2 : wc.cell? ⟨gb106, 2, none⟩ = some (.int .i64 a0_2) := (Zaa BK106.out 2).trans rfl
               have hcz51_3 : wc.cell? ⟨gb106, 3, none⟩ = some (.slice A0_3 l0_3.length c0_3) := (Zaa BK106.out 3).trans rfl
               have hcz51_4 : wc.cell? ⟨gb106, 4, none⟩ = some (.string a0_4) := (Zaa BK106.out 4).trans rfl
               have hcz51_5 : wc.cell? ⟨gb106, 5, none⟩ = some (.string a0_5) := (Zaa BK106.out 5).trans rfl
               have hfz51_0 := Zad BK106.out 0
               have hfz51_1 := Zad BK106.out 1
               have hfz51_2 := Zad BK106.out 2
               have hfz51_3 := Zad BK106.out 3
               have hfz51_4 := Zad BK106.out 4
               have hfz51_5 := Zad BK106.out 5
               go_wp2_with (first | (go_at_call 57; (with_reducible refine (Zat.calls kj11 _ _ l0_3 true _ ?side1 ?side2 A47.out).mono ?_); (case side1 => repeat (first | exact (Kd.C_below HR0_3.out HB.out) | (with_reducible refine Kd.C_alloc ?_ _) | (with_reducible refine Kd.C_drewN ?_ _) | (with_reducible refine Kd.C_drew ?_))); (case side2 => exact HC0_3.out); rintro e w52 ⟨rfl, hb⟩; have n0_ := Aside0.mk (Zag (g := gb106) (o := .cells #[.int .i64 a0_0, .int .i64 a0_1, .int .i64 a0_2, .slice A0_3 l0_3.length c0_3, .string a0_4, .string a0_5] 66 (0, 0)) (by (with_reducible repeat (first | refine Zao ?_ _ | refine Zaq ?_ | refine Zan ?_ _)); exact BK106.out) hb); have n1_ := Aside0.mk (Zae (by repeat (first | (with_reducible first | exact HB.out | apply Zab | apply Zac | apply Zaf | refine Zaj ?_ GE106.out) | exact HB.out)) hb); clear BK106; clear HB; have BK106 := n0_; have HB := n1_; clear n0_ n1_; (try clear hb); (try clear hb2); (try clear hk); (try clear hi); have hcz53_0 : w52.cell? ⟨gb106, 0, none⟩ = some (.int .i64 a0_0) := (Zaa BK106.out 0).trans rfl; have hcz53_1 : w52.cell? ⟨gb106, 1, none⟩ = some (.int .i64 a0_1) := (Zaa BK106.out 1).trans rfl; have hcz53_2 : w52.cell? ⟨gb106, 2, none⟩ = some (.int .i64 a0_2) := (Zaa BK106.out 2).trans rfl; have hcz53_3 : w52.cell? ⟨gb106, 3, none⟩ = some (.slice A0_3 l0_3.length c0_3) := (Zaa BK106.out 3).trans rfl; have hcz53_4 : w52.cell? ⟨gb106, 4, none⟩ = some (.string a0_4) := (Zaa BK106.out 4).trans rfl; have hcz53_5 : w52.cell? ⟨gb106, 5, none⟩ = some (.string a0_5) := (Zaa BK106.out 5).trans rfl; have hfz53_0 := Zad BK106.out 0; have hfz53_1 := Zad BK106.out 1; have hfz53_2 := Zad BK106.out 2; have hfz53_3 := Zad BK106.out 3; have hfz53_4 := Zad BK106.out 4; have hfz53_5 := Zad BK106.out 5) | (go_at_call 23; (with_reducible refine (Zar.calls kj11 _ _ l0_3 t110 _ ?side1 ?side2 A50.out).mono ?_); (case side1 => repeat (first | exact (Kd.C_below HR0_3.out HB.out) | (with_reducible refine Kd.C_alloc ?_ _) | (with_reducible refine Kd.C_drewN ?_ _) | (with_reducible refine Kd.C_drew ?_))); (case side2 => exact HC0_3.out); rintro e w' ⟨rfl, ⟨nd, rfl⟩⟩; (try first | exact ⟨rfl, _, World.drewN_drewN _ _ _⟩ | exact ⟨rfl, _, Eq.trans (World.drewN_drewN _ _ _) (congrArg (World.drewN _) (Nat.add_assoc _ _ _))⟩)))
               repeat (go_quiet (first | (go_at_call 57; (with_reducible refine (Zat.calls kj11 _ _ l0_3 true _ ?side1 ?side2 A47.out).mono ?_); (case side1 => repeat (first | exact (Kd.C_below HR0_3.out HB.out) | (with_reducible refine Kd.C_alloc ?_ _) | (with_reducible refine Kd.C_drewN ?_ _) | (with_reducible refine Kd.C_drew ?_))); (case side2 => exact HC0_3.out); rintro e w52 ⟨rfl, hb⟩; have n0_ := Aside0.mk (Zag (g := gb106) (o := .cells #[.int .i64 a0_0, .int .i64 a0_1, .int .i64 a0_2, .slice A0_3 l0_3.length c0_3, .string a0_4, .string a0_5] 66 (0, 0)) (by (with_reducible repeat (first | refine Zao ?_ _ | refine Zaq ?_ | refine Zan ?_ _)); exact BK106.out) hb); have n1_ := Aside0.mk (Zae (by repeat (first | (with_reducible first | exact HB.out | apply Zab | apply Zac | apply Zaf | refine Zaj ?_ GE106.out) | exact HB.out)) hb); clear BK106; clear HB; have BK106 := n0_; have HB := n1_; clear n0_ n1_; (try clear hb); (try clear hb2); (try clear hk); (try clear hi); have hcz53_0 : w52.cell? ⟨gb106, 0, none⟩ = some (.int .i64 a0_0) := (Zaa BK106.out 0).trans rfl; have hcz53_1 : w52.cell? ⟨gb106, 1, none⟩ = some (.int .i64 a0_1) := (Zaa BK106.out 1).trans rfl; have hcz53_2 : w52.cell? ⟨gb106, 2, none⟩ = some (.int .i64 a0_2) := (Zaa BK106.out 2).trans rfl; have hcz53_3 : w52.cell? ⟨gb106, 3, none⟩ = some (.slice A0_3 l0_3.length c0_3) := (Zaa BK106.out 3).trans rfl; have hcz53_4 : w52.cell? ⟨gb106, 4, none⟩ = some (.string a0_4) := (Zaa BK106.out 4).trans rfl; have hcz53_5 : w52.cell? ⟨gb106, 5, none⟩ = some (.string a0_5) := (Zaa BK106.out 5).trans rfl; have hfz53_0 := Zad BK106.out 0; have hfz53_1 := Zad BK106.out 1; have hfz53_2 := Zad BK106.out 2; have hfz53_3 := Zad BK106.out 3; have hfz53_4 := Zad BK106.out 4; have hfz53_5 := Zad BK106.out 5) | (go_at_call 23; (with_reducible refine (Zar.calls kj11 _ _ l0_3 t110 _ ?side1 ?side2 A50.out).mono ?_); (case side1 => repeat (first | exact (Kd.C_below HR0_3.out HB.out) | (with_reducible refine Kd.C_alloc ?_ _) | (with_reducible refine Kd.C_drewN ?_ _) | (with_reducible refine Kd.C_drew ?_))); (case side2 => exact HC0_3.out); rintro e w' ⟨rfl, ⟨nd, rfl⟩⟩; (try first | exact ⟨rfl, _, World.drewN_drewN _ _ _⟩ | exact ⟨rfl, _, Eq.trans (World.drewN_drewN _ _ _) (congrArg (World.drewN _) (Nat.add_assoc _ _ _))⟩))); try go_wp2_with (first | (go_at_call 57; (with_reducible refine (Zat.calls kj11 _ _ l0_3 true _ ?side1 ?side2 A47.out).mono ?_); (case side1 => repeat (first | exact (Kd.C_below HR0_3.out HB.out) | (with_reducible refine Kd.C_alloc ?_ _) | (with_reducible refine Kd.C_drewN ?_ _) | (with_reducible refine Kd.C_drew ?_))); (case side2 => exact HC0_3.out); rintro e w52 ⟨rfl, hb⟩; have n0_ := Aside0.mk (Zag (g := gb106) (o := .cells #[.int .i64 a0_0, .int .i64 a0_1, .int .i64 a0_2, .slice A0_3 l0_3.length c0_3, .string a0_4, .string a0_5] 66 (0, 0)) (by (with_reducible repeat (first | refine Zao ?_ _ | refine Zaq ?_ | refine Zan ?_ _)); exact BK106.out) hb); have n1_ := Aside0.mk (Zae (by repeat (first | (with_reducible first | exact HB.out | apply Zab | apply Zac | apply Zaf | refine Zaj ?_ GE106.out) | exact HB.out)) hb); clear BK106; clear HB; have BK106 := n0_; have HB := n1_; clear n0_ n1_; (try clear hb); (try clear hb2); (try clear hk); (try clear hi); have hcz53_0 : w52.cell? ⟨gb106, 0, none⟩ = some (.int .i64 a0_0) := (Zaa BK106.out 0).trans rfl; have hcz53_1 : w52.cell? ⟨gb106, 1, none⟩ = some (.int .i64 a0_1) := (Zaa BK106.out 1).trans rfl; have hcz53_2 : w52.cell? ⟨gb106, 2, none⟩ = some (.int .i64 a0_2) := (Zaa BK106.out 2).trans rfl; have hcz53_3 : w52.cell? ⟨gb106, 3, none⟩ = some (.slice A0_3 l0_3.length c0_3) := (Zaa BK106.out 3).trans rfl; have hcz53_4 : w52.cell? ⟨gb106, 4, none⟩ = some (.string a0_4) := (Zaa BK106.out 4).trans rfl; have hcz53_5 : w52.cell? ⟨gb106, 5, none⟩ = some (.string a0_5) := (Zaa BK106.out 5).trans rfl; have hfz53_0 := Zad BK106.out 0; have hfz53_1 := Zad BK106.out 1; have hfz53_2 := Zad BK106.out 2; have hfz53_3 := Zad BK106.out 3; have hfz53_4 := Zad BK106.out 4; have hfz53_5 := Zad BK106.out 5) | (go_at_call 23; (with_reducible refine (Zar.calls kj11 _ _ l0_3 t110 _ ?side1 ?side2 A50.out).mono ?_); (case side1 => repeat (first | exact (Kd.C_below HR0_3.out HB.out) | (with_reducible refine Kd.C_alloc ?_ _) | (with_reducible refine Kd.C_drewN ?_ _) | (with_reducible refine Kd.C_drew ?_))); (case side2 => exact HC0_3.out); rintro e w' ⟨rfl, ⟨nd, rfl⟩⟩; (try first | exact ⟨rfl, _, World.drewN_drewN _ _ _⟩ | exact ⟨rfl, _, Eq.trans (World.drewN_drewN _ _ _) (congrArg (World.drewN _) (Nat.add_assoc _ _ _))⟩))))
               go_meet
               case rel => exact ⟨_, (decide (t110 > 512)), (by first | rfl | (simp; done) | (simp [*]; done)), H', ⟨by have := HJ1.out; have := HJ11.out; first | omega | exact Nat.le_refl _⟩, ⟨by (with_reducible repeat (first | refine Zao ?_ _ | refine Zaq ?_ | refine Zan ?_ _)); exact BK106.out⟩, ⟨by repeat (first | (with_reducible first | exact HB.out | apply Zab | apply Zac | apply Zaf | refine Zaj ?_ GE106.out) | exact HB.out)⟩⟩
              ·rw [if_neg c49] at H
               have c49b0 : (a0_2 == 1) = false := beq_eq_false_iff_ne.mpr c49
               have c49b1 : (a0_2 != 1) = true := bne_iff_ne.mpr c49
               have H' := Aside0.mk H
               clear H
               have hcz54_0 : wc.cell? ⟨gb106, 0, none⟩ = some (.int .i64 a0_0) := (Zaa BK106.out 0).trans rfl
               have hcz54_1 : wc.cell? ⟨gb106, 1, none⟩ = some (.int .i64 a0_1) := (Zaa BK106.out 1).trans rfl
               have hcz54_2 : wc.cell? ⟨gb106, 2, none⟩ = some (.int .i64 a0_2) := (Zaa BK106.out 2).trans rfl
               have hcz54_3 : wc.cell? ⟨gb106, 3, none⟩ = some (.slice A0_3 l0_3.length c0_3) := (Zaa BK106.out 3).trans rfl
               have hcz54_4 : wc.cell? ⟨gb106, 4, none⟩ = some (.string a0_4) := (Zaa BK106.out 4).trans rfl
               have hcz54_5 : wc.cell? ⟨gb106, 5, none⟩ = some (.string a0_5) := (Zaa BK106.out 5).trans rfl
               have hfz54_0 := Zad BK106.out 0
               have hfz54_1 := Zad BK106.out 1
               have hfz54_2 := Zad BK106.out 2
               have hfz54_3 := Zad BK106.out 3
               have hfz54_4 := Zad BK106.out 4
               have hfz54_5 := Zad BK106.out 5
               go_wp2_with (first | (go_at_call 57; (with_reducible refine (Zat.calls kj11 _ _ l0_3 true _ ?side1 ?side2 A47.out).mono ?_); (case side1 => repeat (first | exact (Kd.C_below HR0_3.out HB.out) | (with_reducible refine Kd.C_alloc ?_ _) | (with_reducible refine Kd.C_drewN ?_ _) | (with_reducible refine Kd.C_drew ?_))); (case side2 => exact HC0_3.out); rintro e w55 ⟨rfl, hb⟩; have n0_ := Aside0.mk (Zag (g := gb106) (o := .cells #[.int .i64 a0_0, .int .i64 a0_1, .int .i64 a0_2, .slice A0_3 l0_3.length c0_3, .string a0_4, .string a0_5] 66 (0, 0)) (by (with_reducible repeat (first | refine Zao ?_ _ | refine Zaq ?_ | refine Zan ?_ _)); exact BK106.out) hb); have n1_ := Aside0.mk (Zae (by repeat (first | (with_reducible first | exact HB.out | apply Zab | apply Zac | apply Zaf | refine Zaj ?_ GE106.out) | exact HB.out)) hb); clear BK106; clear HB; have BK106 := n0_; have HB := n1_; clear n0_ n1_; (try clear hb); (try clear hb2); (try clear hk); (try clear hi); have hcz56_0 : w55.cell? ⟨gb106, 0, none⟩ = some (.int .i64 a0_0) := (Zaa BK106.out 0).trans rfl; have hcz56_1 : w55.cell? ⟨gb106, 1, none⟩ = some (.int .i64 a0_1) := (Zaa BK106.out 1).trans rfl; have hcz56_2 : w55.cell? ⟨gb106, 2, none⟩ = some (.int .i64 a0_2) := (Zaa BK106.out 2).trans rfl; have hcz56_3 : w55.cell? ⟨gb106, 3, none⟩ = some (.slice A0_3 l0_3.length c0_3) := (Zaa BK106.out 3).trans rfl; have hcz56_4 : w55.cell? ⟨gb106, 4, none⟩ = some (.string a0_4) := (Zaa BK106.out 4).trans rfl; have hcz56_5 : w55.cell? ⟨gb106, 5, none⟩ = some (.string a0_5) := (Zaa BK106.out 5).trans rfl; have hfz56_0 := Zad BK106.out 0; have hfz56_1 := Zad BK106.out 1; have hfz56_2 := Zad BK106.out 2; have hfz56_3 := Zad BK106.out 3; have hfz56_4 := Zad BK106.out 4; have hfz56_5 := Zad BK106.out 5))
               repeat (go_quiet (first | (go_at_call 57; (with_reducible refine (Zat.calls kj11 _ _ l0_3 true _ ?side1 ?side2 A47.out).mono ?_); (case side1 => repeat (first | exact (Kd.C_below HR0_3.out HB.out) | (with_reducible refine Kd.C_alloc ?_ _) | (with_reducible refine Kd.C_drewN ?_ _) | (with_reducible refine Kd.C_drew ?_))); (case side2 => exact HC0_3.out); rintro e w55 ⟨rfl, hb⟩; have n0_ := Aside0.mk (Zag (g := gb106) (o := .cells #[.int .i64 a0_0, .int .i64 a0_1, .int .i64 a0_2, .slice A0_3 l0_3.length c0_3, .string a0_4, .string a0_5] 66 (0, 0)) (by (with_reducible repeat (first | refine Zao ?_ _ | refine Zaq ?_ | refine Zan ?_ _)); exact BK106.out) hb); have n1_ := Aside0.mk (Zae (by repeat (first | (with_reducible first | exact HB.out | apply Zab | apply Zac | apply Zaf | refine Zaj ?_ GE106.out) | exact HB.out)) hb); clear BK106; clear HB; have BK106 := n0_; have HB := n1_; clear n0_ n1_; (try clear hb); (try clear hb2); (try clear hk); (try clear hi); have hcz56_0 : w55.cell? ⟨gb106, 0, none⟩ = some (.int .i64 a0_0) := (Zaa BK106.out 0).trans rfl; have hcz56_1 : w55.cell? ⟨gb106, 1, none⟩ = some (.int .i64 a0_1) := (Zaa BK106.out 1).trans rfl; have hcz56_2 : w55.cell? ⟨gb106, 2, none⟩ = some (.int .i64 a0_2) := (Zaa BK106.out 2).trans rfl; have hcz56_3 : w55.cell? ⟨gb106, 3, none⟩ = some (.slice A0_3 l0_3.length c0_3) := (Zaa BK106.out 3).trans rfl; have hcz56_4 : w55.cell? ⟨gb106, 4, none⟩ = some (.string a0_4) := (Zaa BK106.out 4).trans rfl; have hcz56_5 : w55.cell? ⟨gb106, 5, none⟩ = some (.string a0_5) := (Zaa BK106.out 5).trans rfl; have hfz56_0 := Zad BK106.out 0; have hfz56_1 := Zad BK106.out 1; have hfz56_2 := Zad BK106.out 2; have hfz56_3 := Zad BK106.out 3; have hfz56_4 := Zad BK106.out 4; have hfz56_5 := Zad BK106.out 5)); try go_wp2_with (first | (go_at_call 57; (with_reducible refine (Zat.calls kj11 _ _ l0_3 true _ ?side1 ?side2 A47.out).mono ?_); (case side1 => repeat (first | exact (Kd.C_below HR0_3.out HB.out) | (with_reducible refine Kd.C_alloc ?_ _) | (with_reducible refine Kd.C_drewN ?_ _) | (with_reducible refine Kd.C_drew ?_))); (case side2 => exact HC0_3.out); rintro e w55 ⟨rfl, hb⟩; have n0_ := Aside0.mk (Zag (g := gb106) (o := .cells #[.int .i64 a0_0, .int .i64 a0_1, .int .i64 a0_2, .slice A0_3 l0_3.length c0_3, .string a0_4, .string a0_5] 66 (0, 0)) (by (with_reducible repeat (first | refine Zao ?_ _ | refine Zaq ?_ | refine Zan ?_ _)); exact BK106.out) hb); have n1_ := Aside0.mk (Zae (by repeat (first | (with_reducible first | exact HB.out | apply Zab | apply Zac | apply Zaf | refine Zaj ?_ GE106.out) | exact HB.out)) hb); clear BK106; clear HB; have BK106 := n0_; have HB := n1_; clear n0_ n1_; (try clear hb); (try clear hb2); (try clear hk); (try clear hi); have hcz56_0 : w55.cell? ⟨gb106, 0, none⟩ = some (.int .i64 a0_0) := (Zaa BK106.out 0).trans rfl; have hcz56_1 : w55.cell? ⟨gb106, 1, none⟩ = some (.int .i64 a0_1) := (Zaa BK106.out 1).trans rfl; have hcz56_2 : w55.cell? ⟨gb106, 2, none⟩ = some (.int .i64 a0_2) := (Zaa BK106.out 2).trans rfl; have hcz56_3 : w55.cell? ⟨gb106, 3, none⟩ = some (.slice A0_3 l0_3.length c0_3) := (Zaa BK106.out 3).trans rfl; have hcz56_4 : w55.cell? ⟨gb106, 4, none⟩ = some (.string a0_4) := (Zaa BK106.out 4).trans rfl; have hcz56_5 : w55.cell? ⟨gb106, 5, none⟩ = some (.string a0_5) := (Zaa BK106.out 5).trans rfl; have hfz56_0 := Zad BK106.out 0; have hfz56_1 := Zad BK106.out 1; have hfz56_2 := Zad BK106.out 2; have hfz56_3 := Zad BK106.out 3; have hfz56_4 := Zad BK106.out 4; have hfz56_5 := Zad BK106.out 5)))
               go_meet
               case rel => exact ⟨_, (false), (by first | rfl | (simp; done) | (simp [*]; done)), H', ⟨by have := HJ1.out; have := HJ11.out; first | omega | exact Nat.le_refl _⟩, ⟨by (with_reducible repeat (first | refine Zao ?_ _ | refine Zaq ?_ | refine Zan ?_ _)); exact BK106.out⟩, ⟨by repeat (first | (with_reducible first | exact HB.out | apply Zab | apply Zac | apply Zaf | refine Zaj ?_ GE106.out) | exact HB.out)⟩⟩
             ·replace c48 := Bool.eq_false_iff.mpr c48
              subst c48
              have H1 : (Zah.j2 kj11 true a0_0 a0_1 a0_2 l0_3 a0_4 a0_5) = some r := by rw [if_neg (show ¬ (false = true) by decide)] at H; exact H
              clear H
              have H := H1
              clear H1
              have H' := Aside0.mk H
              clear H
              have hcz57_0 : wc.cell? ⟨gb106, 0, none⟩ = some (.int .i64 a0_0) := (Zaa BK106.out 0).trans rfl
              have hcz57_1 : wc.cell? ⟨gb106, 1, none⟩ = some (.int .i64 a0_1) := (Zaa BK106.out 1).trans rfl
              have hcz57_2 : wc.cell? ⟨gb106, 2, none⟩ = some (.int .i64 a0_2) := (Zaa BK106.out 2).trans rfl
              have hcz57_3 : wc.cell? ⟨gb106, 3, none⟩ = some (.slice A0_3 l0_3.length c0_3) := (Zaa BK106.out 3).trans rfl
              have hcz57_4 : wc.cell? ⟨gb106, 4, none⟩ = some (.string a0_4) := (Zaa BK106.out 4).trans rfl
              have hcz57_5 : wc.cell? ⟨gb106, 5, none⟩ = some (.string a0_5) := (Zaa BK106.out 5).trans rfl
              have hfz57_0 := Zad BK106.out 0
              have hfz57_1 := Zad BK106.out 1
              have hfz57_2 := Zad BK106.out 2
              have hfz57_3 := Zad BK106.out 3
              have hfz57_4 := Zad BK106.out 4
              have hfz57_5 := Zad BK106.out 5
              go_wp2_with (first | (go_at_call 57; (with_reducible refine (Zat.calls kj11 _ _ l0_3 false _ ?side1 ?side2 A47.out).mono ?_); (case side1 => repeat (first | exact (Kd.C_below HR0_3.out HB.out) | (with_reducible refine Kd.C_alloc ?_ _) | (with_reducible refine Kd.C_drewN ?_ _) | (with_reducible refine Kd.C_drew ?_))); (case side2 => exact HC0_3.out); rintro e w58 ⟨rfl, hb⟩; have n0_ := Aside0.mk (Zag (g := gb106) (o := .cells #[.int .i64 a0_0, .int .i64 a0_1, .int .i64 a0_2, .slice A0_3 l0_3.length c0_3, .string a0_4, .string a0_5] 66 (0, 0)) (by (with_reducible repeat (first | refine Zao ?_ _ | refine Zaq ?_ | refine Zan ?_ _)); exact BK106.out) hb); have n1_ := Aside0.mk (Zae (by repeat (first | (with_reducible first | exact HB.out | apply Zab | apply Zac | apply Zaf | refine Zaj ?_ GE106.out) | exact HB.out)) hb); clear BK106; clear HB; have BK106 := n0_; have HB := n1_; clear n0_ n1_; (try clear hb); (try clear hb2); (try clear hk); (try clear hi)))
              repeat (go_quiet (first | (go_at_call 57; (with_reducible refine (Zat.calls kj11 _ _ l0_3 false _ ?side1 ?side2 A47.out).mono ?_); (case side1 => repeat (first | exact (Kd.C_below HR0_3.out HB.out) | (with_reducible refine Kd.C_alloc ?_ _) | (with_reducible refine Kd.C_drewN ?_ _) | (with_reducible refine Kd.C_drew ?_))); (case side2 => exact HC0_3.out); rintro e w58 ⟨rfl, hb⟩; have n0_ := Aside0.mk (Zag (g := gb106) (o := .cells #[.int .i64 a0_0, .int .i64 a0_1, .int .i64 a0_2, .slice A0_3 l0_3.length c0_3, .string a0_4, .string a0_5] 66 (0, 0)) (by (with_reducible repeat (first | refine Zao ?_ _ | refine Zaq ?_ | refine Zan ?_ _)); exact BK106.out) hb); have n1_ := Aside0.mk (Zae (by repeat (first | (with_reducible first | exact HB.out | apply Zab | apply Zac | apply Zaf | refine Zaj ?_ GE106.out) | exact HB.out)) hb); clear BK106; clear HB; have BK106 := n0_; have HB := n1_; clear n0_ n1_; (try clear hb); (try clear hb2); (try clear hk); (try clear hi))); try go_wp2_with (first | (go_at_call 57; (with_reducible refine (Zat.calls kj11 _ _ l0_3 false _ ?side1 ?side2 A47.out).mono ?_); (case side1 => repeat (first | exact (Kd.C_below HR0_3.out HB.out) | (with_reducible refine Kd.C_alloc ?_ _) | (with_reducible refine Kd.C_drewN ?_ _) | (with_reducible refine Kd.C_drew ?_))); (case side2 => exact HC0_3.out); rintro e w58 ⟨rfl, hb⟩; have n0_ := Aside0.mk (Zag (g := gb106) (o := .cells #[.int .i64 a0_0, .int .i64 a0_1, .int .i64 a0_2, .slice A0_3 l0_3.length c0_3, .string a0_4, .string a0_5] 66 (0, 0)) (by (with_reducible repeat (first | refine Zao ?_ _ | refine Zaq ?_ | refine Zan ?_ _)); exact BK106.out) hb); have n1_ := Aside0.mk (Zae (by repeat (first | (with_reducible first | exact HB.out | apply Zab | apply Zac | apply Zaf | refine Zaj ?_ GE106.out) | exact HB.out)) hb); clear BK106; clear HB; have BK106 := n0_; have HB := n1_; clear n0_ n1_; (try clear hb); (try clear hb2); (try clear hk); (try clear hi))))
              go_meet
              case rel => exact ⟨_, (true), (by first | rfl | (simp; done) | (simp [*]; done)), H', ⟨by have := HJ1.out; have := HJ11.out; first | omega | exact Nat.le_refl _⟩, ⟨by (with_reducible repeat (first | refine Zao ?_ _ | refine Zaq ?_ | refine Zan ?_ _)); exact BK106.out⟩, ⟨by repeat (first | (with_reducible first | exact HB.out | apply Zab | apply Zac | apply Zaf | refine Zaj ?_ GE106.out) | exact HB.out)⟩⟩
           ·rw [if_neg c31] at H
            have c31b0 : (a0_5.toList == ([] : List UInt8)) = false := beq_eq_false_iff_ne.mpr c31
            have c31b1 : (a0_5.toList != ([] : List UInt8)) = true := bne_iff_ne.mpr c31
            have H' := Aside0.mk H
            clear H
            have hcz59_0 : wc.cell? ⟨gb106, 0, none⟩ = some (.int .i64 a0_0) := (Zaa BK106.out 0).trans rfl
            have hcz59_1 : wc.cell? ⟨gb106, 1, none⟩ = some (.int .i64 a0_1) := (Zaa BK106.out 1).trans rfl
            have hcz59_2 : wc.cell? ⟨gb106, 2, none⟩ = some (.int .i64 a0_2) := (Zaa BK106.out 2).trans rfl
            have hcz59_3 : wc.cell? ⟨gb106, 3, none⟩ = some (.slice A0_3 l0_3.length c0_3) := (Zaa BK106.out 3).trans rfl
            have hcz59_4 : wc.cell? ⟨gb106, 4, none⟩ = some (.string a0_4) := (Zaa BK106.out 4).trans rfl
            have hcz59_5 : wc.cell? ⟨gb106, 5, none⟩ = some (.string a0_5) := (Zaa BK106.out 5).trans rfl
            have hfz59_0 := Zad BK106.out 0
            have hfz59_1 := Zad BK106.out 1
            have hfz59_2 := Zad BK106.out 2
            have hfz59_3 := Zad BK106.out 3
            have hfz59_4 := Zad BK106.out 4
            have hfz59_5 := Zad BK106.out 5
            go_wp2
            repeat (go_quiet (fail); try go_wp2)
            go_meet
            case rel => exact ⟨_, (true), (by first | rfl | (simp; done) | (simp [*]; done)), H', ⟨by have := HJ1.out; have := HJ11.out; first | omega | exact Nat.le_refl _⟩, ⟨by (with_reducible repeat (first | refine Zao ?_ _ | refine Zaq ?_ | refine Zan ?_ _)); exact BK106.out⟩, ⟨by repeat (first | (with_reducible first | exact HB.out | apply Zab | apply Zac | apply Zaf | refine Zaj ?_ GE106.out) | exact HB.out)⟩⟩
        case rest =>
         clear HC25
         try clear c1
         try clear c2
         try clear p2
         try clear c3
         try clear c4
         try clear c4b0
         try clear c6
         try clear c6b0
         try clear c8
         try clear c8b0
         try clear c11
         try clear c13
         try clear c13b0
         try clear c16
         try clear c17
         try clear c17b0
         try clear c17b1
         try clear c18
         try clear c18b0
         try clear c18b1
         try clear c20
         try clear c20b0
         try clear c20b1
         try clear c21
         try clear c21b0
         try clear c21b1
         try clear c27
         try clear c27b0
         try clear c27b1
         try clear c29
         try clear c29b0
         try clear c29b1
         try clear c31
         try clear c31b0
         try clear c31b1
         try clear c32
         try clear c32b0
         try clear c32b1
         try clear c33
         try clear c33b0
         try clear c33b1
         try clear c35
         try clear c36
         try clear c36b0
         try clear c36b1
         try clear c48
         try clear c49
         try clear c49b0
         try clear c49b1
         try clear hcz10_0
         try clear hcz10_1
         try clear hcz10_2
         try clear hcz10_3
         try clear hcz10_4
         try clear hcz10_5
         try clear hcz14_0
         try clear hcz14_1
         try clear hcz14_2
         try clear hcz14_3
         try clear hcz14_4
         try clear hcz14_5
         try clear hcz15_0
         try clear hcz15_1
         try clear hcz15_2
         try clear hcz15_3
         try clear hcz15_4
         try clear hcz15_5
         try clear hcz19_0
         try clear hcz19_1
         try clear hcz19_2
         try clear hcz19_3
         try clear hcz19_4
         try clear hcz19_5
         try clear hcz22_0
         try clear hcz22_1
         try clear hcz22_2
         try clear hcz22_3
         try clear hcz22_4
         try clear hcz22_5
         try clear hcz23_0
         try clear hcz23_1
         try clear hcz23_2
         try clear hcz23_3
         try clear hcz23_4
         try clear hcz23_5
         try clear hcz24_0
         try clear hcz24_1
         try clear hcz24_2
         try clear hcz24_3
         try clear hcz24_4
         try clear hcz24_5
         try clear hcz26_0
         try clear hcz26_1
         try clear hcz26_2
         try clear hcz26_3
         try clear hcz26_4
         try clear hcz26_5
         try clear hcz28_0
         try clear hcz28_1
         try clear hcz28_2
         try clear hcz28_3
         try clear hcz28_4
         try clear hcz28_5
         try clear hcz30_0
         try clear hcz30_1
         try clear hcz30_2
         try clear hcz30_3
         try clear hcz30_4
         try clear hcz30_5
         try clear hcz38_0
         try clear hcz38_1
         try clear hcz38_2
         try clear hcz38_3
         try clear hcz38_4
         try clear hcz38_5
         try clear hcz40_0
         try clear hcz40_1
         try clear hcz40_2
         try clear hcz40_3
         try clear hcz40_4
         try clear hcz40_5
         try clear hcz41_0
         try clear hcz41_1
         try clear hcz41_2
         try clear hcz41_3
         try clear hcz41_4
         try clear hcz41_5
         try clear hcz43_0
         try clear hcz43_1
         try clear hcz43_2
         try clear hcz43_3
         try clear hcz43_4
         try clear hcz43_5
         try clear hcz44_0
         try clear hcz44_1
         try clear hcz44_2
         try clear hcz44_3
         try clear hcz44_4
         try clear hcz44_5
         try clear hcz46_0
         try clear hcz46_1
         try clear hcz46_2
         try clear hcz46_3
         try clear hcz46_4
         try clear hcz46_5
         try clear hcz51_0
         try clear hcz51_1
         try clear hcz51_2
         try clear hcz51_3
         try clear hcz51_4
         try clear hcz51_5
         try clear hcz53_0
         try clear hcz53_1
         try clear hcz53_2
         try clear hcz53_3
         try clear hcz53_4
         try clear hcz53_5
         try clear hcz54_0
         try clear hcz54_1
         try clear hcz54_2
         try clear hcz54_3
         try clear hcz54_4
         try clear hcz54_5
         try clear hcz56_0
         try clear hcz56_1
         try clear hcz56_2
         try clear hcz56_3
         try clear hcz56_4
         try clear hcz56_5
         try clear hcz57_0
         try clear hcz57_1
         try clear hcz57_2
         try clear hcz57_3
         try clear hcz57_4
         try clear hcz57_5
         try clear hcz59_0
         try clear hcz59_1
         try clear hcz59_2
         try clear hcz59_3
         try clear hcz59_4
         try clear hcz59_5
         try clear hcz5_0
         try clear hcz5_1
         try clear hcz5_2
         try clear hcz5_3
         try clear hcz5_4
         try clear hcz5_5
         try clear hcz7_0
         try clear hcz7_1
         try clear hcz7_2
         try clear hcz7_3
         try clear hcz7_4
         try clear hcz7_5
         try clear hcz9_0
         try clear hcz9_1
         try clear hcz9_2
         try clear hcz9_3
         try clear hcz9_4
         try clear hcz9_5
         try clear hfz10_0
         try clear hfz10_1
         try clear hfz10_2
         try clear hfz10_3
         try clear hfz10_4
         try clear hfz10_5
         try clear hfz14_0
         try clear hfz14_1
         try clear hfz14_2
         try clear hfz14_3
         try clear hfz14_4
         try clear hfz14_5
         try clear hfz15_0
         try clear hfz15_1
         try clear hfz15_2
         try clear hfz15_3
         try clear hfz15_4
         try clear hfz15_5
         try clear hfz19_0
         try clear hfz19_1
         try clear hfz19_2
         try clear hfz19_3
         try clear hfz19_4
         try clear hfz19_5
         try clear hfz22_0
         try clear hfz22_1
         try clear hfz22_2
         try clear hfz22_3
         try clear hfz22_4
         try clear hfz22_5
         try clear hfz23_0
         try clear hfz23_1
         try clear hfz23_2
         try clear hfz23_3
         try clear hfz23_4
         try clear hfz23_5
         try clear hfz24_0
         try clear hfz24_1
         try clear hfz24_2
         try clear hfz24_3
         try clear hfz24_4
         try clear hfz24_5
         try clear hfz26_0
         try clear hfz26_1
         try clear hfz26_2
         try clear hfz26_3
         try clear hfz26_4
         try clear hfz26_5
         try clear hfz28_0
         try clear hfz28_1
         try clear hfz28_2
         try clear hfz28_3
         try clear hfz28_4
         try clear hfz28_5
         try clear hfz30_0
         try clear hfz30_1
         try clear hfz30_2
         try clear hfz30_3
         try clear hfz30_4
         try clear hfz30_5
         try clear hfz38_0
         try clear hfz38_1
         try clear hfz38_2
         try clear hfz38_3
         try clear hfz38_4
         try clear hfz38_5
         try clear hfz40_0
         try clear hfz40_1
         try clear hfz40_2
         try clear hfz40_3
         try clear hfz40_4
         try clear hfz40_5
         try clear hfz41_0
         try clear hfz41_1
         try clear hfz41_2
         try clear hfz41_3
         try clear hfz41_4
         try clear hfz41_5
         try clear hfz43_0
         try clear hfz43_1
         try clear hfz43_2
         try clear hfz43_3
         try clear hfz43_4
         try clear hfz43_5
         try clear hfz44_0
         try clear hfz44_1
         try clear hfz44_2
         try clear hfz44_3
         try clear hfz44_4
         try clear hfz44_5
         try clear hfz46_0
         try clear hfz46_1
         try clear hfz46_2
         try clear hfz46_3
         try clear hfz46_4
         try clear hfz46_5
         try clear hfz51_0
         try clear hfz51_1
         try clear hfz51_2
         try clear hfz51_3
         try clear hfz51_4
         try clear hfz51_5
         try clear hfz53_0
         try clear hfz53_1
         try clear hfz53_2
         try clear hfz53_3
         try clear hfz53_4
         try clear hfz53_5
         try clear hfz54_0
         try clear hfz54_1
         try clear hfz54_2
         try clear hfz54_3
         try clear hfz54_4
         try clear hfz54_5
         try clear hfz56_0
         try clear hfz56_1
         try clear hfz56_2
         try clear hfz56_3
         try clear hfz56_4
         try clear hfz56_5
         try clear hfz57_0
         try clear hfz57_1
         try clear hfz57_2
         try clear hfz57_3
         try clear hfz57_4
         try clear hfz57_5
         try clear hfz59_0
         try clear hfz59_1
         try clear hfz59_2
         try clear hfz59_3
         try clear hfz59_4
         try clear hfz59_5
         try clear hfz5_0
         try clear hfz5_1
         try clear hfz5_2
         try clear hfz5_3
         try clear hfz5_4
         try clear hfz5_5
         try clear hfz7_0
         try clear hfz7_1
         try clear hfz7_2
         try clear hfz7_3
         try clear hfz7_4
         try clear hfz7_5
         try clear hfz9_0
         try clear hfz9_1
         try clear hfz9_2
         try clear hfz9_3
         try clear hfz9_4
         try clear hfz9_5
         try clear p2
         obtain ⟨kq, x88_24, rfl, HA, HJ24, BK106, HB⟩ := hcut
         cases kq with
         | zero => exact absurd HA.out (by simp [Zah.j2])
         | succ kj24 =>
          have H := HA.out
          clear HA
          simp only [Zah.j2] at H
          by_cases c60 : x88_24 = true
          ·subst c60
           have H1 : (some 1) = some r := by rw [if_pos rfl] at H; exact H
           clear H
           have H := H1
           clear H1
           obtain rfl := Option.some.inj H
           go_wp2
           repeat (go_quiet (fail); try go_wp2)
           go_ret
           exact ⟨by first | rfl | (simp [Zal, Zak] <;> rfl) | (simp [*, Zal, Zak] <;> rfl), by repeat (first | (with_reducible first | exact HB.out | apply Zab | apply Zac | apply Zaf | refine Zaj ?_ GE106.out) | exact HB.out)⟩
          ·replace c60 := Bool.eq_false_iff.mpr c60
           subst c60
           have H1 : (if a0_2 = 1 then ((Zar.f kj24 l0_3).bind fun t111 => (if (a0_4.size : Int) = (wrap64 (64 * t111)) then (some 0) else (some 30))) else (some 0)) = some r := by rw [if_neg (show ¬ (false = true) by decide)] at H; exact H
           clear H
           have H := H1
           clear H1
           by_cases c61 : a0_2 = 1
           ·rw [if_pos c61] at H
            have c61b0 : (a0_2 == 1) = true := beq_iff_eq.mpr c61
            have c61b1 : (a0_2 != 1) = false := bne_eq_false_iff_eq.mpr c61
            clear c61
            replace H := Option.bind_eq_some_iff.mp H
            obtain ⟨t111, A620, H⟩ := H
            replace H : (if (a0_4.size : Int) = (wrap64 (64 * t111)) then (some 0) else (some 30)) = some r := H
            have A62 := Aside0.mk A620
            clear A620
            by_cases c63 : (a0_4.size : Int) = (wrap64 (64 * t111))
            ·rw [if_pos c63] at H
             have c63b0 : ((a0_4.size : Int) == (wrap64 (64 * t111))) = true := beq_iff_eq.mpr c63
             have c63b1 : ((a0_4.size : Int) != (wrap64 (64 * t111))) = false := bne_eq_false_iff_eq.mpr c63
             clear c63
             obtain rfl := Option.some.inj H
             have hcz64_0 : wc.cell? ⟨gb106, 0, none⟩ = some (.int .i64 a0_0) := (Zaa BK106.out 0).trans rfl
             have hcz64_1 : wc.cell? ⟨gb106, 1, none⟩ = some (.int .i64 a0_1) := (Zaa BK106.out 1).trans rfl
             have hcz64_2 : wc.cell? ⟨gb106, 2, none⟩ = some (.int .i64 a0_2) := (Zaa BK106.out 2).trans rfl
             have hcz64_3 : wc.cell? ⟨gb106, 3, none⟩ = some (.slice A0_3 l0_3.length c0_3) := (Zaa BK106.out 3).trans rfl
             have hcz64_4 : wc.cell? ⟨gb106, 4, none⟩ = some (.string a0_4) := (Zaa BK106.out 4).trans rfl
             have hcz64_5 : wc.cell? ⟨gb106, 5, none⟩ = some (.string a0_5) := (Zaa BK106.out 5).trans rfl
             have hfz64_0 := Zad BK106.out 0
             have hfz64_1 := Zad BK106.out 1
             have hfz64_2 := Zad BK106.out 2
             have hfz64_3 := Zad BK106.out 3
             have hfz64_4 := Zad BK106.out 4
             have hfz64_5 := Zad BK106.out 5
             go_wp2_with (first | (go_at_call 23; (with_reducible refine (Zar.calls kj24 _ _ l0_3 t111 _ ?side1 ?side2 A62.out).mono ?_); (case side1 => repeat (first | exact (Kd.C_below HR0_3.out HB.out) | (with_reducible refine Kd.C_alloc ?_ _) | (with_reducible refine Kd.C_drewN ?_ _) | (with_reducible refine Kd.C_drew ?_))); (case side2 => exact HC0_3.out); rintro e w' ⟨rfl, ⟨nd, rfl⟩⟩; (try first | exact ⟨rfl, _, World.drewN_drewN _ _ _⟩ | exact ⟨rfl, _, Eq.trans (World.drewN_drewN _ _ _) (congrArg (World.drewN _) (Nat.add_assoc _ _ _))⟩)))
             repeat (go_quiet (first | (go_at_call 23; (with_reducible refine (Zar.calls kj24 _ _ l0_3 t111 _ ?side1 ?side2 A62.out).mono ?_); (case side1 => repeat (first | exact (Kd.C_below HR0_3.out HB.out) | (with_reducible refine Kd.C_alloc ?_ _) | (with_reducible refine Kd.C_drewN ?_ _) | (with_reducible refine Kd.C_drew ?_))); (case side2 => exact HC0_3.out); rintro e w' ⟨rfl, ⟨nd, rfl⟩⟩; (try first | exact ⟨rfl, _, World.drewN_drewN _ _ _⟩ | exact ⟨rfl, _, Eq.trans (World.drewN_drewN _ _ _) (congrArg (World.drewN _) (Nat.add_assoc _ _ _))⟩))); try go_wp2_with (first | (go_at_call 23; (with_reducible refine (Zar.calls kj24 _ _ l0_3 t111 _ ?side1 ?side2 A62.out).mono ?_); (case side1 => repeat (first | exact (Kd.C_below HR0_3.out HB.out) | (with_reducible refine Kd.C_alloc ?_ _) | (with_reducible refine Kd.C_drewN ?_ _) | (with_reducible refine Kd.C_drew ?_))); (case side2 => exact HC0_3.out); rintro e w' ⟨rfl, ⟨nd, rfl⟩⟩; (try first | exact ⟨rfl, _, World.drewN_drewN _ _ _⟩ | exact ⟨rfl, _, Eq.trans (World.drewN_drewN _ _ _) (congrArg (World.drewN _) (Nat.add_assoc _ _ _))⟩))))
             go_ret
             exact ⟨by first | rfl | (simp [Zal, Zak] <;> rfl) | (simp [*, Zal, Zak] <;> rfl), by repeat (first | (with_reducible first | exact HB.out | apply Zab | apply Zac | apply Zaf | refine Zaj ?_ GE106.out) | exact HB.out)⟩
            ·rw [if_neg c63] at H
             have c63b0 : ((a0_4.size : Int) == (wrap64 (64 * t111))) = false := beq_eq_false_iff_ne.mpr c63
             have c63b1 : ((a0_4.size : Int) != (wrap64 (64 * t111))) = true := bne_iff_ne.mpr c63
             obtain rfl := Option.some.inj H
             have hcz65_0 : wc.cell? ⟨gb106, 0, none⟩ = some (.int .i64 a0_0) := (Zaa BK106.out 0).trans rfl
             have hcz65_1 : wc.cell? ⟨gb106, 1, none⟩ = some (.int .i64 a0_1) := (Zaa BK106.out 1).trans rfl
             have hcz65_2 : wc.cell? ⟨gb106, 2, none⟩ = some (.int .i64 a0_2) := (Zaa BK106.out 2).trans rfl
             have hcz65_3 : wc.cell? ⟨gb106, 3, none⟩ = some (.slice A0_3 l0_3.length c0_3) := (Zaa BK106.out 3).trans rfl
             have hcz65_4 : wc.cell? ⟨gb106, 4, none⟩ = some (.string a0_4) := (Zaa BK106.out 4).trans rfl
             have hcz65_5 : wc.cell? ⟨gb106, 5, none⟩ = some (.string a0_5) := (Zaa BK106.out 5).trans rfl
             have hfz65_0 := Zad BK106.out 0
             have hfz65_1 := Zad BK106.out 1
             have hfz65_2 := Zad BK106.out 2
             have hfz65_3 := Zad BK106.out 3
             have hfz65_4 := Zad BK106.out 4
             have hfz65_5 := Zad BK106.out 5
             go_wp2_with (first | (go_at_call 23; (with_reducible refine (Zar.calls kj24 _ _ l0_3 t111 _ ?side1 ?side2 A62.out).mono ?_); (case side1 => repeat (first | exact (Kd.C_below HR0_3.out HB.out) | (with_reducible refine Kd.C_alloc ?_ _) | (with_reducible refine Kd.C_drewN ?_ _) | (with_reducible refine Kd.C_drew ?_))); (case side2 => exact HC0_3.out); rintro e w' ⟨rfl, ⟨nd, rfl⟩⟩; (try first | exact ⟨rfl, _, World.drewN_drewN _ _ _⟩ | exact ⟨rfl, _, Eq.trans (World.drewN_drewN _ _ _) (congrArg (World.drewN _) (Nat.add_assoc _ _ _))⟩)))
             repeat (go_quiet (first | (go_at_call 23; (with_reducible refine (Zar.calls kj24 _ _ l0_3 t111 _ ?side1 ?side2 A62.out).mono ?_); (case side1 => repeat (first | exact (Kd.C_below HR0_3.out HB.out) | (with_reducible refine Kd.C_alloc ?_ _) | (with_reducible refine Kd.C_drewN ?_ _) | (with_reducible refine Kd.C_drew ?_))); (case side2 => exact HC0_3.out); rintro e w' ⟨rfl, ⟨nd, rfl⟩⟩; (try first | exact ⟨rfl, _, World.drewN_drewN _ _ _⟩ | exact ⟨rfl, _, Eq.trans (World.drewN_drewN _ _ _) (congrArg (World.drewN _) (Nat.add_assoc _ _ _))⟩))); try go_wp2_with (first | (go_at_call 23; (with_reducible refine (Zar.calls kj24 _ _ l0_3 t111 _ ?side1 ?side2 A62.out).mono ?_); (case side1 => repeat (first | exact (Kd.C_below HR0_3.out HB.out) | (with_reducible refine Kd.C_alloc ?_ _) | (with_reducible refine Kd.C_drewN ?_ _) | (with_reducible refine Kd.C_drew ?_))); (case side2 => exact HC0_3.out); rintro e w' ⟨rfl, ⟨nd, rfl⟩⟩; (try first | exact ⟨rfl, _, World.drewN_drewN _ _ _⟩ | exact ⟨rfl, _, Eq.trans (World.drewN_drewN _ _ _) (congrArg (World.drewN _) (Nat.add_assoc _ _ _))⟩))))
             go_ret
             exact ⟨by first | rfl | (simp [Zal, Zak] <;> rfl) | (simp [*, Zal, Zak] <;> rfl), by repeat (first | (with_reducible first | exact HB.out | apply Zab | apply Zac | apply Zaf | refine Zaj ?_ GE106.out) | exact HB.out)⟩
           ·rw [if_neg c61] at H
            have c61b0 : (a0_2 == 1) = false := beq_eq_false_iff_ne.mpr c61
            have c61b1 : (a0_2 != 1) = true := bne_iff_ne.mpr c61
            obtain rfl := Option.some.inj H
            have hcz66_0 : wc.cell? ⟨gb106, 0, none⟩ = some (.int .i64 a0_0) := (Zaa BK106.out 0).trans rfl
            have hcz66_1 : wc.cell? ⟨gb106, 1, none⟩ = some (.int .i64 a0_1) := (Zaa BK106.out 1).trans rfl
            have hcz66_2 : wc.cell? ⟨gb106, 2, none⟩ = some (.int .i64 a0_2) := (Zaa BK106.out 2).trans rfl
            have hcz66_3 : wc.cell? ⟨gb106, 3, none⟩ = some (.slice A0_3 l0_3.length c0_3) := (Zaa BK106.out 3).trans rfl
            have hcz66_4 : wc.cell? ⟨gb106, 4, none⟩ = some (.string a0_4) := (Zaa BK106.out 4).trans rfl
            have hcz66_5 : wc.cell? ⟨gb106, 5, none⟩ = some (.string a0_5) := (Zaa BK106.out 5).trans rfl
            have hfz66_0 := Zad BK106.out 0
            have hfz66_1 := Zad BK106.out 1
            have hfz66_2 := Zad BK106.out 2
            have hfz66_3 := Zad BK106.out 3
            have hfz66_4 := Zad BK106.out 4
            have hfz66_5 := Zad BK106.out 5
            go_wp2
            repeat (go_quiet (fail); try go_wp2)
            go_ret
            exact ⟨by first | rfl | (simp [Zal, Zak] <;> rfl) | (simp [*, Zal, Zak] <;> rfl), by repeat (first | (with_reducible first | exact HB.out | apply Zab | apply Zac | apply Zaf | refine Zaj ?_ GE106.out) | exact HB.out)⟩
end Go.Proofs.YtpfnaknmalojkaaGreat.PTopRows
