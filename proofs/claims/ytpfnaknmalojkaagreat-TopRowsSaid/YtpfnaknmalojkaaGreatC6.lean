/- YtpfnaknmalojkaaGreatC6: what this claim rests on. Words and contracts are those of the kit's print (print.sh wrote them, those that nothing here reaches are left out); all else is own work. Conditions: what each theorem says. -/
import Derived.Test.YtpfnaknmalojkaaGreatC5
import Derived.WalkMore
import Derived.StillTailTactics
import Derived.Shelf.Lays8
import Derived.Test.YtpfnaknmalojkaaGreatProg
import Derived.Shelf.Spec.SlicesGrow
import Derived.StillTail
namespace Go.Proofs.YtpfnaknmalojkaaGreat.PTopRows
open Go.RowKit Go.Maps Go.Sort Go.Proofs.YtpfnaknmalojkaaGreatW.PrintWords Go.Proofs.YtpfnaknmalojkaaGreatW.PrintLast Go.Proofs.YtpfnaknmalojkaaGreatW.PrintMore
set_option linter.unusedVariables false
set_option linter.unusedSimpArgs false
def ApartS (a b : List S70) : Prop := ∀ x ∈ a, ∀ y ∈ b, endS y ≤ x.f0 ∨ endS x ≤ y.f0
theorem ZcV (a b : Int) (h : 0 ≤ a ∧ a ≤ 1000000 ∧ 0 ≤ b ∧ b ≤ 1000000) (w : World) : Calls Tryz.prog 178 #[.int .i64 a, .int .i64 b] w fun e w' => e = .returned (.agg #[.int .i64 a, .int .i64 (b - a)]) ∧ Below w.heap.size w w' :=
 ZbQ.calls a b _ _ w (by unfold ZbQ.f; rw [ZaH _ (by omega)])
set_option maxRecDepth 100000 in
set_option maxHeartbeats 4000000 in
theorem less_apart (A : Option Addr) (c : Nat) (l : List S70) (B : Option Addr) (d : Nat) (m : List S70) (w : World) (hr : Kd.C k70 w A l.length l) (hrm : Kd.C k70 w B m.length m) (hl : l.length ≤ 100000) (hl2 : m.length ≤ 100000) (hm : ∀ x ∈ l, MayS x) (hm2 : ∀ x ∈ m, MayS x) (ha : ApartS l m) :
  Calls Tryz.prog 146 #[.slice A l.length c, .slice B m.length d] w fun e w' => ∃ v, e = .returned v ∧ k70.R 70 w' w.heap.size (fun _ => True) v l ∧ Below w.heap.size w w' := by
 have hu38 := Tryz.underlying38
 have hu70 := Tryz.underlying70
 have HR := Aside0.mk hr
 have HR2 := Aside0.mk hrm
 have HM := Aside0.mk hm
 have HM2 := Aside0.mk hm2
 have HA := Aside0.mk ha
 clear hr hrm hm hm2 ha
 go_enter Tryz.func146, Tryz.ntmps146
 go_wp2_with (fail)
 go_loopg [5, 6, 13] l.length (fun kx v5 v6 v13 wr => ∃ i k : Nat, v13 = .int .i64 (i : Int) ∧ v6 = .int .i64 (k : Int) ∧ i ≤ l.length ∧ k ≤ m.length ∧ l.length - i ≤ kx ∧ Aside0 (k70.R 70 wr w.heap.size (fun _ => True) v5 (l.take i)) ∧ Aside0 (Below w.heap.size w wr))
 case atStart => exact ⟨0, 0, rfl, rfl, Nat.zero_le _, Nat.zero_le _, by omega, ⟨Kd.R_nil _ _ _ _ _⟩, ⟨Below.refl _ _⟩⟩
 case round =>
  obtain ⟨i, k, rfl, rfl, hi, hk, hik, HO, HB⟩ := hrel
  obtain ⟨gq, hgq⟩ : ∃ gq, gq = gk := ⟨_, rfl⟩
  subst hgq
  have hlen : (l.take i).length = i := by rw [List.length_take]; omega
  have hln : (l.take i).length ≤ 1000000 := by omega
  obtain ⟨A5, c5, rfl, -, -⟩ := Kd.R_reads HO.out
  rw [hlen] at HO ⊢
  by_cases hlt : i < l.length
  ·have hi1 : i + 1 ≤ l.length := hlt
   obtain ⟨ad, rfl, h0, h1⟩ := cells70 (Kd.C_below HR.out HB.out) i hlt
   have hts := ZaM hlt
   have hmx := HM.out l[i] (List.getElem_mem hlt)
   have hax := HA.out l[i] (List.getElem_mem hlt)
   as_aux_lemma =>
    generalize l[i] = x at h0 h1 hts hmx hax
    obtain ⟨x0, x1⟩ := x
    simp only at h0 h1
    have HTS := Aside0.mk hts
    have HX := Aside0.mk hmx
    have HAX := Aside0.mk hax
    clear hts hmx hax
    go_wp2_with (fail)
    have HB1 := Aside0.mk (Zab HB.out (.cells #[.int .i64 x0, .int .i64 x1] 70))
    have HN := Aside0.mk (Zas wr (.cells #[.int .i64 x0, .int .i64 x1] 70))
    have HO1 := Aside0.mk (Kd.R_alloc HO.out (.cells #[.int .i64 x0, .int .i64 x1] 70))
    clear h0 h1
    generalize hgs : wr.heap.size = gs at HN ⊢
    have HGS := Aside0.mk hgs
    clear hgs
    generalize wr.alloc (.cells #[.int .i64 x0, .int .i64 x1] 70) = w1 at HB1 HN HO1 ⊢
    have n0 : w1.cell? ⟨gs, 0, none⟩ = some (.int .i64 x0) := (Zaa HN.out 0).trans rfl
    have n1 : w1.cell? ⟨gs, 1, none⟩ = some (.int .i64 x1) := (Zaa HN.out 1).trans rfl
    go_step3
    go_wp2_with (fail)
    go_step3
    go_wp2_with (fail)
    go_loopg [5, 6, 9] m.length (fun kx v5 v6 v9 wr => ∃ k : Nat, v5 = .slice A5 i c5 ∧ v6 = .int .i64 (k : Int) ∧ v9 = .int .i64 x0 ∧ k ≤ m.length ∧ m.length - k ≤ kx ∧ Aside0 (Below w1.heap.size w1 wr))
    case atStart => exact ⟨k, rfl, rfl, rfl, hk, by omega, ⟨Below.refl _ _⟩⟩
    case round =>
     clear hk n0 n1
     obtain ⟨k, rfl, rfl, rfl, hk, hkk, HB2⟩ := hrel
     by_cases hltk : k < m.length
     ·obtain ⟨ad2, rfl, y0c, y1c⟩ := cells70 (Kd.C_below HR2.out (Zae HB1.out HB2.out)) k hltk
      have hk1 : k + 1 ≤ m.length := hltk
      have hmy := HM2.out m[k] (List.getElem_mem hltk)
      have hay := HAX.out m[k] (List.getElem_mem hltk)
      generalize m[k] = y at y0c y1c hmy hay
      obtain ⟨y0, y1⟩ := y
      simp only [endS] at y0c y1c hay
      have HY := Aside0.mk hmy
      have hx8 := HX.out
      unfold MayS at hx8 hmy
      simp only at hx8 hmy
      have hd8 : decide (k < m.length) = true := decide_eq_true hltk
      have hwx : IntKind.i64.wrap (x0 + x1) = x0 + x1 := IntWalk.i64_in _ (by omega)
      have m0 : wr.cell? ⟨gs, 0, none⟩ = some (.int .i64 x0) := Zam HB2.out ((Zaa HN.out 0).trans rfl)
      have m1 : wr.cell? ⟨gs, 1, none⟩ = some (.int .i64 x1) := Zam HB2.out ((Zaa HN.out 1).trans rfl)
      have hEx := fun W => ZaN x0 x1 HX.out W
      have hEy := fun W => ZaN y0 y1 HY.out W
      have ba := Zab (Below.refl _ wr) (.cells #[.int .i64 y0, .int .i64 y1] 70)
      have p0 := Zap (Zam ba m0)
      have p1 := Zap (Zam ba m1)
      have p2 := Zap ((Zaa (Zas wr (.cells #[.int .i64 y0, .int .i64 y1] 70)) 0).trans rfl)
      have p3 := Zap ((Zaa (Zas wr (.cells #[.int .i64 y0, .int .i64 y1] 70)) 1).trans rfl)
      clear ba
      by_cases hq : y0 ≥ x0 + x1
      ·have hdq : decide (y0 ≥ x0 + x1) = true := decide_eq_true hq
       clear hq hay hmy
       as_aux_lemma =>
        go_wp2_with (fail)
        refine Zav (by kernel_rfl) (by kernel_rfl) ?_
        repeat (refine WQ.step (fun K hK => ?_); go_simp; first | (refine hK _ ?_; clear hK K) | (apply Exists.intro; refine ⟨fun _ => ?_, hK _ ?_⟩; (go_at_call 24; exact abv_of (hEx _)); clear hK K))
        refine WQ.nil ?_
        rintro w5 ⟨⟨w5', hb5⟩, rfl⟩
        clear p0 p1 p2 p3 hEx hEy hdq hwx hd8 y0c y1c m0 m1
        have HB2' := Aside0.mk (Zae (Zab HB2.out (.cells #[.int .i64 y0, .int .i64 y1] 70)) hb5)
        clear HB2 hb5
        have HB2 := HB2'
        clear HB2'
        have HB3 := Aside0.mk (Zae HB1.out HB2.out)
        have n0 : w5.cell? ⟨gs, 0, none⟩ = some (.int .i64 x0) := Zam HB2.out ((Zaa HN.out 0).trans rfl)
        have n1 : w5.cell? ⟨gs, 1, none⟩ = some (.int .i64 x1) := Zam HB2.out ((Zaa HN.out 1).trans rfl)
        have HO3 := Aside0.mk (Kd.R_below HO1.out HB2.out)
        have hE := fun W => ZaN x0 x1 HX.out W
        have hx9 := HX.out
        unfold MayS at hx9
        simp only at hx9
        have hw9 : IntKind.i64.wrap (x0 + x1) = x0 + x1 := IntWalk.i64_in _ (by omega)
        have hd9 : decide (x0 < x0 + x1) = true := decide_eq_true (by omega)
        have hBt := fun W => ZcV x0 (x0 + x1) (by omega) W
        have e9 : x0 + x1 - x0 = x1 := by omega
        rw [e9] at hBt
        clear HB2 HO1 HN e9
        go_wp2_with (fail)
        refine (hE _).mono ?_
        rintro e w4 ⟨rfl, hb4⟩
        have n0' := Zam hb4 n0
        have n1' := Zam hb4 n1
        go_wp2_with (fail)
        refine (hE _).mono ?_
        rintro e w5' ⟨rfl, hb5⟩
        go_wp2_with (fail)
        refine (hBt _).mono ?_
        rintro e w6 ⟨rfl, hb6⟩
        have HB6 := Aside0.mk (Zae (Zae (Zae HB3.out hb4) hb5) hb6)
        have HO6 := Aside0.mk (Kd.R_below (Kd.R_below (Kd.R_below HO3.out hb4) hb5) hb6)
        have HBS := Aside0.mk HB6.out.size
        clear HB3 HO3 hb4 hb5 hb6 n0 n1 n0' n1' hBt hE hd9 hw9
        go_wp2_with (at_builtin; refine app70 rfl _ _ rfl _ _ ⟨x0, x1⟩ rfl rfl HO6.out HBS.out hln ?_; intro v1 w7 ho hb hg)
        simp only [Exit.noGoto_normal]
        go_wp2_with (fail)
        go_roundg (gq - 1)
        case measure => omega
        case rel => exact ⟨i + 1, k, by go_num, rfl, hi1, hk, by omega, ⟨by rw [← HTS.out]; exact ho⟩, ⟨HB6.out.trans hb⟩⟩
      ·have hdq : decide (y0 ≥ x0 + x1) = false := decide_eq_false hq
       have hyx : y0 + y1 ≤ x0 := by omega
       have hdl : decide (y0 + y1 ≤ x0) = true := decide_eq_true hyx
       clear hq hay hmy hyx
       as_aux_lemma =>
        go_wp2_with (fail)
        refine Zav (by kernel_rfl) (by kernel_rfl) ?_
        repeat (refine WQ.step (fun K hK => ?_); go_simp; first | (refine hK _ ?_; clear hK K) | (apply Exists.intro; refine ⟨fun _ => ?_, hK _ ?_⟩; (go_at_call 24; exact abv_of (hEx _)); clear hK K))
        refine WQ.nil ?_
        rintro w5 ⟨⟨w5', hb5⟩, rfl⟩
        have hbn := Zag (Zas wr (.cells #[.int .i64 y0, .int .i64 y1] 70)) hb5
        have s0 : w5.cell? ⟨wr.heap.size, 0, none⟩ = some (.int .i64 y0) := (Zaa hbn 0).trans rfl
        have s1 : w5.cell? ⟨wr.heap.size, 1, none⟩ = some (.int .i64 y1) := (Zaa hbn 1).trans rfl
        have HB2' := Aside0.mk (Zae (Zab HB2.out (.cells #[.int .i64 y0, .int .i64 y1] 70)) hb5)
        clear p0 p1 p2 p3 hEx hdq hwx y0c y1c m0 m1 hbn hb5 HB2
        go_wp2_with (fail)
        refine (hEy _).mono ?_
        rintro e w7 ⟨rfl, hb7⟩
        go_wp2_with (fail)
        go_roundg (gk - 1)
        case measure => omega
        case rel => exact ⟨k + 1, rfl, by go_num, rfl, hk1, by omega, ⟨Zae HB2'.out hb7⟩⟩
     ·as_aux_lemma =>
       have hd8 : decide (k < m.length) = false := decide_eq_false hltk
       clear hltk
       have HB3 := Aside0.mk (Zae HB1.out HB2.out)
       have n0 : wr.cell? ⟨gs, 0, none⟩ = some (.int .i64 x0) := Zam HB2.out ((Zaa HN.out 0).trans rfl)
       have n1 : wr.cell? ⟨gs, 1, none⟩ = some (.int .i64 x1) := Zam HB2.out ((Zaa HN.out 1).trans rfl)
       have HO3 := Aside0.mk (Kd.R_below HO1.out HB2.out)
       have hE := fun W => ZaN x0 x1 HX.out W
       have hx9 := HX.out
       unfold MayS at hx9
       simp only at hx9
       have hw9 : IntKind.i64.wrap (x0 + x1) = x0 + x1 := IntWalk.i64_in _ (by omega)
       have hd9 : decide (x0 < x0 + x1) = true := decide_eq_true (by omega)
       have hBt := fun W => ZcV x0 (x0 + x1) (by omega) W
       have e9 : x0 + x1 - x0 = x1 := by omega
       rw [e9] at hBt
       clear HB2 HO1 HN e9
       go_wp2_with (fail)
       refine (hE _).mono ?_
       rintro e w4 ⟨rfl, hb4⟩
       have n0' := Zam hb4 n0
       have n1' := Zam hb4 n1
       go_wp2_with (fail)
       refine (hE _).mono ?_
       rintro e w5 ⟨rfl, hb5⟩
       go_wp2_with (fail)
       refine (hBt _).mono ?_
       rintro e w6 ⟨rfl, hb6⟩
       have HB6 := Aside0.mk (Zae (Zae (Zae HB3.out hb4) hb5) hb6)
       have HO6 := Aside0.mk (Kd.R_below (Kd.R_below (Kd.R_below HO3.out hb4) hb5) hb6)
       have HBS := Aside0.mk HB6.out.size
       clear HB3 HO3 hb4 hb5 hb6 n0 n1 n0' n1' hBt hE hd9 hw9
       go_wp2_with (at_builtin; refine app70 rfl _ _ rfl _ _ ⟨x0, x1⟩ rfl rfl HO6.out HBS.out hln ?_; intro v1 w7 ho hb hg)
       simp only [Exit.noGoto_normal]
       go_wp2_with (fail)
       go_roundg (gq - 1)
       case measure => omega
       case rel => exact ⟨i + 1, k, by go_num, rfl, hi1, hk, by omega, ⟨by rw [← HTS.out]; exact ho⟩, ⟨HB6.out.trans hb⟩⟩
  ·as_aux_lemma =>
    have hil : i = l.length := by omega
    subst hil
    have ho := HO.out
    rw [List.take_length] at ho
    have HO' := Aside0.mk ho
    clear ho HO
    go_wp2_with (fail)
    go_ret
    exact ⟨_, rfl, HO'.out, HB.out⟩
attribute [local go_sem] Za5 Za4 Zbp Zbo
set_option maxRecDepth 100000 in
set_option maxHeartbeats 4000000 in
theorem less_self (A : Option Addr) (c : Nat) (l : List S70) (B : Option Addr) (d : Nat) (w : World) (hr : Kd.C k70 w A l.length l) (hrm : Kd.C k70 w B l.length l) (hl : l.length ≤ 100000) (hm : ∀ x ∈ l, MayS x) (hs : Sep l) :
  Calls Tryz.prog 146 #[.slice A l.length c, .slice B l.length d] w fun e w' => e = .returned (.slice none 0 0) ∧ Below w.heap.size w w' := by
 have hu38 := Tryz.underlying38
 have hu70 := Tryz.underlying70
 have HR := Aside0.mk hr
 have HR2 := Aside0.mk hrm
 have HM := Aside0.mk hm
 have HS := Aside0.mk hs
 clear hr hrm hm hs
 go_enter Tryz.func146, Tryz.ntmps146
 go_wp2_with (fail)
 go_loopg [5, 6, 13] l.length (fun kx v5 v6 v13 wr => ∃ i : Nat, v5 = .slice none 0 0 ∧ v13 = .int .i64 (i : Int) ∧ v6 = .int .i64 (i : Int) ∧ i ≤ l.length ∧ l.length - i ≤ kx ∧ Aside0 (Below w.heap.size w wr))
 case atStart => exact ⟨0, rfl, rfl, rfl, Nat.zero_le _, by omega, ⟨Below.refl _ _⟩⟩
 case round =>
  obtain ⟨i, rfl, rfl, rfl, hi, hik, HB⟩ := hrel
  obtain ⟨gq, hgq⟩ : ∃ gq, gq = gk := ⟨_, rfl⟩
  subst hgq
  by_cases hlt : i < l.length
  ·have hi1 : i + 1 ≤ l.length := hlt
   obtain ⟨ad, rfl, h0, h1⟩ := cells70 (Kd.C_below HR.out HB.out) i hlt
   have hmx := HM.out l[i] (List.getElem_mem hlt)
   have HEq := Aside0.mk (rfl : l[i] = l[i])
   as_aux_lemma =>
    generalize hxx : l[i] = x at h0 h1 hmx
    have HXX := Aside0.mk hxx
    obtain ⟨x0, x1⟩ := x
    simp only at h0 h1
    have HX := Aside0.mk hmx
    clear hmx HEq hxx
    go_wp2_with (fail)
    have HB1 := Aside0.mk (Zab HB.out (.cells #[.int .i64 x0, .int .i64 x1] 70))
    have HN := Aside0.mk (Zas wr (.cells #[.int .i64 x0, .int .i64 x1] 70))
    clear h0 h1
    generalize wr.heap.size = gs at HN ⊢
    generalize wr.alloc (.cells #[.int .i64 x0, .int .i64 x1] 70) = w1 at HB1 HN ⊢
    have n0 : w1.cell? ⟨gs, 0, none⟩ = some (.int .i64 x0) := (Zaa HN.out 0).trans rfl
    have n1 : w1.cell? ⟨gs, 1, none⟩ = some (.int .i64 x1) := (Zaa HN.out 1).trans rfl
    go_step3
    go_wp2_with (fail)
    go_step3
    go_wp2_with (fail)
    go_loopg [5, 6, 9] l.length (fun kx v5 v6 v9 wr => ∃ k : Nat, ∃ at_ : Int, v5 = .slice none 0 0 ∧ v6 = .int .i64 (k : Int) ∧ v9 = .int .i64 at_ ∧ k ≤ l.length ∧ l.length - k ≤ kx ∧ (k = i ∧ at_ = x0 ∨ k = i + 1 ∧ at_ = x0 + x1) ∧ Aside0 (Below w1.heap.size w1 wr))
    case atStart => exact ⟨i, x0, rfl, rfl, rfl, hi, by omega, .inl ⟨rfl, rfl⟩, ⟨Below.refl _ _⟩⟩
    case round =>
     clear n0 n1
     obtain ⟨k, at_, rfl, rfl, rfl, hk, hkk, hor, HB2⟩ := hrel
     rcases hor with ⟨rfl, rfl⟩ | ⟨rfl, rfl⟩
     ·obtain ⟨ad2, rfl, y0c, y1c⟩ := cells70 (Kd.C_below HR2.out (Zae HB1.out HB2.out)) k hlt
      rw [HXX.out] at y0c y1c
      simp only at y0c y1c
      have hx8 := HX.out
      unfold MayS at hx8
      simp only at hx8
      have hd8 : decide (k < l.length) = true := decide_eq_true hlt
      have hwx : IntKind.i64.wrap (at_ + x1) = at_ + x1 := IntWalk.i64_in _ (by omega)
      have m0 : wr.cell? ⟨gs, 0, none⟩ = some (.int .i64 at_) := Zam HB2.out ((Zaa HN.out 0).trans rfl)
      have m1 : wr.cell? ⟨gs, 1, none⟩ = some (.int .i64 x1) := Zam HB2.out ((Zaa HN.out 1).trans rfl)
      have hEx := fun W => ZaN at_ x1 HX.out W
      have ba := Zab (Below.refl _ wr) (.cells #[.int .i64 at_, .int .i64 x1] 70)
      have p0 := Zap (Zam ba m0)
      have p1 := Zap (Zam ba m1)
      have p2 := Zap ((Zaa (Zas wr (.cells #[.int .i64 at_, .int .i64 x1] 70)) 0).trans rfl)
      have p3 := Zap ((Zaa (Zas wr (.cells #[.int .i64 at_, .int .i64 x1] 70)) 1).trans rfl)
      clear ba
      have hd1 : decide (at_ ≥ at_ + x1) = false := decide_eq_false (by omega)
      have hd2 : decide (at_ + x1 ≤ at_) = false := decide_eq_false (by omega)
      have hd3 : decide (at_ > at_) = false := decide_eq_false (by omega)
      have hd4 : decide (at_ + x1 > at_ + x1) = false := decide_eq_false (by omega)
      have hx1 : 1 ≤ x1 := hx8.2.1
      clear hx8
      as_aux_lemma =>
       go_wp2_with (fail)
       refine Zav (by kernel_rfl) (by kernel_rfl) ?_
       repeat (refine WQ.step (fun K hK => ?_); go_simp; first | (refine hK _ ?_; clear hK K) | (apply Exists.intro; refine ⟨fun _ => ?_, hK _ ?_⟩; (go_at_call 24; exact abv_of (hEx _)); clear hK K))
       refine WQ.nil ?_
       rintro w5 ⟨⟨w5', hb5⟩, rfl⟩
       have hbn := Zag (Zas wr (.cells #[.int .i64 at_, .int .i64 x1] 70)) hb5
       have s0 : w5.cell? ⟨wr.heap.size, 0, none⟩ = some (.int .i64 at_) := (Zaa hbn 0).trans rfl
       have s1 : w5.cell? ⟨wr.heap.size, 1, none⟩ = some (.int .i64 x1) := (Zaa hbn 1).trans rfl
       have b5 := Zae (Zab (Below.refl _ wr) (.cells #[.int .i64 at_, .int .i64 x1] 70)) hb5
       have HB2' := Aside0.mk (Zae HB2.out b5)
       replace m0 := Zam b5 m0
       replace m1 := Zam b5 m1
       replace y0c := Zam b5 y0c
       replace y1c := Zam b5 y1c
       clear p0 p1 p2 p3 hbn hb5 HB2 b5
       go_wp2_with (fail)
       refine (hEx _).mono ?_
       rintro e w7 ⟨rfl, hb7⟩
       have t0 := Zam hb7 s0
       have HB7 := Aside0.mk (Zae HB2'.out hb7)
       have q0 := Zap (Zam hb7 m0)
       have q1 := Zap (Zam hb7 m1)
       have q2 := Zap (Zam hb7 y0c)
       have q3 := Zap (Zam hb7 y1c)
       clear hb7 HB2' s0 s1
       go_wp2_with (fail)
       refine Zav (by kernel_rfl) (by kernel_rfl) ?_
       repeat (refine WQ.step (fun K hK => ?_); go_simp; first | (refine hK _ ?_; clear hK K) | (apply Exists.intro; refine ⟨fun _ => ?_, hK _ ?_⟩; (go_at_call 24; exact abv_of (hEx _)); clear hK K))
       refine WQ.nil ?_
       rintro w8 ⟨⟨w8', hb8⟩, rfl⟩
       have HB8 := Aside0.mk (Zae HB7.out hb8)
       have r0 := Zap (Zam hb8 (q0 ⟨_, Below.refl _ _⟩))
       have r1 := Zap (Zam hb8 (q1 ⟨_, Below.refl _ _⟩))
       have r2 := Zap (Zam hb8 (q2 ⟨_, Below.refl _ _⟩))
       have r3 := Zap (Zam hb8 (q3 ⟨_, Below.refl _ _⟩))
       clear q0 q1 q2 q3 t0 hb8 HB7
       go_wp2_with (fail)
       refine Zav (by kernel_rfl) (by kernel_rfl) ?_
       repeat (refine WQ.step (fun K hK => ?_); go_simp; first | (refine hK _ ?_; clear hK K) | (apply Exists.intro; refine ⟨fun _ => ?_, hK _ ?_⟩; (go_at_call 24; exact abv_of (hEx _)); clear hK K))
       refine WQ.nil ?_
       rintro w10 ⟨⟨w10', hb10⟩, rfl⟩
       have HB10 := Aside0.mk (Zae HB8.out hb10)
       clear r0 r1 r2 r3 hb10 HB8
       go_wp2_with (fail)
       go_roundg (gk - 1)
       case measure => omega
       case rel => exact ⟨k + 1, at_ + x1, rfl, by go_num, by simp, hi1, by omega, .inr ⟨rfl, rfl⟩, ⟨HB10.out⟩⟩
     ·by_cases hltk : i + 1 < l.length
      ·obtain ⟨ad2, rfl, y0c, y1c⟩ := cells70 (Kd.C_below HR2.out (Zae HB1.out HB2.out)) (i + 1) hltk
       have hsep := sep_get HS.out i hltk
       rw [HXX.out] at hsep
       generalize l[i + 1] = y at y0c y1c hsep
       obtain ⟨y0, y1⟩ := y
       simp only [endS] at y0c y1c hsep
       have hd8 : decide (i + 1 < l.length) = true := decide_eq_true hltk
       have m0 : wr.cell? ⟨gs, 0, none⟩ = some (.int .i64 x0) := Zam HB2.out ((Zaa HN.out 0).trans rfl)
       have m1 : wr.cell? ⟨gs, 1, none⟩ = some (.int .i64 x1) := Zam HB2.out ((Zaa HN.out 1).trans rfl)
       have hEx := fun W => ZaN x0 x1 HX.out W
       have ba := Zab (Below.refl _ wr) (.cells #[.int .i64 y0, .int .i64 y1] 70)
       have p0 := Zap (Zam ba m0)
       have p1 := Zap (Zam ba m1)
       have p2 := Zap ((Zaa (Zas wr (.cells #[.int .i64 y0, .int .i64 y1] 70)) 0).trans rfl)
       have hd1 : decide (y0 ≥ x0 + x1) = true := decide_eq_true (by omega)
       have hd9 : decide (x0 + x1 < x0 + x1) = false := decide_eq_false (by omega)
       clear ba hsep m0 m1
       as_aux_lemma =>
        go_wp2_with (fail)
        refine Zav (by kernel_rfl) (by kernel_rfl) ?_
        repeat (refine WQ.step (fun K hK => ?_); go_simp; first | (refine hK _ ?_; clear hK K) | (apply Exists.intro; refine ⟨fun _ => ?_, hK _ ?_⟩; (go_at_call 24; exact abv_of (hEx _)); clear hK K))
        refine WQ.nil ?_
        rintro w5 ⟨⟨w5', hb5⟩, rfl⟩
        have HB2' := Aside0.mk (Zae (Zab HB2.out (.cells #[.int .i64 y0, .int .i64 y1] 70)) hb5)
        clear p0 p1 p2 hEx hd1 hd8 y0c y1c hb5 HB2
        have HB2 := HB2'
        clear HB2'
        have n0 : w5.cell? ⟨gs, 0, none⟩ = some (.int .i64 x0) := Zam HB2.out ((Zaa HN.out 0).trans rfl)
        have n1 : w5.cell? ⟨gs, 1, none⟩ = some (.int .i64 x1) := Zam HB2.out ((Zaa HN.out 1).trans rfl)
        have HB3 := Aside0.mk (Zae HB1.out HB2.out)
        have hE := fun W => ZaN x0 x1 HX.out W
        have hw9 : IntKind.i64.wrap (x0 + x1) = x0 + x1 := by
         have hx9 := HX.out
         unfold MayS at hx9
         exact IntWalk.i64_in _ (by simp only at hx9; omega)
        clear HB2 HN
        go_wp2_with (fail)
        refine (hE _).mono ?_
        rintro e w4 ⟨rfl, hb4⟩
        go_wp2_with (fail)
        simp only [Exit.noGoto_normal]
        go_wp2_with (fail)
        go_roundg (gq - 1)
        case measure => omega
        case rel => exact ⟨i + 1, rfl, by go_num, by go_num, hi1, by omega, ⟨Zae HB3.out hb4⟩⟩
      ·have hd8 : decide (i + 1 < l.length) = false := decide_eq_false hltk
       have hd9 : decide (x0 + x1 < x0 + x1) = false := decide_eq_false (by omega)
       as_aux_lemma =>
        have n0 : wr.cell? ⟨gs, 0, none⟩ = some (.int .i64 x0) := Zam HB2.out ((Zaa HN.out 0).trans rfl)
        have n1 : wr.cell? ⟨gs, 1, none⟩ = some (.int .i64 x1) := Zam HB2.out ((Zaa HN.out 1).trans rfl)
        have HB3 := Aside0.mk (Zae HB1.out HB2.out)
        have hE := fun W => ZaN x0 x1 HX.out W
        have hw9 : IntKind.i64.wrap (x0 + x1) = x0 + x1 := by
         have hx9 := HX.out
         unfold MayS at hx9
         exact IntWalk.i64_in _ (by simp only at hx9; omega)
        clear HB2 HN
        go_wp2_with (fail)
        refine (hE _).mono ?_
        rintro e w4 ⟨rfl, hb4⟩
        go_wp2_with (fail)
        simp only [Exit.noGoto_normal]
        go_wp2_with (fail)
        go_roundg (gq - 1)
        case measure => omega
        case rel => exact ⟨i + 1, rfl, by go_num, by go_num, hi1, by omega, ⟨Zae HB3.out hb4⟩⟩
  ·as_aux_lemma =>
    have hil : i = l.length := by omega
    subst hil
    go_wp2_with (fail)
    go_ret
    exact ⟨rfl, HB.out⟩
end Go.Proofs.YtpfnaknmalojkaaGreat.PTopRows
namespace Go.Proofs.YtpfnaknmalojkaaGreat.PTopRows
open Go.RowKit Go.Maps Go.Sort Go.Proofs.YtpfnaknmalojkaaGreatW.PrintWords Go.Proofs.YtpfnaknmalojkaaGreatW.PrintLast Go.Proofs.YtpfnaknmalojkaaGreatW.PrintMore
set_option linter.unusedVariables false
set_option linter.unusedSimpArgs false
theorem may0_calls (x0 x1 : Int) (h : MayS ⟨x0, x1⟩) (w : World) : Calls Tryz.prog 70 #[.agg #[.int .i64 x0, .int .i64 x1]] w fun e w' => e = .returned (.int .i64 0) ∧ Below w.heap.size w w' := by
 have h1 := ZbY x0 x1 w
 rw [if_pos h] at h1
 exact h1
set_option maxRecDepth 100000 in
set_option maxHeartbeats 4000000 in
theorem Zdq (A : Option Addr) (c : Nat) (l : List S70) (w : World) (hr : Kd.C k70 w A l.length l) (hc : l.length ≤ c) (hl : l.length ≤ 100000) (hm : ∀ x ∈ l, MayS x) (hs : Sep l) :
  Calls Tryz.prog 145 #[.slice A l.length c] w fun e w' => e = .returned (.int .i64 0) ∧ Below w.heap.size w w' := by
 have hu38 := Tryz.underlying38
 have hu70 := Tryz.underlying70
 have hu43 := Tryz.underlying43
 have HR := Aside0.mk hr
 have HM := Aside0.mk hm
 have HS := Aside0.mk hs
 clear hr hm hs
 go_enter Tryz.func145, Tryz.ntmps145
 go_wp2_with (fail)
 go_loopg [7] l.length (fun kx v7 wr => ∃ i : Nat, v7 = .int .i64 (i : Int) ∧ i ≤ l.length ∧ l.length - i ≤ kx ∧ Aside0 (Below w.heap.size w wr))
 case atStart => exact ⟨0, rfl, Nat.zero_le _, by omega, ⟨Below.refl _ _⟩⟩
 case round =>
  obtain ⟨i, rfl, hi, hik, HB⟩ := hrel
  by_cases hlt : i < l.length
  ·have hi1 : i + 1 ≤ l.length := hlt
   obtain ⟨ad, rfl, h0, h1⟩ := cells70 (Kd.C_below HR.out HB.out) i hlt
   have hmx := HM.out l[i] (List.getElem_mem hlt)
   by_cases hz : i = 0
   ·have hd : decide (0 < (i : Int)) = false := decide_eq_false (by omega)
    have hd' : ¬ 0 < i := by omega
    as_aux_lemma =>
     generalize l[i] = x at h0 h1 hmx
     obtain ⟨x0, x1⟩ := x
     simp only at h0 h1
     have hM := fun W => may0_calls x0 x1 hmx W
     have HZ := Aside0.mk hz
     clear hz hmx
     go_wp2_with (fail)
     have k0 := Zap ((Zaa (Zas wr (.cells #[.int .i64 x0, .int .i64 x1] 70)) 0).trans rfl)
     have k1 := Zap ((Zaa (Zas wr (.cells #[.int .i64 x0, .int .i64 x1] 70)) 1).trans rfl)
     clear h0 h1
     refine Zav (by kernel_rfl) (by kernel_rfl) ?_
     repeat (refine WQ.step (fun K hK => ?_); go_simp; first | (refine hK _ ?_; clear hK K) | (apply Exists.intro; refine ⟨fun _ => ?_, hK _ ?_⟩; (go_at_call 70; exact abv_of (hM _)); clear hK K))
     refine WQ.nil ?_
     rintro w5 ⟨⟨w5', hb5⟩, rfl⟩
     clear k0 k1
     go_wp2_with (fail)
     go_roundg (gk - 1)
     case measure => omega
     case rel => exact ⟨i + 1, by go_num, hi1, by omega, ⟨Zae (Zab HB.out _) hb5⟩⟩
   ·obtain ⟨j, rfl⟩ : ∃ j, i = j + 1 := ⟨i - 1, by omega⟩
    have hw1 : IntKind.i64.wrap (((j + 1 : Nat) : Int) - 1) = (j : Int) := (IntWalk.i64_in _ (by omega)).trans (by omega)
    obtain ⟨ad', hA, g0, g1⟩ := cells70 (Kd.C_below HR.out HB.out) j (by omega)
    obtain rfl := Option.some.inj hA
    clear hA
    have hmy := HM.out l[j] (List.getElem_mem (by omega))
    have hsep := sep_get HS.out j hlt
    as_aux_lemma =>
     generalize l[j + 1] = x at h0 h1 hmx hsep
     generalize l[j] = y at g0 g1 hmy hsep
     obtain ⟨x0, x1⟩ := x
     obtain ⟨y0, y1⟩ := y
     simp only [endS] at h0 h1 g0 g1 hsep
     have hM := fun W => may0_calls x0 x1 hmx W
     have hE := fun W => ZaN y0 y1 hmy W
     have hd2 : decide (x0 ≤ y0 + y1) = false := decide_eq_false (by omega)
     clear hmx hsep hmy hz
     go_wp2_with (fail)
     have q0 := Zap (Zam (Zab (Below.refl _ wr) (.cells #[.int .i64 x0, .int .i64 x1] 70)) g0)
     have q1 := Zap (Zam (Zab (Below.refl _ wr) (.cells #[.int .i64 x0, .int .i64 x1] 70)) g1)
     have k0 := Zap ((Zaa (Zas wr (.cells #[.int .i64 x0, .int .i64 x1] 70)) 0).trans rfl)
     have k1 := Zap ((Zaa (Zas wr (.cells #[.int .i64 x0, .int .i64 x1] 70)) 1).trans rfl)
     have hjj : (j : Int) < (l.length : Int) := by omega
     have hjl : j < l.length := by omega
     have hjn : decide ((j : Int) < 0) = false := decide_eq_false (by omega)
     have hw2 : IntKind.i64.wrap (j : Int) = (j : Int) := IntWalk.i64_in _ (by omega)
     have hj0 : (0 : Int) < (j : Int) + 1 := by omega
     clear g0 g1 h0 h1
     refine Zav (by kernel_rfl) (by kernel_rfl) ?_
     repeat (refine WQ.step (fun K hK => ?_); go_simp; first | (refine hK _ ?_; clear hK K) | (apply Exists.intro; refine ⟨fun _ => ?_, hK _ ?_⟩; ((first | (go_at_call 70; exact abv_of (hM _)) | (go_at_call 24; exact abv_of (hE _)))); clear hK K))
     refine WQ.nil ?_
     rintro w5 ⟨⟨w5', hb5⟩, rfl⟩
     clear q0 q1 k0 k1
     go_wp2_with (fail)
     go_roundg (gk - 1)
     case measure => omega
     case rel => exact ⟨j + 1 + 1, by go_num, hi1, by omega, ⟨Zae (Zab HB.out _) hb5⟩⟩
  ·go_wp2_with (fail)
   go_ret
   exact ⟨rfl, HB.out⟩
set_option maxRecDepth 100000 in
theorem meet_calls (A : Option Addr) (c : Nat) (l : List S70) (B : Option Addr) (d : Nat) (m : List S70) (w : World) (hr : Kd.C k70 w A l.length l) (hrm : Kd.C k70 w B m.length m) (hc : l.length ≤ c) (hd : m.length ≤ d) (hl : l.length ≤ 100000) (hl2 : m.length ≤ 100000) (hm : ∀ x ∈ l, MayS x) (hm2 : ∀ x ∈ m, MayS x) (hs : Sep l) (hs2 : Sep m) (ha : ApartS l m) :
  Calls Tryz.prog 111 #[.slice A l.length c, .slice B m.length d] w fun e w' => e = .returned (.tuple #[.slice none 0 0, .int .i64 0]) ∧ Below w.heap.size w w' := by
 have H1 := Aside0.mk (fun W (hb : Below w.heap.size w W) => Zdq A c l W (Kd.C_below hr hb) hc hl hm hs)
 have H2 := Aside0.mk (fun W (hb : Below w.heap.size w W) => Zdq B d m W (Kd.C_below hrm hb) hd hl2 hm2 hs2)
 have H3 := Aside0.mk (fun W (hb : Below w.heap.size w W) => less_apart A c l B d m W (Kd.C_below hr hb) (Kd.C_below hrm hb) hl hl2 hm hm2 ha)
 have H4 := Aside0.mk (fun W A' c' (hb : Below w.heap.size w W) (h : Kd.C k70 W A' l.length l) => less_self A c l A' c' W (Kd.C_below hr hb) h hl hm hs)
 clear hr hrm hm hm2 hs hs2 ha
 go_enter Tryz.func111, Tryz.ntmps111
 go_wp2_with (fail)
 refine (H1.out w (Below.refl _ _)).mono ?_
 rintro e w1 ⟨rfl, hb1⟩
 go_wp2_with (fail)
 refine (H2.out w1 hb1).mono ?_
 rintro e w2 ⟨rfl, hb2⟩
 have HB2 := Aside0.mk (Zae hb1 hb2)
 clear hb1 hb2
 go_wp2_with (fail)
 refine (H3.out w2 HB2.out).mono ?_
 rintro e w3 ⟨v, rfl, hR, hb3⟩
 obtain ⟨A', c', rfl, -, hC⟩ := Kd.R_reads hR
 have h4 := H4.out w3 A' c' (Zae HB2.out hb3) hC
 have HB3 := Aside0.mk (Zae HB2.out hb3)
 clear hR hC hb3
 go_wp2_with (fail)
 refine h4.mono ?_
 rintro e w4 ⟨rfl, hb4⟩
 go_wp2_with (fail)
 go_ret2
 exact ⟨rfl, Zae HB3.out hb4⟩
def fol (a b : S86) : Bool := decide (a.f0.f0 + a.f0.f1 = b.f0.f0) && (decide (a.f1.f0 = b.f1.f0) && decide (a.f1.f1 + a.f0.f1 = b.f1.f1))
def long (y x : S86) : S86 := ⟨⟨y.f0.f0, y.f0.f1 + x.f0.f1⟩, y.f1⟩
def joinE (l : List S86) (x : S86) : List S86 := match l.getLast? with
 | none => [x]
 | some y => if fol y x then l.dropLast ++ [long y x] else l ++ [x]
set_option maxRecDepth 100000 in
set_option maxHeartbeats 4000000 in
theorem fol_calls (a b : S86) (ha : MayE a) (hb : MayE b) (w : World) : Calls Tryz.prog 179 #[.agg #[.int .i64 a.f0.f0, .int .i64 a.f0.f1, .int .i64 a.f1.f0, .int .i64 a.f1.f1], .agg #[.int .i64 b.f0.f0, .int .i64 b.f0.f1, .int .i64 b.f1.f0, .int .i64 b.f1.f1]] w fun e w' => e = .returned (.bool (fol a b)) ∧ Below w.heap.size w w' := by
 have hu86 := Tryz.underlying86
 have hu70 := Tryz.underlying70
 have hu84 := Tryz.underlying84
 have hu3 := Tryz.underlying3
 obtain ⟨⟨a0, a1⟩, ⟨a2, a3⟩⟩ := a
 obtain ⟨⟨b0, b1⟩, ⟨b2, b3⟩⟩ := b
 obtain ⟨h1, h2, h3, h4, h5, h6, h7⟩ := ha
 simp only at h1 h2 h3 h4 h5 h6 h7 ⊢
 have hE := fun W => ZaN a0 a1 (by unfold MayS; simp only; omega) W
 have hw : IntKind.i64.wrap (a3 + a1) = a3 + a1 := IntWalk.i64_in _ (by omega)
 obtain ⟨r, hr⟩ : ∃ r, fol ⟨⟨a0, a1⟩, ⟨a2, a3⟩⟩ ⟨⟨b0, b1⟩, ⟨b2, b3⟩⟩ = r := ⟨_, rfl⟩
 unfold fol at hr
 simp only at hr
 rw [show fol ⟨⟨a0, a1⟩, ⟨a2, a3⟩⟩ ⟨⟨b0, b1⟩, ⟨b2, b3⟩⟩ = r from hr]
 have ba := Zab (Zab (Below.refl w.heap.size w) (.cells #[.int .i64 a0, .int .i64 a1, .int .i64 a2, .int .i64 a3] 86)) (.cells #[.int .i64 b0, .int .i64 b1, .int .i64 b2, .int .i64 b3] 86)
 have za := Zag (Zas w (.cells #[.int .i64 a0, .int .i64 a1, .int .i64 a2, .int .i64 a3] 86)) (Zab (Below.refl _ _) (.cells #[.int .i64 b0, .int .i64 b1, .int .i64 b2, .int .i64 b3] 86))
 have zb := Zas (w.alloc (.cells #[.int .i64 a0, .int .i64 a1, .int .i64 a2, .int .i64 a3] 86)) (.cells #[.int .i64 b0, .int .i64 b1, .int .i64 b2, .int .i64 b3] 86)
 have hsz : (w.alloc (.cells #[.int .i64 a0, .int .i64 a1, .int .i64 a2, .int .i64 a3] 86)).heap.size = w.heap.size + 1 := by simp
 rw [hsz] at zb
 have p0 := Zap ((Zaa za 0).trans (rfl : _ = some (Value.int .i64 a0)))
 have p1 := Zap ((Zaa za 1).trans (rfl : _ = some (Value.int .i64 a1)))
 have p2 := Zap ((Zaa za 2).trans (rfl : _ = some (Value.int .i64 a2)))
 have p3 := Zap ((Zaa za 3).trans (rfl : _ = some (Value.int .i64 a3)))
 have q0 := Zap ((Zaa zb 0).trans (rfl : _ = some (Value.int .i64 b0)))
 have q2 := Zap ((Zaa zb 2).trans (rfl : _ = some (Value.int .i64 b2)))
 have q3 := Zap ((Zaa zb 3).trans (rfl : _ = some (Value.int .i64 b3)))
 have HBA := Aside0.mk ba
 clear ba za zb h1 h2 h3 h4 h5 h6 h7
 by_cases e1 : a0 + a1 = b0
 ·have d1 : decide (a0 + a1 = b0) = true := decide_eq_true e1
  have d1q : (a0 + a1 == b0) = true := beq_iff_eq.2 e1
  by_cases e2 : a2 = b2
  ·have d2 : decide (a2 = b2) = true := decide_eq_true e2
   have d2q : (a2 == b2) = true := beq_iff_eq.2 e2
   rw [d1, d2, Bool.true_and, Bool.true_and] at hr
   subst hr
   have HE := Aside0.mk e1
   have HF := Aside0.mk e2
   clear e1 e2 d1 d2
   as_aux_lemma =>
    go_enter Tryz.func179, Tryz.ntmps179
    go_wp2_with (fail)
    refine Zav (by kernel_rfl) (by kernel_rfl) ?_
    repeat (refine WQ.step (fun K hK => ?_); go_simp; first | (refine hK _ ?_; clear hK K) | (apply Exists.intro; refine ⟨fun _ => ?_, hK _ ?_⟩; (go_at_call 24; exact abv_of (hE _)); clear hK K))
    refine WQ.nil ?_
    rintro w5 ⟨⟨w5', hb5⟩, rfl⟩
    go_wp2_with (fail)
    go_ret
    exact ⟨rfl, Zae HBA.out hb5⟩
  ·have d2 : decide (a2 = b2) = false := decide_eq_false e2
   have d2q : (a2 == b2) = false := beq_eq_false_iff_ne.2 e2
   rw [d1, d2, Bool.true_and, Bool.false_and] at hr
   subst hr
   have HE := Aside0.mk e1
   have HF := Aside0.mk e2
   clear e1 e2 d1 d2
   as_aux_lemma =>
    go_enter Tryz.func179, Tryz.ntmps179
    go_wp2_with (fail)
    refine Zav (by kernel_rfl) (by kernel_rfl) ?_
    repeat (refine WQ.step (fun K hK => ?_); go_simp; first | (refine hK _ ?_; clear hK K) | (apply Exists.intro; refine ⟨fun _ => ?_, hK _ ?_⟩; (go_at_call 24; exact abv_of (hE _)); clear hK K))
    refine WQ.nil ?_
    rintro w5 ⟨⟨w5', hb5⟩, rfl⟩
    go_wp2_with (fail)
    go_ret
    exact ⟨rfl, Zae HBA.out hb5⟩
 ·have d1 : decide (a0 + a1 = b0) = false := decide_eq_false e1
  have d1q : (a0 + a1 == b0) = false := beq_eq_false_iff_ne.2 e1
  rw [d1, Bool.false_and] at hr
  subst hr
  have HE := Aside0.mk e1
  clear e1 d1
  as_aux_lemma =>
   go_enter Tryz.func179, Tryz.ntmps179
   go_wp2_with (fail)
   refine Zav (by kernel_rfl) (by kernel_rfl) ?_
   repeat (refine WQ.step (fun K hK => ?_); go_simp; first | (refine hK _ ?_; clear hK K) | (apply Exists.intro; refine ⟨fun _ => ?_, hK _ ?_⟩; (go_at_call 24; exact abv_of (hE _)); clear hK K))
   refine WQ.nil ?_
   rintro w5 ⟨⟨w5', hb5⟩, rfl⟩
   go_wp2_with (fail)
   go_ret
   exact ⟨rfl, Zae HBA.out hb5⟩
theorem joinE_snoc (l : List S86) (y x : S86) : joinE (l ++ [y]) x = if fol y x then l ++ [long y x] else l ++ [y] ++ [x] := by
 unfold joinE
 simp
set_option maxRecDepth 100000 in
set_option maxHeartbeats 4000000 in
theorem Zel (base : Nat) (v : Value) (x : S86) (w : World) (hO : k86.R 86 w base (fun _ => True) v []) (hb : base ≤ w.heap.size) :
  Calls Tryz.prog 148 #[v, .agg #[.int .i64 x.f0.f0, .int .i64 x.f0.f1, .int .i64 x.f1.f0, .int .i64 x.f1.f1]] w fun e w' => ∃ v1, e = .returned v1 ∧ k86.R 86 w' base (fun _ => True) v1 [x] ∧ Below base w w' := by
 have hu31 := Tryz.underlying31
 have hu86 := Tryz.underlying86
 have hu70 := Tryz.underlying70
 obtain ⟨A, c, rfl⟩ := Kd.R_slice hO
 obtain ⟨⟨x0, x1⟩, ⟨x2, x3⟩⟩ := x
 have HO := Aside0.mk (Kd.R_alloc hO (.cells #[.int .i64 x0, .int .i64 x1, .int .i64 x2, .int .i64 x3] 86))
 have HB := Aside0.mk hb
 clear hO hb
 have hbn := Zas w (.cells #[.int .i64 x0, .int .i64 x1, .int .i64 x2, .int .i64 x3] 86)
 go_enter Tryz.func148, Tryz.ntmps148
 go_wp2_with (fail)
 refine Zav (by kernel_rfl) (by kernel_rfl) ?_
 repeat (refine WQ.step (fun K hK => ?_); go_simp; first | (refine hK _ ?_; clear hK K) | (apply Exists.intro; refine ⟨fun _ => ?_, hK _ ?_⟩; (fail); clear hK K))
 refine WQ.nil ?_
 rintro w2 ⟨⟨w2', hb2⟩, rfl⟩
 have hb2n := Zag hbn hb2
 have c0 : w2.cell? ⟨w.heap.size, 0, none⟩ = some (.int .i64 x0) := (Zaa hb2n 0).trans rfl
 have c1 : w2.cell? ⟨w.heap.size, 1, none⟩ = some (.int .i64 x1) := (Zaa hb2n 1).trans rfl
 have c2 : w2.cell? ⟨w.heap.size, 2, none⟩ = some (.int .i64 x2) := (Zaa hb2n 2).trans rfl
 have c3 : w2.cell? ⟨w.heap.size, 3, none⟩ = some (.int .i64 x3) := (Zaa hb2n 3).trans rfl
 have HO2 := Aside0.mk (Kd.R_below HO.out hb2)
 have HB2 := Aside0.mk (((Below.refl base w).alloc HB.out _).trans (hb2.mono (by have := HB.out; simp; omega)))
 have HBS := Aside0.mk (Nat.le_trans HB.out HB2.out.size)
 clear hbn hb2 hb2n HO
 go_wp2_with (at_builtin; refine app86 rfl _ _ rfl _ _ ⟨⟨x0, x1⟩, ⟨x2, x3⟩⟩ rfl rfl HO2.out HBS.out (by simp) ?_; intro v1 w3 ho hb hg)
 go_ret
 exact ⟨_, rfl, ho, HB2.out.trans hb⟩
set_option maxRecDepth 100000 in
set_option maxHeartbeats 4000000 in
theorem join_no_calls (base : Nat) (v : Value) (l : List S86) (y x : S86) (w : World) (hO : k86.R 86 w base (fun _ => True) v (l ++ [y])) (hb : base ≤ w.heap.size) (hl : l.length ≤ 100000) (hy : MayE y) (hx : MayE x) (hf : fol y x = false) :
  Calls Tryz.prog 148 #[v, .agg #[.int .i64 x.f0.f0, .int .i64 x.f0.f1, .int .i64 x.f1.f0, .int .i64 x.f1.f1]] w fun e w' => ∃ v1, e = .returned v1 ∧ k86.R 86 w' base (fun _ => True) v1 (l ++ [y] ++ [x]) ∧ Below base w w' := by
 have hu31 := Tryz.underlying31
 have hu86 := Tryz.underlying86
 have hu70 := Tryz.underlying70
 have hu84 := Tryz.underlying84
 have HF := Aside0.mk (fun W => fol_calls y x hy hx W)
 rw [hf] at HF
 obtain ⟨g, cap, rfl, hgb, hgl, cellsg, hgc⟩ := Kd.R_form hO (by simp)
 have hrd := (Kd.R_reads' hO).2.2
 obtain ⟨ad, e, y0c, y1c, y2c, y3c⟩ := ZaF hrd l.length (by simp)
 cases e
 simp only [Za9, Nat.zero_add] at y0c y1c y2c y3c
 have hll : (l ++ [y]).length = l.length + 1 := by simp
 have hgt : (l ++ [y])[l.length]'(by simp) = y := by simp
 rw [hgt] at y0c y1c y2c y3c
 rw [hll] at hO ⊢
 obtain ⟨⟨x0, x1⟩, ⟨x2, x3⟩⟩ := x
 obtain ⟨⟨y0, y1⟩, ⟨y2, y3⟩⟩ := y
 simp only at y0c y1c y2c y3c HF
 have ba := Zab (Below.refl _ w) (.cells #[.int .i64 x0, .int .i64 x1, .int .i64 x2, .int .i64 x3] 86)
 have HO := Aside0.mk (Kd.R_alloc hO (.cells #[.int .i64 x0, .int .i64 x1, .int .i64 x2, .int .i64 x3] 86))
 have HB := Aside0.mk hb
 have HX := Aside0.mk hx
 have HY := Aside0.mk hy
 have hbn := Zas w (.cells #[.int .i64 x0, .int .i64 x1, .int .i64 x2, .int .i64 x3] 86)
 have p0 := Zap (Zam ba y0c)
 have p1 := Zap (Zam ba y1c)
 have p2 := Zap (Zam ba y2c)
 have p3 := Zap (Zam ba y3c)
 have s0 := Zap ((Zaa hbn 0).trans rfl)
 have s1 := Zap ((Zaa hbn 1).trans rfl)
 have s2 := Zap ((Zaa hbn 2).trans rfl)
 have s3 := Zap ((Zaa hbn 3).trans rfl)
 have hw1 : IntKind.i64.wrap (((l.length + 1 : Nat) : Int) - 1) = (l.length : Int) := (IntWalk.i64_in _ (by omega)).trans (by omega)
 have hd1 : decide ((l.length : Int) ≥ 0) = true := decide_eq_true (by omega)
 have hjj : (l.length : Int) < (l.length : Int) + 1 := by omega
 have HGB := Aside0.mk hgb
 have HGC := Aside0.mk (Zan hgc (.cells #[.int .i64 x0, .int .i64 x1, .int .i64 x2, .int .i64 x3] 86))
 have HY0 := Aside0.mk (Zam ba y0c)
 have HY1 := Aside0.mk (Zam ba y1c)
 have HY2 := Aside0.mk (Zam ba y2c)
 have HY3 := Aside0.mk (Zam ba y3c)
 have HZ := Aside0.mk (blk_lt hgc)
 clear hO hb hgb hgl hgc hrd hgt y0c y1c y2c y3c ba hx hy hf
 go_enter Tryz.func148, Tryz.ntmps148
 go_wp2_with (fail)
 refine Zav (by kernel_rfl) (by kernel_rfl) ?_
 repeat (refine WQ.step (fun K hK => ?_); go_simp; first | (refine hK _ ?_; clear hK K) | (apply Exists.intro; refine ⟨fun _ => ?_, hK _ ?_⟩; ((go_at_call 179; exact abv_of (HF.out _))); clear hK K))
 refine WQ.nil ?_
 rintro w2 ⟨⟨w2', hb2⟩, rfl⟩
 have hb2n := Zag hbn hb2
 have c0 : w2.cell? ⟨w.heap.size, 0, none⟩ = some (.int .i64 x0) := (Zaa hb2n 0).trans rfl
 have c1 : w2.cell? ⟨w.heap.size, 1, none⟩ = some (.int .i64 x1) := (Zaa hb2n 1).trans rfl
 have c2 : w2.cell? ⟨w.heap.size, 2, none⟩ = some (.int .i64 x2) := (Zaa hb2n 2).trans rfl
 have c3 : w2.cell? ⟨w.heap.size, 3, none⟩ = some (.int .i64 x3) := (Zaa hb2n 3).trans rfl
 have HO2 := Aside0.mk (Kd.R_below HO.out hb2)
 have HB2 := Aside0.mk (((Below.refl base w).alloc HB.out (.cells #[.int .i64 x0, .int .i64 x1, .int .i64 x2, .int .i64 x3] 86)).trans (hb2.mono (by have := HB.out; simp; omega)))
 have HBS := Aside0.mk (Nat.le_trans HB.out HB2.out.size)
 have hln : (l ++ [(⟨⟨y0, y1⟩, ⟨y2, y3⟩⟩ : S86)]).length ≤ 1000000 := by simp; omega
 clear hbn hb2 hb2n HO p0 p1 p2 p3 s0 s1 s2 s3 HF HY0 HY1 HY2 HY3 HGC
 go_wp2_with (at_builtin; refine app86 rfl _ _ rfl _ _ ⟨⟨x0, x1⟩, ⟨x2, x3⟩⟩ rfl rfl HO2.out HBS.out hln ?_; intro v1 w3 ho hb hg)
 go_ret
 exact ⟨_, rfl, ho, HB2.out.trans hb⟩
set_option maxRecDepth 100000 in
set_option maxHeartbeats 4000000 in
theorem Zek (base : Nat) (v : Value) (l : List S86) (y x : S86) (w : World) (hO : k86.R 86 w base (fun _ => True) v (l ++ [y])) (hb : base ≤ w.heap.size) (hl : l.length ≤ 100000) (hy : MayE y) (hx : MayE x) (hf : fol y x = true) :
  Calls Tryz.prog 148 #[v, .agg #[.int .i64 x.f0.f0, .int .i64 x.f0.f1, .int .i64 x.f1.f0, .int .i64 x.f1.f1]] w fun e w' => ∃ v1, e = .returned v1 ∧ k86.R 86 w' base (fun _ => True) v1 (l ++ [long y x]) ∧ Below base w w' := by
 have hu31 := Tryz.underlying31
 have hu86 := Tryz.underlying86
 have hu70 := Tryz.underlying70
 have hu84 := Tryz.underlying84
 have HF := Aside0.mk (fun W => fol_calls y x hy hx W)
 rw [hf] at HF
 obtain ⟨g, cap, rfl, hgb, hgl, cellsg, hgc⟩ := Kd.R_form hO (by simp)
 have hrd := (Kd.R_reads' hO).2.2
 obtain ⟨ad, e, y0c, y1c, y2c, y3c⟩ := ZaF hrd l.length (by simp)
 cases e
 simp only [Za9, Nat.zero_add] at y0c y1c y2c y3c
 have hll : (l ++ [y]).length = l.length + 1 := by simp
 have hgt : (l ++ [y])[l.length]'(by simp) = y := by simp
 rw [hgt] at y0c y1c y2c y3c
 rw [hll] at hO ⊢
 obtain ⟨⟨x0, x1⟩, ⟨x2, x3⟩⟩ := x
 obtain ⟨⟨y0, y1⟩, ⟨y2, y3⟩⟩ := y
 simp only at y0c y1c y2c y3c HF
 have ba := Zab (Below.refl _ w) (.cells #[.int .i64 x0, .int .i64 x1, .int .i64 x2, .int .i64 x3] 86)
 have HO := Aside0.mk (Kd.R_alloc hO (.cells #[.int .i64 x0, .int .i64 x1, .int .i64 x2, .int .i64 x3] 86))
 have HB := Aside0.mk hb
 have HX := Aside0.mk hx
 have HY := Aside0.mk hy
 have hbn := Zas w (.cells #[.int .i64 x0, .int .i64 x1, .int .i64 x2, .int .i64 x3] 86)
 have p0 := Zap (Zam ba y0c)
 have p1 := Zap (Zam ba y1c)
 have p2 := Zap (Zam ba y2c)
 have p3 := Zap (Zam ba y3c)
 have s0 := Zap ((Zaa hbn 0).trans rfl)
 have s1 := Zap ((Zaa hbn 1).trans rfl)
 have s2 := Zap ((Zaa hbn 2).trans rfl)
 have s3 := Zap ((Zaa hbn 3).trans rfl)
 have hw1 : IntKind.i64.wrap (((l.length + 1 : Nat) : Int) - 1) = (l.length : Int) := (IntWalk.i64_in _ (by omega)).trans (by omega)
 have hd1 : decide ((l.length : Int) ≥ 0) = true := decide_eq_true (by omega)
 have hjj : (l.length : Int) < (l.length : Int) + 1 := by omega
 have HGB := Aside0.mk hgb
 have HGC := Aside0.mk (Zan hgc (.cells #[.int .i64 x0, .int .i64 x1, .int .i64 x2, .int .i64 x3] 86))
 have HY0 := Aside0.mk (Zam ba y0c)
 have HY1 := Aside0.mk (Zam ba y1c)
 have HY2 := Aside0.mk (Zam ba y2c)
 have HY3 := Aside0.mk (Zam ba y3c)
 have HZ := Aside0.mk (blk_lt hgc)
 clear hO hb hgb hgl hgc hrd hgt y0c y1c y2c y3c ba hx hy hf
 go_enter Tryz.func148, Tryz.ntmps148
 go_wp2_with (fail)
 refine Zav (by kernel_rfl) (by kernel_rfl) ?_
 repeat (refine WQ.step (fun K hK => ?_); go_simp; first | (refine hK _ ?_; clear hK K) | (apply Exists.intro; refine ⟨fun _ => ?_, hK _ ?_⟩; ((go_at_call 179; exact abv_of (HF.out _))); clear hK K))
 refine WQ.nil ?_
 rintro w2 ⟨⟨w2', hb2⟩, rfl⟩
 have hb2n := Zag hbn hb2
 have c0 : w2.cell? ⟨w.heap.size, 0, none⟩ = some (.int .i64 x0) := (Zaa hb2n 0).trans rfl
 have c1 : w2.cell? ⟨w.heap.size, 1, none⟩ = some (.int .i64 x1) := (Zaa hb2n 1).trans rfl
 have c2 : w2.cell? ⟨w.heap.size, 2, none⟩ = some (.int .i64 x2) := (Zaa hb2n 2).trans rfl
 have c3 : w2.cell? ⟨w.heap.size, 3, none⟩ = some (.int .i64 x3) := (Zaa hb2n 3).trans rfl
 have HO2 := Aside0.mk (Kd.R_below HO.out hb2)
 have HB2 := Aside0.mk (((Below.refl base w).alloc HB.out (.cells #[.int .i64 x0, .int .i64 x1, .int .i64 x2, .int .i64 x3] 86)).trans (hb2.mono (by have := HB.out; simp; omega)))
 have HBS := Aside0.mk (Nat.le_trans HB.out HB2.out.size)
 have q1 := Zam hb2 HY1.out
 have q0 := Zam hb2 HY0.out
 have q2 := Zam hb2 HY2.out
 have q3 := Zam hb2 HY3.out
 have hgc2 := Zag HGC.out hb2
 have fz : w2.frozen? ⟨g, l.length * 4 + 1, none⟩ = false := Zad hgc2 _
 have hys := HY.out
 have hxs := HX.out
 unfold MayE at hys hxs
 simp only at hys hxs
 have hw2 : IntKind.i64.wrap (y1 + x1) = y1 + x1 := IntWalk.i64_in _ (by omega)
 have hseg := Kd.R_seg (d := k86) (W := w2.drew) (c := [.int .i64 y0, .int .i64 y1, .int .i64 y2, .int .i64 y3]) (seg := [.int .i64 (y1 + x1)]) (j := 1) (okp := fun _ => False) (x' := ⟨⟨y0, y1 + x1⟩, ⟨y2, y3⟩⟩) (Kd.R_drew HO2.out) (l.length : Int) (by omega) (by omega) rfl
  (fun j u hu => by
   rw [Int.toNat_natCast]
   match j, hu with
   | 0, hu => cases hu; exact q0
   | 1, hu => cases hu; exact q1
   | 2, hu => cases hu; exact q2
   | 3, hu => cases hu; exact q3) (by show 1 + 1 ≤ 4; omega) (Zc8 _ _ _ _) (fun _ h => h.elim)
 rw [Int.toNat_natCast] at hseg
 have HSEG := Aside0.mk hseg
 clear hseg hys hxs hgc2 q0 q2 q3 hbn hb2 hb2n HO p0 p1 p2 p3 s0 s1 s2 s3 HF HY0 HY1 HY2 HY3 HGC
 go_wp2_with (fail)
 go_still_tail 13, (by kernel_rfl)
 change wpList _ _ _ _ _ (w2.drew)
 go_wp2_with (fail)
 go_ret
 have hset : (l ++ [(⟨⟨y0, y1⟩, ⟨y2, y3⟩⟩ : S86)]).set l.length ⟨⟨y0, y1 + x1⟩, ⟨y2, y3⟩⟩ = l ++ [long ⟨⟨y0, y1⟩, ⟨y2, y3⟩⟩ ⟨⟨x0, x1⟩, ⟨x2, x3⟩⟩] := by
  rw [List.set_append_right _ _ (Nat.le_refl _)]
  simp [long]
 obtain ⟨hr, hg⟩ := HSEG.out
 rw [hset] at hr
 exact ⟨_, rfl, hr, (ZaV HB2.out).grown hg (by simpa using HBS.out) (fun k hk => by obtain rfl := Option.some.inj hk; exact HGB.out)⟩
theorem long_may {y x : S86} (hy : MayE y) (hx : MayE x) (hf : fol y x = true) : MayE (long y x) := by
 unfold fol at hf
 simp only [Bool.and_eq_true, decide_eq_true_eq] at hf
 unfold MayE at *
 unfold long
 simp only
 omega
theorem Zbi (l : List S86) (x : S86) : (l = [] ∧ joinE l x = [x]) ∨ ∃ l' y, l = l' ++ [y] ∧ ((fol y x = true ∧ joinE l x = l' ++ [long y x]) ∨ (fol y x = false ∧ joinE l x = l' ++ [y] ++ [x])) := by
 rcases List.eq_nil_or_concat l with rfl | ⟨l', y, rfl⟩
 ·exact .inl ⟨rfl, rfl⟩
 ·refine .inr ⟨l', y, by simp, ?_⟩
  rw [List.concat_eq_append, joinE_snoc]
  cases h : fol y x
  ·exact .inr ⟨rfl, by simp⟩
  ·exact .inl ⟨rfl, by simp⟩
theorem joinE_may {l : List S86} {x : S86} (hl : ∀ y ∈ l, MayE y) (hx : MayE x) : ∀ y ∈ joinE l x, MayE y := by
 rcases Zbi l x with ⟨rfl, e⟩ | ⟨l', y, rfl, ⟨hf, e⟩ | ⟨hf, e⟩⟩
 ·rw [e]; simpa using hx
 ·rw [e]
  intro z hz
  rcases List.mem_append.1 hz with hz | hz
  ·exact hl z (List.mem_append_left _ hz)
  ·rw [List.mem_singleton.1 hz]
   exact long_may (hl y (by simp)) hx hf
 ·rw [e]
  intro z hz
  rcases List.mem_append.1 hz with hz | hz
  ·exact hl z hz
  ·rw [List.mem_singleton.1 hz]; exact hx
theorem joinE_len (l : List S86) (x : S86) : (joinE l x).length ≤ l.length + 1 := by
 rcases Zbi l x with ⟨rfl, e⟩ | ⟨l', y, rfl, ⟨hf, e⟩ | ⟨hf, e⟩⟩ <;> rw [e] <;> simp
theorem joinx_calls (base : Nat) (v : Value) (l : List S86) (x : S86) (w : World) (hO : k86.R 86 w base (fun _ => True) v l) (hb : base ≤ w.heap.size) (hl : l.length ≤ 100000) (hm : ∀ y ∈ l, MayE y) (hx : MayE x) :
  Calls Tryz.prog 148 #[v, .agg #[.int .i64 x.f0.f0, .int .i64 x.f0.f1, .int .i64 x.f1.f0, .int .i64 x.f1.f1]] w fun e w' => ∃ v1, e = .returned v1 ∧ k86.R 86 w' base (fun _ => True) v1 (joinE l x) ∧ Below base w w' := by
 rcases Zbi l x with ⟨rfl, e⟩ | ⟨l', y, rfl, ⟨hf, e⟩ | ⟨hf, e⟩⟩
 ·rw [e]; exact Zel base v x w hO hb
 ·rw [e]; exact Zek base v l' y x w hO hb (by simp at hl; omega) (hm y (by simp)) hx hf
 ·rw [e]; exact join_no_calls base v l' y x w hO hb (by simp at hl; omega) (hm y (by simp)) hx hf
def joinedE (l : List S86) : List S86 := l.foldl joinE []
theorem Zbv (l : List S86) (x : S86) : joinedE (l ++ [x]) = joinE (joinedE l) x := by unfold joinedE; rw [List.foldl_append]; rfl
theorem ZbR {α : Type} {P : List α → Prop} (h0 : P []) (h1 : ∀ l x, P l → P (l ++ [x])) (l : List α) : P l := by
 have h : ∀ n (l : List α), l.length = n → P l := by
  intro n
  induction n with
  | zero => intro l hl; rw [List.eq_nil_of_length_eq_zero hl]; exact h0
  | succ n ih =>
   intro l hl
   rcases List.eq_nil_or_concat l with rfl | ⟨l', y, rfl⟩
   ·exact h0
   ·rw [List.concat_eq_append] at hl ⊢
    exact h1 l' y (ih l' (by simpa using hl))
 exact h _ l rfl
theorem Zd2 (l : List S86) : (∀ x ∈ l, MayE x) → (∀ y ∈ joinedE l, MayE y) ∧ (joinedE l).length ≤ l.length := by
 refine ZbR (P := fun l => (∀ x ∈ l, MayE x) → (∀ y ∈ joinedE l, MayE y) ∧ (joinedE l).length ≤ l.length) (fun _ => ⟨by simp [joinedE], by simp [joinedE]⟩) (fun l x ih h => ?_) l
 obtain ⟨h1, h2⟩ := ih (fun y hy => h y (List.mem_append_left _ hy))
 rw [Zbv]
 refine ⟨joinE_may h1 (h x (by simp)), ?_⟩
 have := joinE_len (joinedE l) x
 rw [List.length_append, List.length_singleton]
 omega
set_option maxRecDepth 100000 in
set_option maxHeartbeats 4000000 in
theorem Zdn (A : Option Addr) (c : Nat) (l : List S86) (w : World) (hr : Kd.C k86 w A l.length l) (hl : l.length ≤ 100000) (hm : ∀ x ∈ l, MayE x) :
  Calls Tryz.prog 114 #[.slice A l.length c] w fun e w' => ∃ v, e = .returned v ∧ k86.R 86 w' w.heap.size (fun _ => True) v (joinedE l) ∧ Below w.heap.size w w' := by
 have hu31 := Tryz.underlying31
 have hu86 := Tryz.underlying86
 have HR := Aside0.mk hr
 have HM := Aside0.mk hm
 clear hr hm
 go_enter Tryz.func114, Tryz.ntmps114
 go_wp2_with (fail)
 go_loopg [3, 8] l.length (fun kx v3 v8 wr => ∃ i : Nat, v8 = .int .i64 (i : Int) ∧ i ≤ l.length ∧ l.length - i ≤ kx ∧ Aside0 (k86.R 86 wr w.heap.size (fun _ => True) v3 (joinedE (l.take i))) ∧ Aside0 (Below w.heap.size w wr))
 case atStart => exact ⟨0, rfl, Nat.zero_le _, by omega, ⟨Kd.R_nil _ _ _ _ _⟩, ⟨Below.refl _ _⟩⟩
 case round =>
  obtain ⟨i, rfl, hi, hik, HO, HB⟩ := hrel
  by_cases hlt : i < l.length
  ·have hi1 : i + 1 ≤ l.length := hlt
   obtain ⟨ad, rfl, h0, h1, h2, h3⟩ := ZaF (Kd.C_below HR.out HB.out) i hlt
   have hts := ZaM hlt
   have hmx := HM.out l[i] (List.getElem_mem hlt)
   have hj := Zd2 (l.take i) (fun x hx => HM.out x (List.mem_of_mem_take hx))
   have hln : (joinedE (l.take i)).length ≤ 100000 := by have := hj.2; rw [List.length_take] at this; omega
   have hst := Zbv (l.take i) l[i]
   rw [hts] at hst
   as_aux_lemma =>
    generalize l[i] = x at h0 h1 h2 h3 hmx hst
    have HJ := fun W (hb : Below w.heap.size w W) (hO : k86.R 86 W w.heap.size (fun _ => True) u3 (joinedE (l.take i))) => joinx_calls w.heap.size u3 (joinedE (l.take i)) x W hO hb.size hln hj.1 hmx
    have HJ := Aside0.mk HJ
    have HST := Aside0.mk hst
    clear hmx hj hln hst hts
    obtain ⟨⟨x0, x1⟩, ⟨x2, x3⟩⟩ := x
    simp only at h0 h1 h2 h3
    have HB1 := Aside0.mk (Zab HB.out (.cells #[.int .i64 x0, .int .i64 x1, .int .i64 x2, .int .i64 x3] 86))
    have hj := HJ.out _ HB1.out (Kd.R_alloc HO.out _)
    clear HJ HO
    go_wp2_with (fail)
    refine hj.mono ?_
    rintro e w2 ⟨v1, rfl, hR, hb2⟩
    have HB2 := Aside0.mk (HB1.out.trans hb2)
    have HR2 := Aside0.mk hR
    clear hR hb2 hj
    go_wp2_with (fail)
    go_roundg (gk - 1)
    case measure => omega
    case rel => exact ⟨i + 1, by go_num, hi1, by omega, ⟨by rw [HST.out]; exact HR2.out⟩, HB2⟩
  ·as_aux_lemma =>
    have hil : i = l.length := by omega
    subst hil
    have ho := HO.out
    rw [List.take_length] at ho
    have HO' := Aside0.mk ho
    clear ho HO
    go_wp2_with (fail)
    go_ret
    exact ⟨_, rfl, HO'.out, HB.out⟩
def MapAt (w : World) (g : Nat) (L : List S86) : Prop := ∃ A c, w.heap[g]? = some (.cells #[.slice A L.length c] 72 (0, 0)) ∧ L.length ≤ c ∧ Kd.C k86 w A L.length L
theorem MapAt.lt {w : World} {g : Nat} {L : List S86} (h : MapAt w g L) : g < w.heap.size := by
 obtain ⟨A, c, h1, _⟩ := h
 exact blk_lt h1
theorem MapAt.below {w w' : World} {g : Nat} {L : List S86} (h : MapAt w g L) (hb : Below w.heap.size w w') : MapAt w' g L := by
 obtain ⟨A, c, h1, h2, h3⟩ := h
 exact ⟨A, c, Zag h1 hb, h2, Kd.C_below h3 hb⟩
theorem MapAt.reads {w : World} {g : Nat} {L : List S86} (h : MapAt w g L) : ∃ A c, w.heap[g]? = some (.cells #[.slice A L.length c] 72 (0, 0)) ∧ L.length ≤ c ∧ Kd.C k86 w A L.length L := h
theorem Zc5 (w : World) : Calls Tryz.prog 5 #[] w fun e w' => ∃ g, e = .returned (.pointer (some ⟨g, 0, none⟩)) ∧ w.heap.size ≤ g ∧ MapAt w' g [] ∧ Below w.heap.size w w' := by
 go_enter Tryz.func5, Tryz.ntmps5
 go_wp2
 go_ret
 exact ⟨_, rfl, Nat.le_refl _, ⟨_, _, Zas _ _, Nat.le_refl _, Kd.C_nil _ _⟩, Zab (Below.refl _ _) _⟩
set_option maxRecDepth 100000 in
theorem ZbL (g : Nat) (L : List S86) (w : World) (h : MapAt w g L) (hl : L.length ≤ 100000) :
  Calls Tryz.prog 17 #[.pointer (some ⟨g, 0, none⟩)] w fun e w' => ∃ v, e = .returned v ∧ k86.R 86 w' w.heap.size (fun _ => True) v L ∧ Below w.heap.size w w' := by
 obtain ⟨A, c, hg, hc, hC⟩ := h.reads
 have c0 : w.cell? ⟨g, 0, none⟩ = some (.slice A L.length c) := (Zaa hg 0).trans rfl
 have hcl := Aside0.mk (clone86_calls A c L w hC (by omega))
 have hu72 := Tryz.underlying72
 have hu25 := Tryz.underlying25
 clear h hg hc hC
 go_enter Tryz.func17, Tryz.ntmps17
 go_wp2_with (fail)
 refine hcl.out.mono ?_
 rintro e w1 ⟨v, rfl, hR, hb⟩
 go_wp2_with (fail)
 go_ret
 exact ⟨_, rfl, hR, hb⟩
set_option maxRecDepth 100000 in
theorem Zeb (g : Nat) (L : List S86) (w : World) (h : MapAt w g L) (hl : L.length ≤ 100000) :
  Calls Tryz.prog 29 #[.pointer (some ⟨g, 0, none⟩)] w fun e w' => ∃ g', e = .returned (.pointer (some ⟨g', 0, none⟩)) ∧ w.heap.size ≤ g' ∧ MapAt w' g' L ∧ Below w.heap.size w w' := by
 have hA := Aside0.mk (ZbL g L w h hl)
 have hu72 := Tryz.underlying72
 have hu25 := Tryz.underlying25
 clear h
 go_enter Tryz.func29, Tryz.ntmps29
 go_wp2_with (fail)
 refine hA.out.mono ?_
 rintro e w1 ⟨v, rfl, hR, hb⟩
 obtain ⟨A, c, rfl⟩ := Kd.R_slice hR
 have HR := Aside0.mk hR
 clear hR hA
 go_wp2_with (fail)
 go_ret
 exact ⟨_, rfl, hb.size, ⟨A, c, Zas _ _, (Kd.R_reads' HR.out).2.1, Kd.C_alloc (Kd.R_reads' HR.out).2.2 _⟩, Zae hb (Zab (Below.refl _ _) _)⟩
def endE (x : S86) : Int := x.f0.f0 + x.f0.f1
def Rise (L : List S86) : Prop := L.Pairwise (fun x y => endE x ≤ y.f0.f0)
theorem put1_calls (x : S86) (w : World) : Calls Tryz.prog 73 #[.agg #[.int .i64 x.f0.f0, .int .i64 x.f0.f1, .int .i64 x.f1.f0, .int .i64 x.f1.f1]] w fun e w' => e = .returned (.bool (!decide (MayE x))) ∧ Below w.heap.size w w' := by
 have H := fun W => ZbB.calls _ _ _ _ _ W (mayE_f x)
 obtain ⟨⟨x0, x1⟩, ⟨x2, x3⟩⟩ := x
 simp only at H ⊢
 have z0 := Zas w (.cells #[.int .i64 x0, .int .i64 x1, .int .i64 x2, .int .i64 x3] 86)
 by_cases hm : MayE ⟨⟨x0, x1⟩, ⟨x2, x3⟩⟩
 ·rw [if_pos hm] at H
  rw [decide_eq_true hm]
  go_enter Tryz.func73, Tryz.ntmps73
  go_wp2_with (go_at_call 74; refine (H _).mono ?_; rintro e w' ⟨rfl, hb⟩)
  go_ret
  exact ⟨rfl, Zae (Zab (Below.refl _ _) _) hb⟩
 ·rw [if_neg hm] at H
  rw [decide_eq_false hm]
  go_enter Tryz.func73, Tryz.ntmps73
  go_wp2_with (go_at_call 74; refine (H _).mono ?_; rintro e w' ⟨rfl, hb⟩)
  go_ret
  exact ⟨rfl, Zae (Zab (Below.refl _ _) _) hb⟩
theorem cut1_calls (x : S70) (w : World) : Calls Tryz.prog 69 #[.agg #[.int .i64 x.f0, .int .i64 x.f1]] w fun e w' => e = .returned (.bool (!decide (MayS x))) ∧ Below w.heap.size w w' := by
 obtain ⟨x0, x1⟩ := x
 have H := fun W => ZbY x0 x1 W
 have z0 := Zas w (.cells #[.int .i64 x0, .int .i64 x1] 70)
 by_cases hm : MayS ⟨x0, x1⟩
 ·rw [if_pos hm] at H
  rw [decide_eq_true hm]
  go_enter Tryz.func69, Tryz.ntmps69
  go_wp2_with (go_at_call 70; refine (H _).mono ?_; rintro e w' ⟨rfl, hb⟩)
  go_ret
  exact ⟨rfl, Zae (Zab (Below.refl _ _) _) hb⟩
 ·rw [if_neg hm] at H
  rw [decide_eq_false hm]
  go_enter Tryz.func69, Tryz.ntmps69
  go_wp2_with (go_at_call 70; refine (H _).mono ?_; rintro e w' ⟨rfl, hb⟩)
  go_ret
  exact ⟨rfl, Zae (Zab (Below.refl _ _) _) hb⟩
theorem MayE.span {x : S86} (h : MayE x) : MayS x.f0 := ⟨h.1, h.2.1, h.2.2.1⟩
theorem ZcW (x : S86) (hx : MayE x) (at_ : Int) (ha : 0 ≤ at_ ∧ at_ ≤ 1000000) (w : World) : Calls Tryz.prog 118 #[.agg #[.int .i64 x.f0.f0, .int .i64 x.f0.f1, .int .i64 x.f1.f0, .int .i64 x.f1.f1], .int .i64 at_] w fun e w' => e = .returned (.int .i64 (endE x - at_ - 1)) ∧ Below w.heap.size w w' := by
 have H := fun W => ZaN x.f0.f0 x.f0.f1 hx.span W
 obtain ⟨⟨x0, x1⟩, ⟨x2, x3⟩⟩ := x
 unfold endE
 simp only at H ⊢
 have z0 := Zas w (.cells #[.int .i64 x0, .int .i64 x1, .int .i64 x2, .int .i64 x3] 86)
 have hb : 0 ≤ x0 + x1 ∧ x0 + x1 ≤ 65536 := by obtain ⟨h1, h2, h3, _⟩ := hx; simp only at h1 h2 h3; omega
 have HX := Aside0.mk hx
 clear hx
 generalize x0 + x1 = e at H hb ⊢
 have hu86 := Tryz.underlying86
 have hu70 := Tryz.underlying70
 go_enter Tryz.func118, Tryz.ntmps118
 go_wp2_with (go_at_call 24; refine (H _).mono ?_; rintro e w' ⟨rfl, hb⟩)
 go_ret
 exact ⟨rfl, Zae (Zab (Below.refl _ _) _) hb⟩
theorem rise_ends {L : List S86} (h : Rise L) (hm : ∀ x ∈ L, MayE x) : L.Pairwise (fun x y => endE x < endE y) := by
 rw [List.pairwise_iff_getElem]
 intro i j hi hj hij
 have h1 := List.pairwise_iff_getElem.1 h i j hi hj hij
 have h2 := hm L[j] (List.getElem_mem hj)
 unfold endE at *
 have := h2.2.1
 omega
def Cutat (L : List S86) (at_ : Int) (i : Nat) : Prop := i ≤ L.length ∧ (∀ k (h : k < L.length), k < i → endE L[k] ≤ at_) ∧ ∀ k (h : k < L.length), i ≤ k → at_ < endE L[k]
def bsB (L : List S86) (at_ : Int) (i : Nat) : Bool := match L[i]? with
 | some x => endE x - at_ - 1 == 0
 | none => false
def BsQ (L : List S86) (at_ : Int) (w : World) (e : Ending) (w' : World) : Prop := ∃ (i : Nat), e = .returned (.tuple #[.int .i64 (i : Int), .bool (bsB L at_ i)]) ∧ Cutat L at_ i ∧ Below w.heap.size w w'
set_option maxRecDepth 100000 in
set_option maxHeartbeats 4000000 in
theorem bs86_calls (A : Option Addr) (c : Nat) (L : List S86) (at_ : Int) (w : World) (hr : Kd.C k86 w A L.length L) (hl : L.length ≤ 100000) (hm : ∀ x ∈ L, MayE x) (hri : Rise L) (ha : 0 ≤ at_ ∧ at_ ≤ 1000000) :
  Calls Tryz.prog 117 #[.slice A L.length c, .int .i64 at_, .func (.func 118) #[] #[]] w (BsQ L at_ w) := by
 have hu31 := Tryz.underlying31
 have hu86 := Tryz.underlying86
 have eg : ∀ args w, (callFunc 118 args).run Tryz.prog w = .ok (.enter 118 args) w := enters_of Tryz.func118 (by kernel_rfl) rfl
 have HR := Aside0.mk hr
 have HM := Aside0.mk hm
 have HE := Aside0.mk (rise_ends hri hm)
 have HA := Aside0.mk ha
 clear hr hm hri ha
 go_enter Tryz.func117, Tryz.ntmps117
 go_wp2_with (fail)
 go_loopg [9, 10] L.length (fun kx v9 v10 wr => ∃ i j : Nat, v9 = .int .i64 (i : Int) ∧ v10 = .int .i64 (j : Int) ∧ i ≤ j ∧ j ≤ L.length ∧ j - i ≤ kx ∧ Aside0 ((∀ k (h : k < L.length), k < i → endE L[k] ≤ at_) ∧ ∀ k (h : k < L.length), j ≤ k → at_ < endE L[k]) ∧ Aside0 (Below w.heap.size w wr))
 case atStart => exact ⟨0, L.length, rfl, rfl, Nat.zero_le _, Nat.le_refl _, by omega, ⟨⟨fun k h hk => absurd hk (Nat.not_lt_zero _), fun k h hk => by omega⟩⟩, ⟨Below.refl _ _⟩⟩
 case round =>
  obtain ⟨i, j, rfl, rfl, hij, hj, hk, HI, HB⟩ := hrel
  by_cases hlt : i < j
  ·obtain ⟨h, hh⟩ : ∃ h, h = (i + j) / 2 := ⟨_, rfl⟩
   have hh1 : i ≤ h := by omega
   have hh2 : h < j := by omega
   have hhl : h < L.length := by omega
   obtain ⟨ad, rfl, h0, h1, h2, h3⟩ := ZaF (Kd.C_below HR.out HB.out) h hhl
   have hmx := HM.out L[h] (List.getElem_mem hhl)
   have hc := ZcW L[h] hmx at_ HA.out wr
   have hdiv : ((i : Int) + (j : Int)) / 2 = (h : Int) := by omega
   have hd1 : decide (i < j) = true := decide_eq_true hlt
   have HH := Aside0.mk hh
   clear hh hmx
   by_cases hq : endE L[h] ≤ at_
   ·have hI := Aside0.mk (show (∀ k (hk : k < L.length), k < h + 1 → endE L[k] ≤ at_) ∧ ∀ k (hk : k < L.length), j ≤ k → at_ < endE L[k] from ⟨fun k hk hkh => by
     by_cases e : k = h
     ·subst e; exact hq
     ·have := List.pairwise_iff_getElem.1 HE.out k h hk hhl (by omega)
      omega, HI.out.2⟩)
    have hd2 : decide (endE L[h] - at_ - 1 < 0) = true := decide_eq_true (by omega)
    as_aux_lemma =>
     generalize endE L[h] - at_ - 1 = q at hc hd2
     generalize L[h] = x at h0 h1 h2 h3 hc
     obtain ⟨⟨x0, x1⟩, ⟨x2, x3⟩⟩ := x
     simp only at h0 h1 h2 h3 hc
     clear hq
     go_wp2_with (fail)
     refine hc.mono ?_
     rintro e w2 ⟨rfl, hb2⟩
     go_wp2_with (fail)
     go_roundg (gk - 1)
     case measure => omega
     case rel => exact ⟨h + 1, j, by go_num, rfl, by omega, hj, by omega, hI, ⟨Zae HB.out hb2⟩⟩
   ·have hI := Aside0.mk (show (∀ k (hk : k < L.length), k < i → endE L[k] ≤ at_) ∧ ∀ k (hk : k < L.length), h ≤ k → at_ < endE L[k] from ⟨HI.out.1, fun k hk hkh => by
     by_cases e : k = h
     ·subst e; omega
     ·have := List.pairwise_iff_getElem.1 HE.out h k hhl hk (by omega)
      omega⟩)
    have hd2 : decide (endE L[h] - at_ - 1 < 0) = false := decide_eq_false (by omega)
    as_aux_lemma =>
     generalize endE L[h] - at_ - 1 = q at hc hd2
     generalize L[h] = x at h0 h1 h2 h3 hc
     obtain ⟨⟨x0, x1⟩, ⟨x2, x3⟩⟩ := x
     simp only at h0 h1 h2 h3 hc
     clear hq
     go_wp2_with (fail)
     refine hc.mono ?_
     rintro e w2 ⟨rfl, hb2⟩
     go_wp2_with (fail)
     go_roundg (gk - 1)
     case measure => omega
     case rel => exact ⟨i, h, rfl, rfl, hh1, by omega, by omega, hI, ⟨Zae HB.out hb2⟩⟩
  ·have hie : j = i := by omega
   subst hie
   have HC := Aside0.mk (show Cutat L at_ j from ⟨hj, HI.out.1, HI.out.2⟩)
   by_cases hn : j < L.length
   ·obtain ⟨ad, rfl, h0, h1, h2, h3⟩ := ZaF (Kd.C_below HR.out HB.out) j hn
    have hmx := HM.out L[j] (List.getElem_mem hn)
    have hc := ZcW L[j] hmx at_ HA.out wr
    have hd1 : decide (j < L.length) = true := decide_eq_true hn
    have HBB := Aside0.mk (show bsB L at_ j = (endE L[j] - at_ - 1 == 0) by unfold bsB; rw [List.getElem?_eq_getElem hn])
    clear hmx
    as_aux_lemma =>
     generalize endE L[j] - at_ - 1 = q at hc HBB
     generalize L[j] = x at h0 h1 h2 h3 hc
     obtain ⟨⟨x0, x1⟩, ⟨x2, x3⟩⟩ := x
     simp only at h0 h1 h2 h3 hc
     go_wp2_with (fail)
     refine hc.mono ?_
     rintro e w2 ⟨rfl, hb2⟩
     go_wp2_with (fail)
     go_ret2
     exact ⟨j, by simp [HBB.out], HC.out, Zae HB.out hb2⟩
   ·have hd1 : decide (j < L.length) = false := decide_eq_false hn
    as_aux_lemma =>
     go_wp2_with (fail)
     go_ret2
     exact ⟨j, by simp [show bsB L at_ j = false by unfold bsB; rw [List.getElem?_eq_none (by omega)]], HC.out, HB.out⟩
end Go.Proofs.YtpfnaknmalojkaaGreat.PTopRows
namespace Go.Proofs.YtpfnaknmalojkaaGreat.PTopRows
open Go.Shelf
def growE_ren : Go.Shelf.Ren := ⟨fun | 4 => 149 | n => n, fun | 22 => 31 | 25 => 86 | 3 => 3 | 4 => 4 | 9 => 9 | 20 => 20 | 0 => 0 | n => n, fun | n => n⟩
theorem growE : Go.Proofs.Lays8.n4 Tryz.prog growE_ren := {
 mixed := by kernel_rfl
 f4 := ⟨Tryz.f149.name, by decide, Tryz.func149.trans (congrArg some (by kernel_rfl))⟩
 t0 := Tryz.underlying0
 a0 := Tryz.isAgg0
 z0 := Tryz.sizeOf0
 v0 := Tryz.zeroValue0
 t3 := Tryz.underlying3
 a3 := Tryz.isAgg3
 z3 := Tryz.sizeOf3
 v3 := Tryz.zeroValue3
 t4 := Tryz.underlying4
 a4 := Tryz.isAgg4
 z4 := Tryz.sizeOf4
 v4 := Tryz.zeroValue4
 t9 := Tryz.underlying9
 a9 := Tryz.isAgg9
 z9 := Tryz.sizeOf9
 v9 := Tryz.zeroValue9
 t20 := Tryz.underlying20
 a20 := Tryz.isAgg20
 z20 := Tryz.sizeOf20
 v20 := Tryz.zeroValue20
 t22 := Tryz.underlying31
 a22 := Tryz.isAgg31
 z22 := Tryz.sizeOf31
 v22 := Tryz.zeroValue31 }
end Go.Proofs.YtpfnaknmalojkaaGreat.PTopRows
namespace Go.Proofs.YtpfnaknmalojkaaGreat.PTopRows
open Go.RowKit Go.Maps Go.Sort Go.Proofs.YtpfnaknmalojkaaGreatW.PrintWords Go.Proofs.YtpfnaknmalojkaaGreatW.PrintLast Go.Proofs.YtpfnaknmalojkaaGreatW.PrintMore
set_option linter.unusedVariables false
set_option linter.unusedSimpArgs false
theorem grow_nil (n : Nat) (hn : n ≤ 1000000) (w : World) : Calls Tryz.prog 149 #[.slice none 0 0, .int .i64 (n : Int)] w fun e w' => ∃ v, e = .returned v ∧ k86.R 86 w' w.heap.size (fun _ => True) v [] ∧ Below w.heap.size w w' := by
 by_cases h0 : n = 0
 ·subst h0
  have h := Any8.slices_Grow_room growE none 0 0 0 w (Nat.le_refl _) (by omega) (by omega) (by omega)
  change Calls Tryz.prog 149 _ _ _ at h
  exact h.mono fun e w' ⟨he, hw⟩ => ⟨_, he, Kd.R_nil _ _ _ _ _, by rw [hw]; exact Below.refl _ _⟩
 ·obtain ⟨i0, hi, hz0, hz1, hz2⟩ := info_parts info86
  have h := Any8.slices_Grow_grow growE i0 _ hi hz0 (by rw [hz1]; decide) none 0 0 n [] w (Nat.le_refl _) (by omega) (by rw [hz2]; omega) (by omega) (by simp) (fun _ => rfl) (fun a h => by cases h)
  change Calls Tryz.prog 149 _ _ _ at h
  have key : ∀ (G : Nat) (cur : Array Value), G ≤ maxLen → cur.size = G * 4 → k86.R 86 (w.drew.alloc (.cells cur 86)) w.heap.size (fun _ => True) (.slice (some ⟨w.heap.size, 0, none⟩) 0 G) [] := fun G cur h1 h2 =>
   ⟨fun _ _ => trivial, [], ⟨by simp, .inr ⟨w.heap.size, G, cur, rfl, Nat.le_refl _, Zas w.drew _, Nat.zero_le _, h1, h2, by simp⟩⟩, Reps.none _ _⟩
  refine h.mono fun e w' ⟨he, hw⟩ => ?_
  subst hw
  refine ⟨_, he, key _ _ (grownCap_le_maxLen w _ _ _ (by unfold maxLen; omega)) ?_, (ZaV (Below.refl _ w)).alloc (Nat.le_refl _) _⟩
  simp only [Array.size_append, size_zeroCells, List.size_toArray, List.length_nil]
  have hge : 0 + n ≤ grownCap w (0 + n) 0 86 := grownCap_ge w _ _ _
  show 0 + (0 + n - 0) * 4 + (grownCap w (0 + n) 0 86 - (0 + n)) * 4 = grownCap w (0 + n) 0 86 * 4
  omega
theorem rdL9_get {Ls : List (List S86)} {i : Nat} (h : i < Ls.length) : rd_L9 Ls (i : Int) = Ls[i] := by
 unfold rd_L9
 rw [List.getD_eq_getElem?_getD, Int.toNat_natCast, List.getElem?_eq_getElem h]
 rfl
theorem flat_snoc {Ls : List (List S86)} {i : Nat} (h : i < Ls.length) : (Ls.take (i + 1)).flatten = (Ls.take i).flatten ++ Ls[i] := by
 rw [List.take_add_one, List.getElem?_eq_getElem h, List.flatten_append]
 simp
theorem flat_len (Ls : List (List S86)) (i : Nat) : (Ls.take i).flatten.length ≤ Ls.flatten.length := by
 conv => rhs; rw [← List.take_append_drop i Ls]
 rw [List.flatten_append, List.length_append]
 omega
set_option maxRecDepth 100000 in
set_option maxHeartbeats 4000000 in
theorem Zdp (A : Option Addr) (c : Nat) (Ls : List (List S86)) (w : World) (hr : Kd.C (Kd.slice 86 k86) w A Ls.length Ls) (hl : Ls.length ≤ 100) (hf : Ls.flatten.length ≤ 100000) :
  Calls Tryz.prog 115 #[.slice A Ls.length c] w fun e w' => ∃ v, e = .returned v ∧ k86.R 86 w' w.heap.size (fun _ => True) v Ls.flatten ∧ Below w.heap.size w w' := by
 have hu31 := Tryz.underlying31
 have hu86 := Tryz.underlying86
 have hu212 := Tryz.underlying212
 have HR := Aside0.mk hr
 clear hr
 go_enter Tryz.func115, Tryz.ntmps115
 go_wp2_with (fail)
 go_loopg [3, 11] Ls.length (fun kx v3 v11 wr => ∃ i : Nat, v11 = .int .i64 (i : Int) ∧ i ≤ Ls.length ∧ Ls.length - i ≤ kx ∧ v3 = .int .i64 ((Ls.take i).flatten.length : Int) ∧ Aside0 (Below w.heap.size w wr))
 case atStart => exact ⟨0, rfl, Nat.zero_le _, by omega, rfl, ⟨Below.refl _ _⟩⟩
 case round =>
  obtain ⟨i, rfl, hi, hik, rfl, HB⟩ := hrel
  by_cases hlt : i < Ls.length
  ·have hi1 : i + 1 ≤ Ls.length := hlt
   obtain ⟨ad, A0, c0, rfl, h0, h1, h2⟩ := at_L9 (Kd.C_below HR.out HB.out) (i : Int) (by omega) (by omega)
   rw [rdL9_get hlt, Int.toNat_natCast] at h0
   have hfs := congrArg List.length (flat_snoc hlt)
   rw [List.length_append] at hfs
   have hfl := flat_len Ls (i + 1)
   have HFS := Aside0.mk hfs
   have hbd : (Ls.take i).flatten.length + Ls[i].length ≤ 100000 := by omega
   clear h1 h2 hfs hfl
   as_aux_lemma =>
    generalize Ls[i].length = n0 at h0 HFS hbd
    generalize (Ls.take i).flatten.length = t0 at HFS hbd ⊢
    have hd1 : decide ((t0 : Int) + (n0 : Int) < 0) = false := decide_eq_false (by omega)
    have hw1 : IntKind.i64.wrap ((t0 : Int) + (n0 : Int)) = (t0 : Int) + (n0 : Int) := IntWalk.i64_in _ (by omega)
    go_wp2_with (fail)
    go_roundg (gk - 1)
    case measure => omega
    case rel => exact ⟨i + 1, by go_num, hi1, by omega, by first | (rw [HFS.out]; rfl) | (rw [HFS.out]; go_num), HB⟩
  ·have hil : i = Ls.length := by omega
   subst hil
   rw [List.take_length]
   as_aux_lemma =>
    have HF := Aside0.mk hf
    have HG := Aside0.mk (fun W => grow_nil Ls.flatten.length (by omega) W)
    generalize Ls.flatten.length = tot at hf HG ⊢
    go_wp2_with (fail)
    refine (HG.out wr).mono ?_
    rintro e w1 ⟨v1, rfl, hR, hb1⟩
    have HR1 := Aside0.mk (Kd.R_lower hR HB.out.size)
    have HB1 := Aside0.mk (Zae HB.out hb1)
    clear hR hb1 hlt hi hik
    go_wp2_with (fail)
    go_loopg [6, 27] Ls.length (fun kx v6 v27 wr => ∃ i : Nat, v27 = .int .i64 (i : Int) ∧ i ≤ Ls.length ∧ Ls.length - i ≤ kx ∧ Aside0 (k86.R 86 wr w.heap.size (fun _ => True) v6 (Ls.take i).flatten) ∧ Aside0 (Below w.heap.size w wr))
    case atStart => exact ⟨0, rfl, Nat.zero_le _, by omega, HR1, HB1⟩
    case round =>
     obtain ⟨i, rfl, hi, hik, HO, HB2⟩ := hrel
     by_cases hlt : i < Ls.length
     ·have hi1 : i + 1 ≤ Ls.length := hlt
      obtain ⟨ad, A0, c0, rfl, h0, h1, h2⟩ := at_L9 (Kd.C_below HR.out HB2.out) (i : Int) (by omega) (by omega)
      rw [rdL9_get hlt] at h1 h2
      rw [rdL9_get hlt, Int.toNat_natCast] at h0
      have hfs := flat_snoc hlt
      have hfl := flat_len Ls (i + 1)
      rw [hfs, List.length_append] at hfl
      have HFS := Aside0.mk hfs
      have HC := Aside0.mk h2
      have HBS := Aside0.mk HB2.out.size
      have hbd : (Ls.take i).flatten.length + Ls[i].length ≤ 1000000 := by have := HF.out; omega
      clear h1 h2 hfs hfl
      as_aux_lemma =>
       generalize Ls[i] = l0 at h0 HFS HC hbd
       go_wp2_with (at_builtin; refine apps86 rfl _ _ rfl _ _ l0 A0 l0.length c0 rfl rfl HO.out HC.out HBS.out hbd ?_; intro v1 w7 ho hb hg)
       go_roundg (gk - 1)
       case measure => omega
       case rel => exact ⟨i + 1, by go_num, hi1, by omega, ⟨by rw [HFS.out]; exact ho⟩, ⟨HB2.out.trans hb⟩⟩
     ·have hil : i = Ls.length := by omega
      subst hil
      have ho := HO.out
      rw [List.take_length] at ho
      have HO' := Aside0.mk ho
      clear ho HO
      go_wp2_with (fail)
      go_ret
      exact ⟨_, rfl, HO'.out, HB2.out⟩
section
variable {P : Program} {ops : Array Oper} {md : Region.Mode} {C : World → Prop}
def wpQL (P : Program) (md : Region.Mode) (ops : Array Oper) (C : World → Prop) (n : Nat) (L : Array Bool → Act → Prop) : Nat → Array Bool → Act → Prop
 | 0, listed, a => L listed a
 | f + 1, listed, a => Region.ready md ops listed ≠ [] ∧ ∀ i ∈ Region.ready md ops listed, i < n ∧ qOp P ops C i (wpQL P md ops C n L f (listed.setIfInBounds i true)) a
theorem Zcr {n g : Nat} {L : Array Bool → Act → Prop} {Q' : Exit → Act → World → Prop} (hL : ∀ listed a w, C w → L listed a → wpAny P md ops Q' g listed a w) :
  ∀ (f : Nat) (listed : Array Bool) (a : Act) (w : World), C w → wpQL P md ops C n L f listed a → wpAny P md ops Q' (f + g) listed a w
 | 0, listed, a, w, hw, h => by rw [Nat.zero_add]; exact hL _ _ _ hw h
 | f + 1, listed, a, w, hw, h => by
  rw [show f + 1 + g = (f + g) + 1 by omega]
  exact ⟨fun h0 => absurd h0 h.1, fun i hi => wpOp_of_qOp hw (fun a' w' hw' h' => Zcr hL f _ a' w' hw' h') (h.2 i hi).2⟩
theorem wpQL_first {n i : Nat} {oi : Oper} {v : Value} {L : Array Bool → Act → Prop} (hi : ops[i]? = some oi) (hsel : ∀ (j : Nat) (o : Oper) cs b, ops[j]? = some o → o.op ≠ .select cs b)
  (hs : Region.sinkB md ops n = true) (hc : Region.chainB md ops n = true) (hn : n < ops.size) (hin : i < n)
  (hdone : ∀ listed a, L listed a → ∀ j ∈ Region.ready md ops listed, n ≤ j) :
  ∀ (f : Nat) (listed : Array Bool) (a : Act), HeadInv md ops n listed →
   (∀ j oj, ops[j]? = some oj → j ≠ i → listed.getD j true = false → (∀ e ∈ oj.after, Region.binds md e = true → e.on ≠ i) → oi.apart ops oj = true) →
   i ∈ Region.ready md ops listed → YieldsIn P ops C oi v a →
   wpQL P md ops C n L f (listed.setIfInBounds i true) (a.put oi.dst v) → wpQL P md ops C n L (f + 1) listed a := by
 intro f
 induction f with
 | zero =>
  intro listed a inv _ hr hy H
  have hun := (mem_ready.1 hr).1
  refine ⟨fun h => (by rw [h] at hr; cases hr), fun j hj => ?_⟩
  have hjn : j < n := by
   rcases Nat.lt_or_ge j n with h | h
   ·exact h
   ·exact absurd hj (tail_waits hs hc hn inv _ i rfl hin hun j h)
  refine ⟨hjn, ?_⟩
  by_cases hji : j = i
  ·subst hji; exact hy.qOp hi H
  ·have := hdone _ _ H j (ready_mono hj hji)
   omega
 | succ f ih =>
  intro listed a inv hfree hr hy H
  have hun := (mem_ready.1 hr).1
  refine ⟨fun h => (by rw [h] at hr; cases hr), fun j hj => ?_⟩
  have hjn : j < n := by
   rcases Nat.lt_or_ge j n with h | h
   ·exact h
   ·exact absurd hj (tail_waits hs hc hn inv _ i rfl hin hun j h)
  refine ⟨hjn, ?_⟩
  by_cases hji : j = i
  ·subst hji; exact hy.qOp hi H
  ·have h1 := (H.2 j (ready_mono hj hji)).2
   obtain ⟨hjun, oj, hoj, hall⟩ := mem_ready.1 hj
   have hnot : ∀ e ∈ oj.after, Region.binds md e = true → e.on ≠ i := fun e he hb heq => by
    have h1 := hall e he hb
    rw [heq, getD_both hun] at h1
    cases h1
   have h2 := qOp_put hoj (hfree j oj hoj hji hjun hnot) (fun cs b => hsel i oi cs b hi) (fun cs b => hsel j oj cs b hoj) hy h1
   have hfree' : ∀ k ok, ops[k]? = some ok → k ≠ i → (listed.setIfInBounds j true).getD k true = false →
     (∀ e ∈ ok.after, Region.binds md e = true → e.on ≠ i) → oi.apart ops ok = true := fun k ok hk hki hun hno => by
    refine hfree k ok hk hki ?_ hno
    by_cases hjk : j = k
    ·subst hjk; exact hjun
    ·rw [getD_set_ne true hjk] at hun; exact hun
   refine qOp_mono (fun a' h3 => ih (listed.setIfInBounds j true) a' (inv.set hj hjn) hfree' (ready_mono hr (Ne.symm hji)) h3.1 ?_) h2
   rw [Array.setIfInBounds_comm _ _ hji]
   exact h3.2
theorem wpQL_lex {n g : Nat} {Lq : Act → Prop} (hsel : Region.noSelect ops = true) (hs : Region.sinkB md ops n = true) (hc : Region.chainB md ops n = true) (hn : n < ops.size) :
  ∀ (l : List Oper) (k : Nat) (listed : Array Bool) (a : Act), (∀ j, j < l.length → l[j]? = ops[k + j]?) → k + l.length = n → HeadInv md ops n listed →
  Region.lexHead md ops g l.length k listed = true → wpQuiet P ops C Lq l a →
  wpQL P md ops C n (fun listed' a' => Region.seqB md ops g n listed' = true ∧ Lq a') l.length listed a
 | [], k, listed, a, _, hk, _, hB, h => by
  have : k = n := by simpa using hk
  subst this
  exact ⟨by simpa [Region.lexHead] using hB, h⟩
 | o :: l, k, listed, a, hl, hk, inv, hB, h => by
  have h0 : ops[k]? = some o := by simpa using (hl 0 (by simp)).symm
  simp only [List.length_cons, Region.lexHead, Bool.and_eq_true] at hB
  obtain ⟨⟨hr, hf⟩, hB'⟩ := hB
  have hkn : k < n := by simp only [List.length_cons] at hk; omega
  have hr' : k ∈ Region.ready md ops listed := by simpa using hr
  have hst : qOp P ops C k (wpQuiet P ops C Lq l) a := by unfold qOp; simp only [h0]; exact h
  obtain ⟨v, hy, hK⟩ := yieldsIn_of_qOp h0 hst
  exact wpQL_first h0 (Region.noSelect_spec hsel) hs hc hn hkn (fun listed' a' hL => seqB_ready hL.1) l.length listed a inv (Region.free_spec h0 hf) hr' hy
   (wpQL_lex hsel hs hc hn l (k + 1) _ _ (fun j hj => by have := hl (j + 1) (by simp; omega); simpa [Nat.add_assoc, Nat.add_comm 1 j] using this) (by simp only [List.length_cons] at hk; omega) (inv.set hr' hkn) hB' hK)
theorem Zcp {id : Nat} {Q : Exit → Act → World → Prop} {a : Act} {w : World} {l : List Oper} (n : Nat) (hm : P.follows .mixedOrders = true) (hB : Region.lexTailB .any l.toArray n = true) (hC : C { w with drawn := w.drawn + 1 })
  (h : wpQuiet P l.toArray C (fun a' => ∀ w', C w' → wpList P l.toArray Q (l.drop n) a' w') (l.take n) a) : (Code.region id l.toArray true).wp P Q a w := by
 simp only [Region.lexTailB, Bool.and_eq_true, decide_eq_true_eq] at hB
 obtain ⟨⟨⟨⟨hsel, hn⟩, hs⟩, hc⟩, hlex⟩ := hB
 have hn' : n < l.length := by simpa using hn
 have htl : (l.take n).length = n := by simp; omega
 have hdl : (l.drop n).length = l.toArray.size - n := by simp
 have inv0 : HeadInv .any l.toArray n (Array.replicate l.toArray.size false) :=
  ⟨by simp, fun j oj _ hl => (by rw [getD_replicate_false] at hl; cases hl), fun t _ ht => getD_in (by simpa using ht) (getD_replicate_false _ _)⟩
 have H := wpQL_lex (md := .any) (g := l.toArray.size - n) hsel hs hc hn (l.take n) 0 _ a (fun j hj => by
  have hj' : j < n := by rw [htl] at hj; exact hj
  simp [hj']) (by simpa using htl) inv0 (by rw [htl]; exact hlex) h
 refine wp_region_any hm ?_
 have := Zcr (Q' := Q) (g := l.toArray.size - n) (fun listed a' w' hw' hL => by
  have := wpAny_of_seq (md := .any) (Q' := Q) (l.drop n) n listed a' w' (fun j => by simp [List.getElem?_drop]) (by rw [hdl]; exact hL.1) (hL.2 w' hw')
  rwa [hdl] at this) _ _ _ _ hC H
 rw [htl, show n + (l.toArray.size - n) = l.toArray.size by omega] at this
 exact this
end
theorem Zei {P : Program} {id : Nat} {Q : Exit → Act → World → Prop} {a : Act} {w : World} {l : List Oper} (n : Nat) (hm : P.follows .mixedOrders = true) (hB : Region.lexTailB .any l.toArray n = true)
  (h : WQ P l.toArray (fun w' => ∃ p : Abv w, w' = p.out) (fun a' => ∀ w', (∃ p : Abv w, w' = p.out) → wpList P l.toArray Q (l.drop n) a' w') (l.take n) a) : (Code.region id l.toArray true).wp P Q a w :=
 Zcp (C := fun w' => ∃ p : Abv w, w' = p.out) n hm hB ⟨⟨_, ZaV (Below.refl _ _)⟩, rfl⟩ h.out
end Go.Proofs.YtpfnaknmalojkaaGreat.PTopRows
namespace Go.Proofs.YtpfnaknmalojkaaGreat.PTopRows
open Go.RowKit Go.Proofs.YtpfnaknmalojkaaGreatW.PrintWords Go.Proofs.YtpfnaknmalojkaaGreatW.PrintLast Go.Proofs.YtpfnaknmalojkaaGreatW.PrintMore
attribute [local go_sem] Za5 Za4 Zbp Zbo Za7 Za6 Zbl Zbk   -- for this text's walks alone
set_option linter.unusedVariables false
set_option linter.unusedSimpArgs false
def Za3.l0 : Nat → Int → Int → Option (Int)
 | 0, _, _ => none
 | k + 1, x0, x9 => if x9 < 8 then ((ZcR.f x0).bind fun t154 => (Za3.l0 k t154 (wrap64 (x9 + 1)))) else (some x0)
def Za3.f (k : Nat) (a0 : Int) (a1 : Int) : Option (Int) := Za3.l0 k (Go.bits .xor .u32 a0 ((a1) % 4294967296)) 0
set_option maxHeartbeats 8000000 in
set_option maxRecDepth 100000 in
theorem Za3.calls (k : Nat) (a0 : Int) (a1 : Int) (r : Int) (w : World) (h : Za3.f k a0 a1 = some r) :
  Calls Tryz.prog 180 #[.int .u32 a0, .int .u8 a1] w fun e w' => e = .returned (.int .u32 r) ∧ Drawn0 w w' := by
 have H : (Za3.l0 k (Go.bits .xor .u32 a0 ((a1) % 4294967296)) 0) = some r := h
 clear h
 have H' := Aside0.mk H
 clear H
 go_enter Tryz.func180, Tryz.ntmps180
 go_wp2
 go_loopg [0, 9] k (fun kq v0 v9 w' => ∃ (x0_1 : Int) (x9_1 : Int), v0 = .int .u32 x0_1 ∧ v9 = .int .i64 x9_1 ∧ Aside0 (Za3.l0 kq x0_1 x9_1 = some r) ∧ Aside0 (kq ≤ k) ∧ Drawn0 w w')
 case atStart => exact ⟨(Go.bits .xor .u32 a0 ((a1) % 4294967296)), (0), (by first | rfl | (simp; done) | (simp [*]; done)), (by first | rfl | (simp; done) | (simp [*]; done)), H', ⟨Nat.le_refl _⟩, by repeat (first | exact Drawn0.refl _ | apply Drawn0.step)⟩
 case round =>
  clear H'
  try clear c1
  try clear p2
  obtain ⟨x0_1, x9_1, rfl, rfl, HA, HK1, ⟨m1, rfl⟩⟩ := hrel
  cases gk with
  | zero => exact absurd HA.out (by simp [Za3.l0])
  | succ k1 =>
   have H := HA.out
   clear HA
   simp only [Za3.l0] at H
   by_cases c3 : x9_1 < 8
   ·rw [if_pos c3] at H
    have c3b0 : decide (x9_1 < 8) = true := decide_eq_true c3
    clear c3
    replace H := Option.bind_eq_some_iff.mp H
    obtain ⟨t154, A40, H⟩ := H
    replace H : (Za3.l0 k1 t154 (wrap64 (x9_1 + 1))) = some r := H
    have A4 := Aside0.mk A40
    clear A40
    have H' := Aside0.mk H
    clear H
    go_wp2_with (first | ((with_reducible refine Zaz (f := 191) rfl ?_); refine goesL_ (some 12) rfl rfl Tryz.func191 (by kernel_rfl) rfl #[.int .u32 x0_1] rfl (by (try simp only [List.map_toArray, List.map_cons, List.map_nil]); first | done | rfl | (simp only [List.length_drop, List.length_take]; rfl)) ?_; (with_reducible refine (ZcR.calls x0_1 t154 _ A4.out).mono ?_); rintro e w' ⟨rfl, ⟨nd, rfl⟩⟩; refine ⟨_, rfl, ?_⟩))
    go_roundg k1
    case measure => have := HK1.out; omega
    case rel => exact ⟨(t154), (wrap64 (x9_1 + 1)), (by first | rfl | (simp; done) | (simp [*]; done)), (by first | rfl | (simp; done) | (simp [*]; done)), H', ⟨by have := HK1.out; omega⟩, by repeat (first | exact Drawn0.refl _ | apply Drawn0.step)⟩
   ·rw [if_neg c3] at H
    have c3b0 : decide (x9_1 < 8) = false := decide_eq_false c3
    clear c3
    obtain rfl := Option.some.inj H
    go_wp2
    go_ret
    exact ⟨by first | rfl | (simp; done) | (simp [*]; done), by repeat (first | exact Drawn0.refl _ | apply Drawn0.step)⟩
def Zb6.f (a0_0 : Int) (a0_1 : Int) (a0_2 : Int) (a0_3 : Int) (a1 : Int) (a2 : Int) : Option (Int × Int × Int × Int) := some (a1, wrap64 (a2 - a1), a0_2, wrap64 ((wrap64 (a0_3 + a1)) - a0_0))
set_option maxHeartbeats 8000000 in
set_option maxRecDepth 100000 in
theorem Zb6.calls (a0_0 : Int) (a0_1 : Int) (a0_2 : Int) (a0_3 : Int) (a1 : Int) (a2 : Int) (r1 : Int) (r2 : Int) (r3 : Int) (r4 : Int) (w : World) (h : Zb6.f a0_0 a0_1 a0_2 a0_3 a1 a2 = some (r1, r2, r3, r4)) :
  Calls Tryz.prog 77 #[.agg #[.int .i64 a0_0, .int .i64 a0_1, .int .i64 a0_2, .int .i64 a0_3], .int .i64 a1, .int .i64 a2] w fun e w' => e = .returned (.agg #[.int .i64 r1, .int .i64 r2, .int .i64 r3, .int .i64 r4]) ∧ Below w.heap.size w w' := by
 have hu86 := Tryz.underlying86
 have hu70 := Tryz.underlying70
 have hu84 := Tryz.underlying84
 have HB := Aside0.mk (Below.refl w.heap.size w)
 have H : (some (a1, wrap64 (a2 - a1), a0_2, wrap64 ((wrap64 (a0_3 + a1)) - a0_0))) = some (r1, r2, r3, r4) := h
 clear h
 simp only [Option.some.injEq, Prod.mk.injEq] at H
 obtain ⟨rfl, rfl, rfl, rfl⟩ := H
 go_enter Tryz.func77, Tryz.ntmps77
 go_wp2_with (first | ((with_reducible refine Zaw (N := 3) rfl ?_); refine Zau ?hg (N := 3) ?hd (cs := #[.int .i64 a0_0, .int .i64 a0_1, .int .i64 a0_2, .int .i64 a0_3]) (t := 86) ?hr ?_; (case hd => rfl); (case hg => rfl); (case hr => first | (go_simp; done) | (go_simp; rfl)); intro gb173 hg w4 hbox hb; have n0_ := Aside0.mk (Zae (by repeat (first | (with_reducible first | exact HB.out | apply Zab | apply Zac | apply Zaf) | exact HB.out)) hb); have n1_ := Aside0.mk (hbox); have n2_ := Aside0.mk ((by rw [hg]; exact (Zai (by repeat (first | (with_reducible first | exact HB.out | apply Zab | apply Zac | apply Zaf) | exact HB.out))) : w.heap.size ≤ gb173)); have n3_ := Aside0.mk ((by rw [hg]; exact (Zai (by repeat (first | (with_reducible first | exact HB.out | apply Zab | apply Zac | apply Zaf) | exact HB.out))) : w.heap.size ≤ gb173)); clear HB; have HB := n0_; have BK173 := n1_; have GW173 := n2_; have GE173 := n3_; clear n0_ n1_ n2_ n3_; clear hb hbox hg) | ((with_reducible refine Zaw (N := 6) rfl ?_); refine Zau ?hg (N := 6) ?hd (cs := #[.int .i64 0, .int .i64 0, .int .i64 0, .int .i64 0]) (t := 86) ?hr ?_; (case hd => rfl); (case hg => rfl); (case hr => first | (go_simp; done) | (go_simp; rfl)); intro gb174 hg w5 hbox hb; have n0_ := Aside0.mk (Zag (g := gb173) (o := .cells #[.int .i64 a0_0, .int .i64 a0_1, .int .i64 a0_2, .int .i64 a0_3] 86 (0, 0)) (by (with_reducible repeat (first | refine Zao ?_ _ | refine Zaq ?_ | refine Zan ?_ _)); exact BK173.out) hb); have n1_ := Aside0.mk (Zae (by repeat (first | (with_reducible first | exact HB.out | apply Zab | apply Zac | apply Zaf | refine Zaj ?_ GE173.out) | exact HB.out)) hb); have n2_ := Aside0.mk (hbox); have n3_ := Aside0.mk ((by rw [hg]; exact (Zai (by repeat (first | (with_reducible first | exact HB.out | apply Zab | apply Zac | apply Zaf | refine Zaj ?_ GE173.out) | exact HB.out))) : w.heap.size ≤ gb174)); have n4_ := Aside0.mk ((by rw [hg]; exact (Zai (by repeat (first | (with_reducible first | exact HB.out | apply Zab | apply Zac | apply Zaf | refine Zaj ?_ GE173.out) | exact HB.out))) : w.heap.size ≤ gb174)); have n5_ := Aside0.mk ((by rw [hg]; exact Nat.ne_of_lt (blk_lt (g := gb173) (o := .cells #[.int .i64 a0_0, .int .i64 a0_1, .int .i64 a0_2, .int .i64 a0_3] 86 (0, 0)) (by (with_reducible repeat (first | refine Zao ?_ _ | refine Zaq ?_ | refine Zan ?_ _)); exact BK173.out)) : gb173 ≠ gb174)); have n6_ := Aside0.mk ((by rw [hg]; exact Nat.ne_of_gt (blk_lt (g := gb173) (o := .cells #[.int .i64 a0_0, .int .i64 a0_1, .int .i64 a0_2, .int .i64 a0_3] 86 (0, 0)) (by (with_reducible repeat (first | refine Zao ?_ _ | refine Zaq ?_ | refine Zan ?_ _)); exact BK173.out)) : gb174 ≠ gb173)); clear BK173; clear HB; have BK173 := n0_; have HB := n1_; have BK174 := n2_; have GW174 := n3_; have GE174 := n4_; have NB173_174 := n5_; have NB174_173 := n6_; clear n0_ n1_ n2_ n3_ n4_ n5_ n6_; clear hb hbox hg; have hnb6 := NB173_174.out; have hnc6 := NB174_173.out; have hcz7_0 : w5.cell? ⟨gb173, 0, none⟩ = some (.int .i64 a0_0) := (Zaa BK173.out 0).trans rfl; have hcz7_1 : w5.cell? ⟨gb173, 1, none⟩ = some (.int .i64 a0_1) := (Zaa BK173.out 1).trans rfl; have hcz7_2 : w5.cell? ⟨gb173, 2, none⟩ = some (.int .i64 a0_2) := (Zaa BK173.out 2).trans rfl; have hcz7_3 : w5.cell? ⟨gb173, 3, none⟩ = some (.int .i64 a0_3) := (Zaa BK173.out 3).trans rfl; have hfz7_0 := Zad BK173.out 0; have hfz7_1 := Zad BK173.out 1; have hfz7_2 := Zad BK173.out 2; have hfz7_3 := Zad BK173.out 3; have hcz8_0 : w5.cell? ⟨gb174, 0, none⟩ = some (.int .i64 0) := (Zaa BK174.out 0).trans rfl; have hcz8_1 : w5.cell? ⟨gb174, 1, none⟩ = some (.int .i64 0) := (Zaa BK174.out 1).trans rfl; have hcz8_2 : w5.cell? ⟨gb174, 2, none⟩ = some (.int .i64 0) := (Zaa BK174.out 2).trans rfl; have hcz8_3 : w5.cell? ⟨gb174, 3, none⟩ = some (.int .i64 0) := (Zaa BK174.out 3).trans rfl; have hfz8_0 := Zad BK174.out 0; have hfz8_1 := Zad BK174.out 1; have hfz8_2 := Zad BK174.out 2; have hfz8_3 := Zad BK174.out 3))
 refine bodyPost_ret (results_cell_row rfl _ _ gb174 86 #[.int .i64 a1, .int .i64 (wrap64 (a2 - a1)), .int .i64 a0_2, .int .i64 (wrap64 ((wrap64 (a0_3 + a1)) - a0_0))] (0, 0) _ rfl (by (with_reducible repeat (first | refine Zao ?_ _ | refine Zaq ?_ | refine Zan ?_ _)); refine ZaU (cs := #[.int .i64 a1, .int .i64 (wrap64 (a2 - a1)), .int .i64 a0_2, .int .i64 0]) ?_ 3 _ rfl; (with_reducible repeat (first | refine Zao ?_ _ | refine Zaq ?_ | refine Zan ?_ _)); refine ZaU (cs := #[.int .i64 a1, .int .i64 (wrap64 (a2 - a1)), .int .i64 0, .int .i64 0]) ?_ 2 _ rfl; (with_reducible repeat (first | refine Zao ?_ _ | refine Zaq ?_ | refine Zan ?_ _)); refine ZaU (cs := #[.int .i64 a1, .int .i64 0, .int .i64 0, .int .i64 0]) ?_ 1 _ rfl; (with_reducible repeat (first | refine Zao ?_ _ | refine Zaq ?_ | refine Zan ?_ _)); refine ZaU (cs := #[.int .i64 0, .int .i64 0, .int .i64 0, .int .i64 0]) ?_ 0 _ rfl; (with_reducible repeat (first | refine Zao ?_ _ | refine Zaq ?_ | refine Zan ?_ _)); exact BK174.out) Tryz.underlying86 rfl (by kernel_rfl)) rfl ?_
 exact ⟨by first | rfl | (simp [Zal, Zak] <;> rfl) | (simp [*, Zal, Zak] <;> rfl), by repeat (first | (with_reducible first | exact HB.out | apply Zab | apply Zac | apply Zaf | refine Zaj ?_ GE173.out | refine Zaj ?_ GE174.out) | exact HB.out)⟩
end Go.Proofs.YtpfnaknmalojkaaGreat.PTopRows
namespace Go.Proofs.YtpfnaknmalojkaaGreat.PTopRows
open Go.RowKit Go.Maps Go.Sort Go.Proofs.YtpfnaknmalojkaaGreatW.PrintWords Go.Proofs.YtpfnaknmalojkaaGreatW.PrintLast Go.Proofs.YtpfnaknmalojkaaGreatW.PrintMore
set_option linter.unusedVariables false
set_option linter.unusedSimpArgs false
def partE (x : S86) (a b : Int) : S86 := ⟨⟨a, b - a⟩, ⟨x.f1.f0, x.f1.f1 + a - x.f0.f0⟩⟩
theorem Zcv (x : S86) (hx : MayE x) (a b : Int) (h : 0 ≤ a ∧ a ≤ 65536 ∧ 0 ≤ b ∧ b ≤ 65536) (w : World) :
  Calls Tryz.prog 77 #[.agg #[.int .i64 x.f0.f0, .int .i64 x.f0.f1, .int .i64 x.f1.f0, .int .i64 x.f1.f1], .int .i64 a, .int .i64 b] w fun e w' => e = .returned (.agg #[.int .i64 a, .int .i64 (b - a), .int .i64 x.f1.f0, .int .i64 (x.f1.f1 + a - x.f0.f0)]) ∧ Below w.heap.size w w' :=
 Zb6.calls _ _ _ _ a b _ _ _ _ w (by
  obtain ⟨h1, h2, h3, h4, h5, h6, h7⟩ := hx
  unfold Zb6.f
  rw [ZaH (b - a) (by omega), ZaH (x.f1.f1 + a) (by omega), ZaH (x.f1.f1 + a - x.f0.f0) (by omega)])
def aheadE (s : Int) (acc : List S86) (x : S86) : List S86 := if x.f0.f0 < s then acc ++ [partE x x.f0.f0 s] else acc
def inE (s e : Int) (x : S86) : S86 := partE x (max x.f0.f0 s) (min (endE x) e)
def behindE (e : Int) (acc : List S86) (x : S86) : List S86 := if endE x > e then partE x e (endE x) :: acc else acc
theorem cutat_one {L : List S86} {at_ : Int} {i j : Nat} (h : Cutat L at_ i) (k : Cutat L at_ j) : i = j := by
 obtain ⟨h1, h2, h3⟩ := h
 obtain ⟨k1, k2, k3⟩ := k
 rcases Nat.lt_trichotomy i j with q | q | q
 ·have a := h3 i (by omega) (Nat.le_refl _)
  have b := k2 i (by omega) q
  omega
 ·exact q
 ·have a := k3 j (by omega) (Nat.le_refl _)
  have b := h2 j (by omega) q
  omega
theorem c_take {α : Type} {k : Kd α} {w : World} {A : Option Addr} {l : List α} (h : Kd.C k w A l.length l) (n : Nat) (hn : n ≤ l.length) : Kd.C k w A n (l.take n) := by
 obtain ⟨h1, h2, h3⟩ := h
 refine ⟨by rw [List.length_take]; omega, by omega, fun hp => ?_⟩
 obtain ⟨ad, e, hr⟩ := h3 (by omega)
 refine ⟨ad, e, fun j p hj => ?_⟩
 have hjn : j < n := by
  have := (List.getElem?_eq_some_iff.1 hj).1
  rw [List.length_take] at this
  omega
 exact hr j p (by rw [List.getElem?_take_of_lt hjn] at hj; exact hj)
section
variable {P : Program} {ops : Array Oper} {md : Region.Mode} {C : World → Prop}
def reach (md : Region.Mode) (ops : Array Oper) (i : Nat) : Nat → Nat → Bool
 | 0, _ => false
 | f + 1, t => match ops[t]? with
  | some o => o.after.any fun e => Region.binds md e && (e.on == i || reach md ops i f e.on)
  | none => false
structure HI (md : Region.Mode) (ops : Array Oper) (T : List Nat) (listed : Array Bool) : Prop where
 closed : ∀ j oj, ops[j]? = some oj → listed.getD j false = true → ∀ e ∈ oj.after, Region.binds md e = true → listed.getD e.on false = true
 tail : ∀ t ∈ T, listed.getD t false = false
theorem HI.set {T : List Nat} {i : Nat} {listed : Array Bool} (inv : HI md ops T listed) (hi : i ∈ Region.ready md ops listed) (hin : i ∉ T) : HI md ops T (listed.setIfInBounds i true) := by
 obtain ⟨_, oi, hoi, hall⟩ := mem_ready.1 hi
 refine ⟨fun j oj hj hl e he hb => ?_, fun t ht => by rw [getD_set_ne false (by rintro rfl; exact hin ht)]; exact inv.tail t ht⟩
 by_cases hij : i = j
 ·subst hij
  have : oj = oi := Option.some.inj (hj.symm.trans hoi)
  subst this
  exact getD_set_true (hall e he hb)
 ·rw [getD_set_ne false hij] at hl
  exact getD_set_true (inv.closed j oj hj hl e he hb)
theorem Zdi {T : List Nat} {listed : Array Bool} (inv : HI md ops T listed) {i : Nat} : ∀ (f t : Nat), reach md ops i f t = true → listed.getD t false = true → listed.getD i false = true
 | 0, _, h, _ => by cases h
 | f + 1, t, h, hl => by
  unfold reach at h
  split at h
  ·rename_i o ho
   obtain ⟨e, he, hb⟩ := Array.any_eq_true'.1 h
   simp only [Bool.and_eq_true, Bool.or_eq_true, beq_iff_eq] at hb
   have h1 := inv.closed t o ho hl e he hb.1
   rcases hb.2 with h2 | h2
   ·rw [h2] at h1; exact h1
   ·exact Zdi inv f e.on h2 h1
  ·cases h
theorem ZdQ {T : List Nat} {listed : Array Bool} (inv : HI md ops T listed) {i t f : Nat} (h : reach md ops i f t = true) (hun : listed.getD i true = false) : t ∉ Region.ready md ops listed := by
 intro hr
 obtain ⟨_, o, ho, hall⟩ := mem_ready.1 hr
 cases f with
 | zero => cases h
 | succ f =>
  unfold reach at h
  rw [ho] at h
  obtain ⟨e, he, hb⟩ := Array.any_eq_true'.1 h
  simp only [Bool.and_eq_true, Bool.or_eq_true, beq_iff_eq] at hb
  have h1 := hall e he hb.1
  have h2 : listed.getD i false = true := by
   rcases hb.2 with h2 | h2
   ·rw [h2] at h1; exact h1
   ·exact Zdi inv f e.on h2 h1
  rw [getD_both hun] at h2
  cases h2
def wpQs (P : Program) (md : Region.Mode) (ops : Array Oper) (C : World → Prop) (T : List Nat) (L : Array Bool → Act → Prop) : Nat → Array Bool → Act → Prop
 | 0, listed, a => L listed a
 | f + 1, listed, a => Region.ready md ops listed ≠ [] ∧ ∀ i ∈ Region.ready md ops listed, i ∉ T ∧ qOp P ops C i (wpQs P md ops C T L f (listed.setIfInBounds i true)) a
theorem ZdE {T : List Nat} {g : Nat} {L : Array Bool → Act → Prop} {Q' : Exit → Act → World → Prop} (hL : ∀ listed a w, C w → L listed a → wpAny P md ops Q' g listed a w) :
  ∀ (f : Nat) (listed : Array Bool) (a : Act) (w : World), C w → wpQs P md ops C T L f listed a → wpAny P md ops Q' (f + g) listed a w
 | 0, listed, a, w, hw, h => by rw [Nat.zero_add]; exact hL _ _ _ hw h
 | f + 1, listed, a, w, hw, h => by
  rw [show f + 1 + g = (f + g) + 1 by omega]
  exact ⟨fun h0 => absurd h0 h.1, fun i hi => wpOp_of_qOp hw (fun a' w' hw' h' => ZdE hL f _ a' w' hw' h') (h.2 i hi).2⟩
theorem wpQs_first {T : List Nat} {i : Nat} {oi : Oper} {v : Value} {L : Array Bool → Act → Prop} (hi : ops[i]? = some oi) (hsel : ∀ (j : Nat) (o : Oper) cs b, ops[j]? = some o → o.op ≠ .select cs b)
  {F : Nat} (hw : ∀ t ∈ T, reach md ops i F t = true)
  (hdone : ∀ listed a, L listed a → ∀ j ∈ Region.ready md ops listed, j ∈ T) :
  ∀ (f : Nat) (listed : Array Bool) (a : Act), HI md ops T listed →
   (∀ j oj, ops[j]? = some oj → j ≠ i → listed.getD j true = false → (∀ e ∈ oj.after, Region.binds md e = true → e.on ≠ i) → oi.apart ops oj = true) →
   i ∈ Region.ready md ops listed → YieldsIn P ops C oi v a →
   wpQs P md ops C T L f (listed.setIfInBounds i true) (a.put oi.dst v) → wpQs P md ops C T L (f + 1) listed a := by
 intro f
 induction f with
 | zero =>
  intro listed a inv _ hr hy H
  have hun := (mem_ready.1 hr).1
  refine ⟨fun h => (by rw [h] at hr; cases hr), fun j hj => ?_⟩
  have hjn : j ∉ T := fun ht => ZdQ inv (hw j ht) hun hj
  refine ⟨hjn, ?_⟩
  by_cases hji : j = i
  ·subst hji; exact hy.qOp hi H
  ·exact absurd (hdone _ _ H j (ready_mono hj hji)) hjn
 | succ f ih =>
  intro listed a inv hfree hr hy H
  have hun := (mem_ready.1 hr).1
  refine ⟨fun h => (by rw [h] at hr; cases hr), fun j hj => ?_⟩
  have hjn : j ∉ T := fun ht => ZdQ inv (hw j ht) hun hj
  refine ⟨hjn, ?_⟩
  by_cases hji : j = i
  ·subst hji; exact hy.qOp hi H
  ·have h1 := (H.2 j (ready_mono hj hji)).2
   obtain ⟨hjun, oj, hoj, hall⟩ := mem_ready.1 hj
   have hnot : ∀ e ∈ oj.after, Region.binds md e = true → e.on ≠ i := fun e he hb heq => by
    have h1 := hall e he hb
    rw [heq, getD_both hun] at h1
    cases h1
   have h2 := qOp_put hoj (hfree j oj hoj hji hjun hnot) (fun cs b => hsel i oi cs b hi) (fun cs b => hsel j oj cs b hoj) hy h1
   have hfree' : ∀ k ok, ops[k]? = some ok → k ≠ i → (listed.setIfInBounds j true).getD k true = false →
     (∀ e ∈ ok.after, Region.binds md e = true → e.on ≠ i) → oi.apart ops ok = true := fun k ok hk hki hun hno => by
    refine hfree k ok hk hki ?_ hno
    by_cases hjk : j = k
    ·subst hjk; exact hjun
    ·rw [getD_set_ne true hjk] at hun; exact hun
   refine qOp_mono (fun a' h3 => ih (listed.setIfInBounds j true) a' (inv.set hj hjn) hfree' (ready_mono hr (Ne.symm hji)) h3.1 ?_) h2
   rw [Array.setIfInBounds_comm _ _ hji]
   exact h3.2
def pick (l : List Oper) : List Nat → List Oper
 | [] => []
 | k :: I => match l[k]? with
  | some o => o :: pick l I
  | none => pick l I
def seqI (md : Region.Mode) (ops : Array Oper) : List Nat → Array Bool → Bool
 | [], listed => (Region.ready md ops listed).isEmpty
 | k :: T, listed => decide (k < ops.size) && (decide (Region.ready md ops listed = [k]) && seqI md ops T (listed.setIfInBounds k true))
theorem seqI_ready {T : List Nat} {listed : Array Bool} (h : seqI md ops T listed = true) : ∀ j ∈ Region.ready md ops listed, j ∈ T := by
 intro j hj
 cases T with
 | nil => simp only [seqI, List.isEmpty_iff] at h; rw [h] at hj; cases hj
 | cons k T =>
  simp only [seqI, Bool.and_eq_true, decide_eq_true_eq] at h
  rw [h.2.1] at hj
  have : j = k := by simpa using hj
  rw [this]
  exact List.mem_cons_self
theorem ZcA {l : List Oper} {Q' : Exit → Act → World → Prop} : ∀ (T : List Nat) (listed : Array Bool) (a : Act) (w : World),
  seqI md l.toArray T listed = true → wpList P l.toArray Q' (pick l T) a w → wpAny P md l.toArray Q' T.length listed a w
 | [], _, _, _, hB, h => ⟨by simpa [seqI] using hB, h⟩
 | k :: T, listed, a, w, hB, h => by
  simp only [seqI, Bool.and_eq_true, decide_eq_true_eq] at hB
  obtain ⟨hk, hr, hB⟩ := hB
  have hk' : k < l.length := by simpa using hk
  have h0 : l.toArray[k]? = some l[k] := by simp [hk']
  refine ⟨fun h1 => (by rw [hr] at h1; cases h1), fun i hi => ?_⟩
  rw [hr] at hi
  have hik : i = k := by simpa using hi
  subst hik
  have hp : pick l (i :: T) = l[i] :: pick l T := by
   show (match l[i]? with | some o => o :: pick l T | none => pick l T) = _
   rw [List.getElem?_eq_getElem hk']
  rw [hp] at h
  have hw : wpOp P l.toArray Q' i (wpList P l.toArray Q' (pick l T)) a w := by unfold wpOp; simp only [h0]; exact h
  exact wpOp_mono (fun a' w' h' => ZcA T _ a' w' hB h') hw
def lexI (md : Region.Mode) (ops : Array Oper) (T : List Nat) : List Nat → Array Bool → Bool
 | [], listed => seqI md ops T listed
 | k :: H, listed => decide (k < ops.size) && ((Region.ready md ops listed).contains k && (Region.free md ops listed k && (!T.contains k && (T.all (reach md ops k ops.size) && lexI md ops T H (listed.setIfInBounds k true)))))
theorem wpQs_lex {l : List Oper} {T : List Nat} {Lq : Act → Prop} (hsel : Region.noSelect l.toArray = true) :
  ∀ (H : List Nat) (listed : Array Bool) (a : Act), HI md l.toArray T listed → lexI md l.toArray T H listed = true → wpQuiet P l.toArray C Lq (pick l H) a →
  wpQs P md l.toArray C T (fun listed' a' => seqI md l.toArray T listed' = true ∧ Lq a') H.length listed a
 | [], listed, a, _, hB, h => ⟨by simpa [lexI] using hB, h⟩
 | k :: H, listed, a, inv, hB, h => by
  simp only [lexI, Bool.and_eq_true, decide_eq_true_eq, Bool.not_eq_true'] at hB
  obtain ⟨hk, hr, hf, hT, hw, hB'⟩ := hB
  have hk' : k < l.length := by simpa using hk
  have h0 : l.toArray[k]? = some l[k] := by simp [hk']
  have hr' : k ∈ Region.ready md l.toArray listed := by simpa using hr
  have hTn : k ∉ T := by
   intro hm
   rw [List.contains_iff_mem.2 hm] at hT
   cases hT
  have hp : pick l (k :: H) = l[k] :: pick l H := by
   show (match l[k]? with | some o => o :: pick l H | none => pick l H) = _
   rw [List.getElem?_eq_getElem hk']
  rw [hp] at h
  have hst : qOp P l.toArray C k (wpQuiet P l.toArray C Lq (pick l H)) a := by unfold qOp; simp only [h0]; exact h
  obtain ⟨v, hy, hK⟩ := yieldsIn_of_qOp h0 hst
  exact wpQs_first h0 (Region.noSelect_spec hsel) (fun t ht => List.all_eq_true.1 hw t ht) (fun listed' a' hL => seqI_ready hL.1) H.length listed a inv (Region.free_spec h0 hf) hr' hy
   (wpQs_lex hsel H _ _ (inv.set hr' hTn) hB' hK)
def closedB (md : Region.Mode) (ops : Array Oper) (T : List Nat) (listed : Array Bool) : Bool :=
 ((List.range ops.size).all fun j => !listed.getD j false || match ops[j]? with
  | some o => o.after.all fun e => !Region.binds md e || listed.getD e.on false
  | none => true) && T.all fun t => !listed.getD t false
theorem closedB_spec {T : List Nat} {listed : Array Bool} (h : closedB md ops T listed = true) : HI md ops T listed := by
 unfold closedB at h
 rw [Bool.and_eq_true] at h
 refine ⟨fun j oj hj hl e he hb => ?_, fun t ht => ?_⟩
 ·have h1 := List.all_eq_true.1 h.1 j (List.mem_range.2 (Array.getElem?_eq_some_iff.1 hj).1)
  rw [hl, hj] at h1
  simp only [Bool.not_true, Bool.false_or] at h1
  have h2 := Array.all_eq_true'.1 h1 e he
  rw [hb] at h2
  simpa using h2
 ·have := List.all_eq_true.1 h.2 t ht
  simpa using this
def moveB (md : Region.Mode) (ops : Array Oper) (rest : Array Bool → Bool) : List Nat → Array Bool → Bool
 | [], listed => rest listed
 | k :: E, listed => (match ops[k]? with
  | some o => (match o.op with | .move _ => true | _ => false) && o.guard.isNone
  | none => false) && ((Region.ready md ops listed).contains k && (Region.free md ops listed k && moveB md ops rest E (listed.setIfInBounds k true)))
def movesA (ops : List Oper) : List Nat → Act → Act
 | [], a => a
 | k :: E, a => match ops[k]? with
  | some o => match o.op with
   | .move x => movesA ops E (a.put o.dst (a.eval x))
   | _ => movesA ops E a
  | none => movesA ops E a
theorem ZdF {l : List Oper} {Q : Exit → Act → World → Prop} {rest : Array Bool → Bool} {g : Nat} (hsel : Region.noSelect l.toArray = true) (hQ : ∀ c (a a' : Act) w, a.defers = a'.defers → Q (.panic c) a w → Q (.panic c) a' w) :
  ∀ (E : List Nat) (listed : Array Bool) (a : Act) (w : World), moveB md l.toArray rest E listed = true →
  (∀ listed', rest listed' = true → wpAny P md l.toArray Q g listed' (movesA l E a) w) → wpAny P md l.toArray Q (E.length + g) listed a w
 | [], listed, a, w, hB, h => by
  rw [List.length_nil, Nat.zero_add]
  exact h _ hB
 | k :: E, listed, a, w, hB, h => by
  simp only [moveB, Bool.and_eq_true] at hB
  obtain ⟨hm, hr, hf, hB'⟩ := hB
  rw [show (k :: E).length + g = (E.length + g) + 1 by simp; omega]
  cases ho : l.toArray[k]? with
  | none => rw [ho] at hm; cases hm
  | some o =>
   rw [ho] at hm
   simp only [Bool.and_eq_true] at hm
   obtain ⟨hm1, hm2⟩ := hm
   have hg : o.guard = none := by simpa using hm2
   cases hop : o.op <;> rw [hop] at hm1 <;> try (cases hm1)
   rename_i x
   have hy : Yields P l.toArray o (a.eval x) a := by
    left
    refine ⟨by simp [Region.wanted, hg], fun w => ?_⟩
    unfold execOp
    rw [hop]
    rfl
   refine wpAny_take ho hsel hf hr (fun c a w => hQ c _ _ w (by cases o.dst <;> rfl)) hy ?_
   refine ZdF hsel hQ E _ _ w hB' fun listed' hl => ?_
   have hh := h listed' hl
   have hol : l[k]? = some o := by simpa using ho
   have e : movesA l (k :: E) a = movesA l E (a.put o.dst (a.eval x)) := by
    show (match l[k]? with | some o => (match o.op with | .move x => movesA l E (a.put o.dst (a.eval x)) | _ => movesA l E a) | none => movesA l E a) = _
    rw [hol]
    simp only
    rw [hop]
   rw [e] at hh
   exact hh
theorem ZdD {id : Nat} {Q : Exit → Act → World → Prop} {a : Act} {w : World} {l : List Oper} (E H T : List Nat) (hm : P.follows .mixedOrders = true) (hQ : ∀ c (a a' : Act) w, a.defers = a'.defers → Q (.panic c) a w → Q (.panic c) a' w)
  (hn : E.length + (H.length + T.length) = l.length) (hsel : Region.noSelect l.toArray = true)
  (hB : moveB .any l.toArray (fun listed => closedB .any l.toArray T listed && lexI .any l.toArray T H listed) E (Array.replicate l.toArray.size false) = true) (hC : C { w with drawn := w.drawn + 1 })
  (h : wpQuiet P l.toArray C (fun a' => ∀ w', C w' → wpList P l.toArray Q (pick l T) a' w') (pick l H) (movesA l E a)) : (Code.region id l.toArray true).wp P Q a w := by
 refine wp_region_any hm ?_
 have := ZdF (g := H.length + T.length) (w := { w with drawn := w.drawn + 1 }) hsel hQ E _ a hB fun listed hl => by
  rw [Bool.and_eq_true] at hl
  have H1 := wpQs_lex (Lq := fun a' => ∀ w', C w' → wpList P l.toArray Q (pick l T) a' w') hsel H listed _ (closedB_spec hl.1) hl.2 h
  exact ZdE (Q' := Q) (g := T.length) (fun listed' a' w' hw' hL => ZcA T listed' a' w' hL.1 (hL.2 w' hw')) _ _ _ _ hC H1
 rw [hn] at this
 simpa using this
end
theorem Zcq {P : Program} {id : Nat} {Q : Exit → Act → World → Prop} {a : Act} {w : World} {l : List Oper} (E H T : List Nat) (hm : P.follows .mixedOrders = true) (hQ : ∀ c (a a' : Act) w, a.defers = a'.defers → Q (.panic c) a w → Q (.panic c) a' w)
  (hn : E.length + (H.length + T.length) = l.length) (hsel : Region.noSelect l.toArray = true)
  (hB : moveB .any l.toArray (fun listed => closedB .any l.toArray T listed && lexI .any l.toArray T H listed) E (Array.replicate l.toArray.size false) = true)
  (h : WQ P l.toArray (fun w' => ∃ p : Abv w, w' = p.out) (fun a' => ∀ w', (∃ p : Abv w, w' = p.out) → wpList P l.toArray Q (pick l T) a' w') (pick l H) (movesA l E a)) : (Code.region id l.toArray true).wp P Q a w :=
 ZdD (C := fun w' => ∃ p : Abv w, w' = p.out) E H T hm hQ hn hsel hB ⟨⟨_, ZaV (Below.refl _ _)⟩, rfl⟩ h.out
end Go.Proofs.YtpfnaknmalojkaaGreat.PTopRows
