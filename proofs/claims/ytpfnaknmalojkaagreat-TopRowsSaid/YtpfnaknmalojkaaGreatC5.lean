/- YtpfnaknmalojkaaGreatC5: what this claim rests on. Words and contracts are those of the kit's print (print.sh wrote them, those that nothing here reaches are left out); all else is own work. Conditions: what each theorem says. -/
import Derived.Test.YtpfnaknmalojkaaGreatC4
import Derived.Lib.SliceRun
namespace Go.Proofs.YtpfnaknmalojkaaGreat.PTopRows
open Go.RowKit Go.Maps Go.Sort Go.Proofs.YtpfnaknmalojkaaGreatW.PrintWords Go.Proofs.YtpfnaknmalojkaaGreatW.PrintLast Go.Proofs.YtpfnaknmalojkaaGreatW.PrintMore
set_option linter.unusedVariables false
set_option linter.unusedSimpArgs false
set_option maxRecDepth 100000 in
set_option maxHeartbeats 2000000 in
theorem cloneN_run (b : Nat) (es : Array MapEntry) (clock : Nat) (w : World) (hb : w.heap[b]? = some (.map es clock)) :
  Calls Tryz.prog 46 #[.map (some b)] w fun e w' => e = .returned (.map (some w.heap.size)) ∧ w' = w.alloc (.map es clock) := by
 have hq := fun w => run_eql_map_nil_sl (P := Tryz.prog) w 105 _ _ (some b) Tryz.underlying105
 go_enter Tryz.func46, Tryz.ntmps46
 go_wp2
 rw [run_callFunc_extern Tryz.func95 (by kernel_rfl) (by kernel_rfl) (by kernel_rfl) (e := Extern.MapsClone.clone) (by kernel_rfl), run_maps_clone_sl w 105 hb]
 simp only [Result.andThen]
 rw [Oper.upon_value]
 go_wp2
 rw [run_typeAssert_map_sl _ 105 20 _ _ _ Tryz.underlying105]
 simp only [Result.andThen]
 rw [Oper.upon_value]
 go_wp2
 go_ret
 exact ⟨rfl, rfl⟩
theorem cloneN_calls (b N : Nat) (T : List S51) (w : World) (h : NMap w b N T) :
  Calls Tryz.prog 46 #[.map (some b)] w fun e w' => e = .returned (.map (some w.heap.size)) ∧ NMap w' w.heap.size N T ∧ Below w.heap.size w w' := by
 obtain ⟨h0, D, ⟨es, clock, hb, F, hs, hD⟩, h1⟩ := h
 refine (cloneN_run b es clock w hb).mono fun e w' ⟨he, hw⟩ => ?_
 subst hw
 exact ⟨he, ⟨h0, D, ⟨es, clock, (MapKept.heap_alloc w _).1, F, hs, hD⟩, h1⟩, (Below.refl _ w).alloc (Nat.le_refl _) _⟩
set_option maxRecDepth 100000 in
set_option maxHeartbeats 4000000 in
theorem change_bad (g b N : Nat) (T : List S51) (A : Option Addr) (c : Nat) (more : List S86) (B : Option Addr) (d : Nat) (less : List S86) (h1 : more.length ≤ 40) (h2 : less.length ≤ 40) (w : World) (hT : TbB w g b N T) (hr : Kd.C k86 w A more.length more) (hs : Kd.C k86 w B less.length less)
  (hbad : ¬ ((∀ x ∈ more, MayE x) ∧ ∀ x ∈ less, MayE x)) :
  Calls Tryz.prog 14 #[.pointer (some ⟨g, 0, none⟩), .slice A more.length c, .slice B less.length d] w fun e w' => e = .returned (.int .i64 1) ∧ Below w.heap.size w w' := by
 have HM := Aside0.mk (ZbI A c more h1 w hr)
 have HL := Aside0.mk (fun w1 (hb : Below w.heap.size w w1) => ZbI B d less h2 w1 (Kd.C_below hs hb))
 have HBad := Aside0.mk hbad
 clear hT hr hs hbad
 go_enter Tryz.func14, Tryz.ntmps14
 go_wp2_with (fail)
 refine HM.out.mono ?_
 rintro e w1 ⟨hb1, hor⟩
 have HB1 := Aside0.mk hb1
 have HL1 := Aside0.mk (HL.out w1 hb1)
 clear hb1 HM HL
 rcases hor with ⟨hg, rfl, -⟩ | ⟨-, rfl⟩
 ·have HG := Aside0.mk hg
  clear hg
  go_wp2_with (fail)
  refine HL1.out.mono ?_
  rintro e w2 ⟨hb2, hor⟩
  have HB2 := Aside0.mk (Zae HB1.out hb2)
  clear hb2 HL1
  rcases hor with ⟨hg, -, -⟩ | ⟨-, rfl⟩
  ·exact absurd ⟨HG.out, hg⟩ HBad.out
  ·go_wp2_with (fail)
   go_ret
   exact ⟨rfl, HB2.out⟩
 ·go_wp2_with (fail)
  refine HL1.out.mono ?_
  rintro e w2 ⟨hb2, hor⟩
  have HB2 := Aside0.mk (Zae HB1.out hb2)
  clear hb2 HL1
  rcases hor with ⟨-, rfl, -⟩ | ⟨-, rfl⟩
  ·go_wp2_with (fail)
   go_ret
   exact ⟨rfl, HB2.out⟩
  ·go_wp2_with (fail)
   go_ret
   exact ⟨rfl, HB2.out⟩
theorem NetOf.came {D : DataW Unit} {T : List S51} (h : NetOf D T) : Came T (Maps.has D) [] :=
 ⟨List.nodup_nil, by simp, fun x hx => .inl ((h.2.2.1 _).2 ⟨x, hx, rfl⟩), fun kl hk => (h.2.2.1 kl).1 hk⟩
theorem CMap.bound {w : World} {b N : Nat} {T : List S51} (h : CMap w b N T) : ∀ x ∈ T, 0 ≤ x.f1 ∧ x.f1 ≤ 1000000000 := by
 obtain ⟨_, D, _, h⟩ := h
 exact fun x hx => ⟨(h.2.1 x hx).2.2.1, (h.2.1 x hx).2.2.2.1⟩
theorem NMap.sorted {w : World} {b N : Nat} {T : List S51} (h : NMap w b N T) : T.Pairwise (fun x y => x.f0 < y.f0) := by
 obtain ⟨_, D, _, h⟩ := h
 exact h.1
theorem came_none {T : List S51} (hT : T.Pairwise (fun x y => x.f0 < y.f0)) {left : Lit → Bool} {ps : List S51} (h : Came T left ps) {x : S51} (hx : x ∈ T) (hl : left (.int .i64 x.f0) = true) : findT ps x.f0 = none := by
 rw [ZbG]
 intro y hy e
 have h2 := h.2.1 y hy
 rw [e, hl] at h2
 cases h2.2
set_option maxRecDepth 100000 in
set_option maxHeartbeats 1600000 in
theorem change_good (g b N : Nat) (hN : N < 500000) (T : List S51) (A : Option Addr) (c : Nat) (more : List S86) (B : Option Addr) (d : Nat) (less : List S86) (h1 : more.length ≤ 40) (h2 : less.length ≤ 40) (w : World) (hT : TbB w g b N T) (hr : Kd.C k86 w A more.length more) (hs : Kd.C k86 w B less.length less)
  (hgm : ∀ x ∈ more, MayE x) (hgl : ∀ x ∈ less, MayE x) (ta tb : List S51) (hta : cntE [] more = ta) (htb : cntE [] less = tb) :
  Calls Tryz.prog 14 #[.pointer (some ⟨g, 0, none⟩), .slice A more.length c, .slice B less.length d] w fun e w' =>
   (Known T ta ∧ Known T tb ∧ (∀ r ∈ chgT T more less, MayR r) ∧ e = .returned (.int .i64 0) ∧ ∃ b', w.heap.size ≤ b' ∧ TbB w' g b' (N + 80) (chgT T more less) ∧ w.grownBy w' (some g)) ∨
   (Known T ta ∧ Known T tb ∧ (¬ ∀ r ∈ chgT T more less, MayR r) ∧ e = .returned (.int .i64 31) ∧ Below w.heap.size w w') ∨
   (¬ (Known T ta ∧ Known T tb) ∧ e = .returned (.int .i64 15) ∧ Below w.heap.size w w') := by
 have hu73 := Tryz.underlying73
 have hu75 := Tryz.underlying75
 have hu105 := Tryz.underlying105
 have hu51 := Tryz.underlying51
 have HM := Aside0.mk (ZbI A c more h1 w hr)
 have HL := Aside0.mk (fun w1 (hb : Below w.heap.size w w1) => ZbI B d less h2 w1 (Kd.C_below hs hb))
 have HGM := Aside0.mk hgm
 have HGL := Aside0.mk hgl
 have HT := Aside0.mk hT
 have HTA := Aside0.mk hta
 have HTB := Aside0.mk htb
 have hgsz := blk_lt hT.1
 clear hT hr hs hgm hgl hta htb
 go_enter Tryz.func14, Tryz.ntmps14
 go_wp2_with (fail)
 refine HM.out.mono ?_
 rintro e w1 ⟨hb1, hor⟩
 have hor : e = .returned (.tuple #[.map (some w.heap.size), .bool true]) ∧ CMap w1 w.heap.size 40 (cntE [] more) := by
  rcases hor with ⟨-, h⟩ | ⟨h, -⟩
  ·exact h
  ·exact absurd HGM.out h
 obtain ⟨rfl, hMa⟩ := hor
 have HB1 := Aside0.mk hb1
 have HL1 := Aside0.mk (HL.out w1 hb1)
 have HMA := Aside0.mk hMa
 have HBA := Aside0.mk (show ∀ x ∈ ta, 0 ≤ x.f1 ∧ x.f1 ≤ 1000000000 by rw [← HTA.out]; exact hMa.bound)
 clear hb1 HM HL hMa
 go_wp2_with (fail)
 refine HL1.out.mono ?_
 rintro e w2 ⟨hb2, hor⟩
 have hor : e = .returned (.tuple #[.map (some w1.heap.size), .bool true]) ∧ CMap w2 w1.heap.size 40 (cntE [] less) := by
  rcases hor with ⟨-, h⟩ | ⟨h, -⟩
  ·exact h
  ·exact absurd HGL.out h
 obtain ⟨rfl, hMb⟩ := hor
 have HB2 := Aside0.mk (Zae HB1.out hb2)
 have HMA2 := Aside0.mk (HMA.out.below hb2)
 have HMB := Aside0.mk hMb
 have HBB := Aside0.mk (show ∀ x ∈ tb, 0 ≤ x.f1 ∧ x.f1 ≤ 1000000000 by rw [← HTB.out]; exact hMb.bound)
 have HC := Aside0.mk (cloneN_calls w.heap.size 40 _ w2 HMA2.out.net)
 clear hb2 hMb HL1 HMA HMA2
 go_wp2_with (fail)
 refine HC.out.mono ?_
 rintro e w3 ⟨rfl, hN3, hb3⟩
 have HB3 := Aside0.mk (Zae HB2.out hb3)
 have HMB3 := Aside0.mk ((HMB.out.below hb3).net)
 have HN3 := Aside0.mk hN3
 have hz1 : w.heap.size ≤ w1.heap.size := HB1.out.size
 have hz2 : w1.heap.size < w2.heap.size := HMB.out.lt
 have hz3 : w2.heap.size < w3.heap.size := hN3.lt
 clear HC hb3 hN3 HMB HB1 HB2
 rw [HTA.out] at HN3
 rw [HTB.out] at HMB3
 obtain ⟨hTN, DB, hownB, hDB⟩ := HMB3.out
 have HDB := Aside0.mk hDB
 have hslB := hownB.size_le
 have HSLB := Aside0.mk hslB
 clear hTN hDB hslB HMB3
 go_wp2_with (at_range; refine wpList_range_own _ rfl _ 105 rfl 3 3 keyed3 Tryz.underlying105 _ w1.heap.size 40 _ rfl hownB ?_; intro w4 hrg4 hg4 hs4)
 have HB4 := Aside0.mk (HB3.out.grown hg4 HB3.out.size (fun j hj => by cases hj))
 have HN4 := Aside0.mk (HN3.out.kept hg4 (by simp))
 have HRG := Aside0.mk hrg4
 clear hownB hg4 hrg4 HB3 HN3 hs4
 generalize w3.heap.size = r0 at HRG hz3 ⊢
 generalize w2.heap.size = bn at HN4 hz2 hz3 ⊢
 generalize w1.heap.size = bb at HRG hz1 hz2 ⊢
 go_frame
 go_loopw [] (fun wr => ∃ (left : Lit → Bool) (cnt : Nat) (ps T' : List S51), wr.ranges Tryz.prog 3 intR bb r0 40 DB left cnt ∧ ps.length + cnt ≤ 40 ∧ Aside0 (Came tb left ps) ∧ Aside0 (NMap wr bn (40 + ps.length) T') ∧ Aside0 (NetP ta ps T') ∧ Aside0 (Below w.heap.size w wr)) (fun wr => wr.rangeLeft bb r0)
 case atStart => exact ⟨_, _, [], ta, HRG.out, by simpa using HSLB.out, ⟨HDB.out.came⟩, HN4, ⟨NetP.start ta⟩, HB4⟩
 case round =>
  clear HN4 HRG HB4
  obtain ⟨left, cnt, ps, T', hrg, hcs, HCm, HNm, HNp, HB⟩ := hrel
  go_wp2_with (at_next; refine wpList_next_ranges_ii _ rfl _ rfl 3 3 .i64 .i64 keyed3 Tryz.underlying3 Tryz.underlying3 bb r0 40 DB _ _ rfl hrg ?_ ?_)
  ·intro hc0 hl0
   have hp := HCm.out.perm HDB.out.1 hl0
   have HNf := Aside0.mk (show NetP ta tb T' from ⟨fun k => by rw [HNp.out.1 k, Zd5 hp (Zbf HDB.out.1) k], fun k => by rw [HNp.out.2 k, ZcB (Zd5 hp (Zbf HDB.out.1) k)]⟩)
   have HN6 := Aside0.mk (HNm.out.mono (M := 80) (by omega))
   have HT6 := Aside0.mk (HT.out.below (Below.mk HB.out.os HB.out.tape HB.out.output HB.out.size HB.out.block))
   have hb6 := HB.out.size
   have c0 : wr.cell? ⟨g, 0, none⟩ = some (.map (some b)) := (Zaa HT6.out.1 0).trans rfl
   have HC := Aside0.mk (Zed b N T wr HT6.out.2)
   have hbnz := HNm.out.lt
   have hrz := hrg.lt
   clear hrg hcs HCm HNm HNp hp hl0 hc0
   go_wp2_with (fail)
   refine HC.out.mono ?_
   rintro e w6 ⟨rfl, hT7, hb7⟩
   have HB7 := Aside0.mk (Zae HB.out hb7)
   have HN7 := Aside0.mk (HN6.out.below hb7)
   have HT7 := Aside0.mk (HT6.out.below hb7)
   have HX7 := Aside0.mk hT7.loose
   have hxz := hT7.lt
   clear hb7 hT7 HC HN6 HB HT6
   generalize wr.heap.size = bx at HX7 hxz hb6 hbnz hrz ⊢
   obtain ⟨hTN, DN, hownN, hDN⟩ := HN7.out
   have HDN := Aside0.mk hDN
   have HSLN := Aside0.mk hownN.size_le
   clear hTN hDN HN7
   go_wp2_with (at_range; refine wpList_range_own _ rfl _ 105 rfl 3 3 keyed3 Tryz.underlying105 _ bn 80 _ rfl hownN ?_; intro w7 hrg7 hg7 hs7)
   have HB8 := Aside0.mk (HB7.out.grown hg7 HB7.out.size (fun j hj => by cases hj))
   have HX8 := Aside0.mk (HX7.out.kept hg7 (by simp))
   have HT8 := Aside0.mk (HT7.out.grown hg7 (by simp) (by simp))
   have HRG8 := Aside0.mk hrg7
   clear hownN hg7 hrg7 HB7 HX7 HT7 hs7
   generalize w6.heap.size = r1 at HRG8 hxz ⊢
   go_frame
   go_loopg [15] 80 (fun kx v15 wr => ∃ (left : Lit → Bool) (cnt : Nat) (ps : List S51) (ez : Int), v15 = .int .i64 ez ∧ cnt ≤ kx ∧ wr.ranges Tryz.prog 3 intR bn r1 80 DN left cnt ∧ ps.length + cnt ≤ 80 ∧ Aside0 (Came T' left ps) ∧ Aside0 (LMap wr bx (N + ps.length) (updL T ps)) ∧ Aside0 (Known T ps) ∧ Aside0 (ez = if ∀ r ∈ updL T ps, MayR r then 0 else 31) ∧ Aside0 (Below w.heap.size w wr))
   case atStart =>
    exact ⟨_, _, [], 0, rfl, HSLN.out, HRG8.out, by simpa using HSLN.out, ⟨HDN.out.came⟩, ⟨by rw [updL_nil]; exact HX8.out⟩, ⟨fun x hx => by cases hx⟩, ⟨by rw [updL_nil, if_pos HT.out.2.may]⟩, HB8⟩
   case round =>
    clear HX8 HRG8 HB8 HT8
    obtain ⟨left, cnt, ps, ez, rfl, hck, hrg, hcs, HCm, HXm, HKn, HEz, HB⟩ := hrel
    go_wp2_with (at_next; refine wpList_next_ranges_ii _ rfl _ rfl 3 3 .i64 .i64 keyed3 Tryz.underlying3 Tryz.underlying3 bn r1 80 DN _ _ rfl hrg ?_ ?_)
    ·intro hc0 hl0
     have hp := HCm.out.perm HDN.out.1 hl0
     have hval : ∀ k, valT ps k = valT (cntE [] more) k - valT (cntE [] less) k := fun k => by
      rw [ZcB (Zd5 hp (Zbf HDN.out.1) k), HNf.out.2 k, HTA.out, HTB.out]
     have hupd := chgT_upd (T := T) hval
     have hkn : ∀ k, (findT T' k).isSome = true → (findT T k).isSome = true := fun k h => by
      obtain ⟨y, hy⟩ := Option.isSome_iff_exists.1 h
      obtain ⟨h1, h2⟩ := ZaD hy
      have := HKn.out y (hp.symm.subset h1)
      rwa [h2] at this
     have hka : Known T ta := fun x hx => hkn _ (by
      rw [HNf.out.1]
      refine Bool.or_eq_true_iff.2 (.inl ?_)
      cases hf : findT ta x.f0 with
      | none => exact absurd rfl (Zbb hf x hx)
      | some y => rfl)
     have hkb : Known T tb := fun x hx => hkn _ (by
      rw [HNf.out.1]
      refine Bool.or_eq_true_iff.2 (.inr ?_)
      cases hf : findT tb x.f0 with
      | none => exact absurd rfl (Zbb hf x hx)
      | some y => rfl)
     have HK := Aside0.mk (And.intro hka hkb)
     rw [hupd] at HXm HEz
     have HX9 := Aside0.mk (HXm.out.mono (M := N + 80) (by omega))
     have hT9 := HT.out.below (Below.mk HB.out.os HB.out.tape HB.out.output HB.out.size HB.out.block)
     have HT9 := Aside0.mk hT9
     have hgx : bx ≠ g := by omega
     clear hp hval hupd hkn hka hkb HXm HKn HCm hrg hl0 hc0
     by_cases hall : ∀ r ∈ chgT T more less, MayR r
     ·as_aux_lemma =>
       have hez := HEz.out
       rw [if_pos hall] at hez
       subst hez
       have HAll := Aside0.mk hall
       clear hall HEz
       have c9 : wr.cell? ⟨g, 0, none⟩ = some (.map (some b)) := (Zaa hT9.1 0).trans rfl
       have f9 := Zad hT9.1 0
       clear hT9
       go_wp2_with (fail)
       go_ret
       have hgr : wr.grownBy (wr.setCell ⟨g, 0, none⟩ (.map (some bx))) (some g) := ZcM _ _ _ _
       exact .inl ⟨HK.out.1, HK.out.2, HAll.out, rfl, bx, hb6, ⟨by simpa using ZaG HT9.out.1 0 (.map (some bx)), (HX9.out.tight HAll.out).kept hgr (fun e => hgx (Option.some.inj e))⟩, Zd4 (Zax HB.out (some g)) hgr (fun j hj => .inr hj)⟩
     ·as_aux_lemma =>
       have hez := HEz.out
       rw [if_neg hall] at hez
       subst hez
       have HAll := Aside0.mk hall
       clear hall HEz hT9
       go_wp2_with (fail)
       go_ret
       exact .inr (.inl ⟨HK.out.1, HK.out.2, HAll.out, rfl, HB.out⟩)
    ·intro x n w8 cnt2 hwx hwc hlx hat hrg2 hlt hg2 hs2 hen
     obtain ⟨t, ht, et⟩ := HCm.out.2.2.2 _ hlx
     injection et with _ et
     subst et
     have hct := HDN.out.2.1 t ht
     have hn : n = t.f1 := by
      have h1 := hat (.lit .nil)
      rw [HDN.out.2.2.2 t ht] at h1
      simpa [numD] using h1.symm
     subst hn
     have HCt := Aside0.mk hct
     have HTm := Aside0.mk ht
     have HC2 := Aside0.mk (HCm.out.step HDN.out.1 ht hlx)
     have HNone := Aside0.mk (came_none HDN.out.1 HCm.out ht hlx)
     have hlt2 := hlt
     have HX8 := Aside0.mk (HXm.out.kept hg2 (by simp; omega))
     have HB8 := Aside0.mk (HB.out.grown hg2 HB.out.size (fun j hj => by obtain rfl := Option.some.inj hj; omega))
     have HRG2 := Aside0.mk hrg2
     have hlk := HX8.out.look (k := t.f0) hwx
     clear hs2 hat hwx hwc hlx ht hct hrg hrg2 hg2 hlt HXm HB
     cases hq : findT T t.f0 with
     | none =>
      as_aux_lemma =>
       rw [ZcC, hq] at hlk
       simp only [rowV, Option.map_none, Option.getD_none, Option.isSome_none] at hlk
       have HQ := Aside0.mk hq
       clear hq
       have hwr : IntKind.i64.wrap t.f1 = t.f1 := IntWalk.i64_in _ (by have := HCt.out.2.2.1; have := HCt.out.2.2.2.1; omega)
       have hwr0 : IntKind.i64.wrap (0 + t.f1) = t.f1 := by rw [Int.zero_add]; exact hwr
       go_wp2_with (fail)
       go_ret
       refine .inr (.inr ⟨?_, rfl, Zab HB8.out _⟩)
       intro k1 k2
       have hu := Zbf HDN.out.1
       have h0 : (findT T' t.f0).isSome = true := by rw [(Zb5 hu).2 ⟨HTm.out, rfl⟩]; rfl
       rw [HNf.out.1] at h0
       have hq := HQ.out
       rcases Bool.or_eq_true_iff.1 h0 with h0 | h0
       ·obtain ⟨y, hy⟩ := Option.isSome_iff_exists.1 h0
        have := k1 y (ZaD hy).1
        rw [(ZaD hy).2, hq] at this
        cases this
       ·obtain ⟨y, hy⟩ := Option.isSome_iff_exists.1 h0
        have := k2 y (ZaD hy).1
        rw [(ZaD hy).2, hq] at this
        cases this
     | some r =>
      as_aux_lemma =>
       obtain ⟨r0, r1, r2⟩ := r
       have hr0 : r0 = t.f0 := (ZaD hq).2
       subst hr0
       rw [updL_old HNone.out hq] at hlk
       simp only [rowV, Option.getD_some, Option.isSome_some] at hlk
       have hrm := HT.out.2.may _ (ZaD hq).1
       have hrm' : MayR ⟨t.f0, r1, r2⟩ := hrm
       simp only [MayR] at hrm
       have hwr : IntKind.i64.wrap (r2 + t.f1) = r2 + t.f1 := IntWalk.i64_in _ (by have := HCt.out.2.2.1; have := HCt.out.2.2.2.1; have := hrm.2.2.2.2.1; have := hrm.2.2.2.2.2; have := hrm.2.2.2.1; omega)
       have hmc := fun W => may_calls ⟨t.f0, r1, r2 + t.f1⟩ W
       simp only [rowV] at hmc
       have HStep := Aside0.mk (updL_step (ps := ps) HT.out.2.sorted HNone.out hq)
       have HMay := Aside0.mk (updL_may (ps := ps) HT.out.2.sorted HT.out.2.may HNone.out hq)
       have HLo : Aside0 (LooseR ⟨t.f0, r1, r2 + t.f1⟩) := ⟨⟨hrm.1, hrm.2.1, by have := hrm.2.2.1; simp only; omega, by have := hrm.2.2.2.1; simp only; omega, by have := HCt.out.2.2.1; have := hrm.2.2.2.2.1; simp only; omega, by have := HCt.out.2.2.2.1; have := hrm.2.2.2.2.2; have := hrm.2.2.2.1; simp only; omega⟩⟩
       have HX9 := Aside0.mk (HX8.out.below (Zab (Below.refl _ _) (.cells #[.int .i64 t.f0, .int .i64 r1, .int .i64 (r2 + t.f1)] 51)))
       have HB9 := Aside0.mk (Zab HB8.out (.cells #[.int .i64 t.f0, .int .i64 r1, .int .i64 (r2 + t.f1)] 51))
       have HRG9 := Aside0.mk (HRG2.out.alloc (.cells #[.int .i64 t.f0, .int .i64 r1, .int .i64 (r2 + t.f1)] 51))
       have HBX := Aside0.mk (Zas w8 (.cells #[.int .i64 t.f0, .int .i64 r1, .int .i64 (r2 + t.f1)] 51))
       have HKn2 : Aside0 (Known T (ps ++ [t])) := ⟨fun y hy => by
        rcases List.mem_append.1 hy with hy | hy
        ·exact HKn.out y hy
        ·simp at hy
         rw [hy, hq]
         rfl⟩
       have hps : ps.length < 80 := by omega
       clear hq hrm HKn
       cases hd : decide (MayR ⟨t.f0, r1, r2 + t.f1⟩) with
       | true =>
        rw [hd] at hmc
        have HD2 : Aside0 (∀ e2 : Int, (e2 = if ∀ y ∈ updL T ps, MayR y then 0 else 31) → e2 = if ∀ y ∈ updL T (ps ++ [t]), MayR y then 0 else 31) := ⟨fun e2 h => by
         rw [h]
         by_cases hc : ∀ y ∈ updL T ps, MayR y
         ·rw [if_pos hc, if_pos (HMay.out.2 ⟨of_decide_eq_true hd, hc⟩)]
         ·rw [if_neg hc, if_neg (fun h => hc (HMay.out.1 h).2)]⟩
        clear hd
        as_aux_lemma =>
        go_wp2_with (fail)
        refine (hmc _).mono ?_
        rintro e w9 ⟨rfl, hb9⟩
        have HX10 := Aside0.mk (HX9.out.below hb9)
        have HB10 := Aside0.mk (Zae HB9.out hb9)
        have HRG10 := Aside0.mk (HRG9.out.kept (Zax hb9 none) (by simp) (by simp))
        have bx10 := Zag HBX.out hb9
        have k0 : w9.cell? ⟨w8.heap.size, 0, none⟩ = some (.int .i64 t.f0) := (Zaa bx10 0).trans rfl
        have k1 : w9.cell? ⟨w8.heap.size, 1, none⟩ = some (.int .i64 r1) := (Zaa bx10 1).trans rfl
        have k2 : w9.cell? ⟨w8.heap.size, 2, none⟩ = some (.int .i64 (r2 + t.f1)) := (Zaa bx10 2).trans rfl
        have hMX := HX10.out
        clear hb9 bx10 hlk hmc
        go_wp2_with (at_mapUpdate; go_loud (refine wp_putL rfl _ _ _ rfl hMX (by omega) ⟨t.f0, r1, r2 + t.f1⟩ HLo.out rfl rfl rfl ?_); intro w10 hX10 hg10)
        have hr10 := HRG10.out.kept hg10 (by simp; omega) (by simp; omega)
        go_roundg (gk - 1)
        case measure => omega
        case rel => exact ⟨_, cnt2, ps ++ [t], ez, rfl, by omega, hr10, by simp; omega, HC2, ⟨by rw [List.length_append, ← HStep.out]; exact hX10⟩, HKn2, ⟨HD2.out ez HEz.out⟩, ⟨HB10.out.grown hg10 HB10.out.size (fun j hj => by obtain rfl := Option.some.inj hj; omega)⟩⟩
       | false =>
        rw [hd] at hmc
        have HD2 : Aside0 ((31 : Int) = if ∀ y ∈ updL T (ps ++ [t]), MayR y then 0 else 31) := ⟨by
         rw [if_neg (fun h => of_decide_eq_false hd (HMay.out.1 h).1)]⟩
        clear hd
        as_aux_lemma =>
        go_wp2_with (fail)
        refine (hmc _).mono ?_
        rintro e w9 ⟨rfl, hb9⟩
        have HX10 := Aside0.mk (HX9.out.below hb9)
        have HB10 := Aside0.mk (Zae HB9.out hb9)
        have HRG10 := Aside0.mk (HRG9.out.kept (Zax hb9 none) (by simp) (by simp))
        have bx10 := Zag HBX.out hb9
        have k0 : w9.cell? ⟨w8.heap.size, 0, none⟩ = some (.int .i64 t.f0) := (Zaa bx10 0).trans rfl
        have k1 : w9.cell? ⟨w8.heap.size, 1, none⟩ = some (.int .i64 r1) := (Zaa bx10 1).trans rfl
        have k2 : w9.cell? ⟨w8.heap.size, 2, none⟩ = some (.int .i64 (r2 + t.f1)) := (Zaa bx10 2).trans rfl
        have hMX := HX10.out
        clear hb9 bx10 hlk hmc
        go_wp2_with (at_mapUpdate; go_loud (refine wp_putL rfl _ _ _ rfl hMX (by omega) ⟨t.f0, r1, r2 + t.f1⟩ HLo.out rfl rfl rfl ?_); intro w10 hX10 hg10)
        have hr10 := HRG10.out.kept hg10 (by simp; omega) (by simp; omega)
        go_roundg (gk - 1)
        case measure => omega
        case rel => exact ⟨_, cnt2, ps ++ [t], 31, rfl, by omega, hr10, by simp; omega, HC2, ⟨by rw [List.length_append, ← HStep.out]; exact hX10⟩, HKn2, HD2, ⟨HB10.out.grown hg10 HB10.out.size (fun j hj => by obtain rfl := Option.some.inj hj; omega)⟩⟩
  ·intro x n w5 cnt2 hwx hwc hlx hat hrg2 hlt hg2 hs2 hen
   obtain ⟨t, ht, et⟩ := HCm.out.2.2.2 _ hlx
   injection et with _ et
   subst et
   have hct := HDB.out.2.1 t ht
   have hn : n = t.f1 := by
    have h1 := hat (.lit .nil)
    rw [HDB.out.2.2.2 t ht] at h1
    simpa [numD] using h1.symm
   subst hn
   have HC2 := Aside0.mk (HCm.out.step HDB.out.1 ht hlx)
   have hnone := came_none HDB.out.1 HCm.out ht hlx
   have HNone := Aside0.mk hnone
   have HLT := Aside0.mk (show cnt2 < cnt ∧ wr.rangeLeft bb r0 = cnt from ⟨hlt, hrg.left_eq⟩)
   have HN5 := Aside0.mk (HNm.out.kept hg2 (by simp; omega))
   have HB5 := Aside0.mk (HB.out.grown hg2 HB.out.size (fun j hj => by obtain rfl := Option.some.inj hj; omega))
   have hlk := HN5.out.look (k := t.f0) hwx
   have hv1 := HNp.out.2 t.f0
   rw [Zdy hnone] at hv1
   obtain ⟨hv2, hv3⟩ := ZcX HBA.out (by decide) t.f0
   obtain ⟨hv4, hv5⟩ := HBB.out t ht
   have hps : ps.length < 40 := by omega
   have hX : NetR ⟨t.f0, valT T' t.f0 - t.f1, valT T' t.f0 - t.f1⟩ := ⟨hct.1, hct.2.1, by simp only; omega, by simp only; omega, rfl⟩
   have HX := Aside0.mk hX
   have HP2 := Aside0.mk (HNp.out.step HNm.out.sorted hnone (valT T' t.f0 - t.f1) rfl)
   have hwr : IntKind.i64.wrap (valT T' t.f0 - t.f1) = valT T' t.f0 - t.f1 := IntWalk.i64_in _ (by omega)
   have hMN := HN5.out
   have HRG2 := Aside0.mk hrg2
   clear hs2 hat hwx hwc hlx ht hct hrg hrg2 hg2 hnone hv1 hv2 hv3 hv4 hv5 hX hlt
   generalize valT T' t.f0 = vv at hlk HX HP2 hwr ⊢
   obtain ⟨t0, t1, t2⟩ := t
   simp only at hlk HX HP2 hwr hen ⊢
   go_wp2_with (at_mapUpdate; go_loud (refine wp_putN rfl _ _ _ rfl hMN (by omega) ⟨t0, vv - t1, vv - t1⟩ HX.out rfl rfl rfl ?_); intro w6 hN6 hg6)
   have hr6 := HRG2.out.kept hg6 (by simp; omega) (by simp; omega)
   refine ⟨⟨_, cnt2, hr6, ps ++ [⟨t0, t1, t2⟩], by simp; have := HLT.out.1; omega, HC2, _, ⟨?_⟩, HP2, ⟨HB5.out.grown hg6 HB5.out.size (fun j hj => by obtain rfl := Option.some.inj hj; omega)⟩⟩, ?_⟩
   ·rw [List.length_append]
    exact hN6
   ·rw [hr6.left_eq, HLT.out.2]
    exact HLT.out.1
theorem change_calls (g b N : Nat) (hN : N < 500000) (T : List S51) (A : Option Addr) (c : Nat) (more : List S86) (B : Option Addr) (d : Nat) (less : List S86) (h1 : more.length ≤ 40) (h2 : less.length ≤ 40) (w : World) (hT : TbB w g b N T) (hr : Kd.C k86 w A more.length more) (hs : Kd.C k86 w B less.length less) :
  Calls Tryz.prog 14 #[.pointer (some ⟨g, 0, none⟩), .slice A more.length c, .slice B less.length d] w fun e w' =>
   e = .returned (.int .i64 (chgR T more less).2) ∧ ∃ b', (b' = b ∨ w.heap.size ≤ b') ∧ TbB w' g b' (N + 80) (chgR T more less).1 ∧ w.grownBy w' (some g) := by
 by_cases hb : (∀ x ∈ more, MayE x) ∧ ∀ x ∈ less, MayE x
 ·refine (change_good g b N hN T A c more B d less h1 h2 w hT hr hs hb.1 hb.2 _ _ rfl rfl).mono ?_
  rintro e w' (⟨k1, k2, k3, rfl, b', q1, q2, q3⟩ | ⟨k1, k2, k3, rfl, q1⟩ | ⟨k1, rfl, q1⟩)
  ·have e1 : chgR T more less = (chgT T more less, 0) := by unfold chgR; rw [if_pos hb, if_pos ⟨k1, k2⟩, if_pos k3]
   rw [e1]
   exact ⟨rfl, b', .inr q1, q2, q3⟩
  ·have e1 : chgR T more less = (T, 31) := by unfold chgR; rw [if_pos hb, if_pos ⟨k1, k2⟩, if_neg k3]
   rw [e1]
   exact ⟨rfl, b, .inl rfl, (hT.below q1).mono (by omega), Zax q1 _⟩
  ·have e1 : chgR T more less = (T, 15) := by unfold chgR; rw [if_pos hb, if_neg k1]
   rw [e1]
   exact ⟨rfl, b, .inl rfl, (hT.below q1).mono (by omega), Zax q1 _⟩
 ·refine (change_bad g b N T A c more B d less h1 h2 w hT hr hs hb).mono ?_
  rintro e w' ⟨rfl, q1⟩
  have e1 : chgR T more less = (T, 1) := by unfold chgR; rw [if_neg hb]
  rw [e1]
  exact ⟨rfl, b, .inl rfl, (hT.below q1).mono (by omega), Zax q1 _⟩
end Go.Proofs.YtpfnaknmalojkaaGreat.PTopRows
namespace Go.Proofs.YtpfnaknmalojkaaGreat.PTopRows
open Go.RowKit Go.Proofs.YtpfnaknmalojkaaGreatW.PrintWords Go.Proofs.YtpfnaknmalojkaaGreatW.PrintLast Go.Proofs.YtpfnaknmalojkaaGreatW.PrintMore
attribute [local go_sem] Za5 Za4 Zbp Zbo Za7 Za6 Zbl Zbk   -- for this text's walks alone
set_option linter.unusedVariables false
set_option linter.unusedSimpArgs false
attribute [local go_sem high] eqA86
def ZcN.f (a0_0 : Int) (a0_1 : Int) (a0_2 : Int) (a0_3 : Int) : Option (Bool) := if a0_1 ≥ 1 then (if a0_0 ≥ 0 then (if a0_0 ≤ 65536 then (if a0_1 ≤ (wrap64 (65536 - a0_0)) then ((gc_seq.f a0_2).bind fun t380 => (if t380 = true then (if a0_3 ≥ 0 then (some (decide (a0_3 ≤ 65536))) else (some false)) else (some false))) else (some false)) else (some false)) else (some false)) else (some false)
set_option maxHeartbeats 8000000 in
set_option maxRecDepth 100000 in
theorem ZcN.calls (a0_0 : Int) (a0_1 : Int) (a0_2 : Int) (a0_3 : Int) (r : Bool) (w : World) (h : ZcN.f a0_0 a0_1 a0_2 a0_3 = some r) :
  Calls Tryz.prog 51 #[.agg #[.int .i64 a0_0, .int .i64 a0_1, .int .i64 a0_2, .int .i64 a0_3]] w fun e w' => e = .returned (.bool r) ∧ Below w.heap.size w w' := by
 have hu86 := Tryz.underlying86
 have HB := Aside0.mk (Below.refl w.heap.size w)
 have H : (if a0_1 ≥ 1 then (if a0_0 ≥ 0 then (if a0_0 ≤ 65536 then (if a0_1 ≤ (wrap64 (65536 - a0_0)) then ((gc_seq.f a0_2).bind fun t380 => (if t380 = true then (if a0_3 ≥ 0 then (some (decide (a0_3 ≤ 65536))) else (some false)) else (some false))) else (some false)) else (some false)) else (some false)) else (some false)) = some r := h
 clear h
 by_cases c2 : a0_1 ≥ 1
 ·rw [if_pos c2] at H
  have c2b0 : decide (1 ≤ a0_1) = true := decide_eq_true c2
  clear c2
  by_cases c3 : a0_0 ≥ 0
  ·rw [if_pos c3] at H
   have c3b0 : decide (0 ≤ a0_0) = true := decide_eq_true c3
   clear c3
   by_cases c4 : a0_0 ≤ 65536
   ·rw [if_pos c4] at H
    have c4b0 : decide (a0_0 ≤ 65536) = true := decide_eq_true c4
    clear c4
    by_cases c5 : a0_1 ≤ (wrap64 (65536 - a0_0))
    ·rw [if_pos c5] at H
     have c5b0 : decide (a0_1 ≤ (wrap64 (65536 - a0_0))) = true := decide_eq_true c5
     clear c5
     replace H := Option.bind_eq_some_iff.mp H
     obtain ⟨t380, A60, H⟩ := H
     replace H : (if t380 = true then (if a0_3 ≥ 0 then (some (decide (a0_3 ≤ 65536))) else (some false)) else (some false)) = some r := H
     have A6 := Aside0.mk A60
     clear A60
     by_cases c7 : t380 = true
     ·subst c7
      have H1 : (if a0_3 ≥ 0 then (some (decide (a0_3 ≤ 65536))) else (some false)) = some r := by rw [if_pos rfl] at H; exact H
      clear H
      have H := H1
      clear H1
      by_cases c8 : a0_3 ≥ 0
      ·rw [if_pos c8] at H
       have c8b0 : decide (0 ≤ a0_3) = true := decide_eq_true c8
       clear c8
       obtain rfl := Option.some.inj H
       go_enter Tryz.func51, Tryz.ntmps51
       go_wp2_with (first | ((with_reducible refine Zaw (N := 1) rfl ?_); refine Zau ?hg (N := 1) ?hd (cs := #[.int .i64 a0_0, .int .i64 a0_1, .int .i64 a0_2, .int .i64 a0_3]) (t := 86) ?hr ?_; (case hd => rfl); (case hg => rfl); (case hr => first | (go_simp; done) | (go_simp; rfl)); intro gb379 hg w9 hbox hb; have n0_ := Aside0.mk (Zae (by repeat (first | (with_reducible first | exact HB.out | apply Zab | apply Zac | apply Zaf) | exact HB.out)) hb); have n1_ := Aside0.mk (hbox); have n2_ := Aside0.mk ((by rw [hg]; exact (Zai (by repeat (first | (with_reducible first | exact HB.out | apply Zab | apply Zac | apply Zaf) | exact HB.out))) : w.heap.size ≤ gb379)); have n3_ := Aside0.mk ((by rw [hg]; exact (Zai (by repeat (first | (with_reducible first | exact HB.out | apply Zab | apply Zac | apply Zaf) | exact HB.out))) : w.heap.size ≤ gb379)); clear HB; have HB := n0_; have BK379 := n1_; have GW379 := n2_; have GE379 := n3_; clear n0_ n1_ n2_ n3_; clear hb hbox hg; have hcz10_0 : w9.cell? ⟨gb379, 0, none⟩ = some (.int .i64 a0_0) := (Zaa BK379.out 0).trans rfl; have hcz10_1 : w9.cell? ⟨gb379, 1, none⟩ = some (.int .i64 a0_1) := (Zaa BK379.out 1).trans rfl; have hcz10_2 : w9.cell? ⟨gb379, 2, none⟩ = some (.int .i64 a0_2) := (Zaa BK379.out 2).trans rfl; have hcz10_3 : w9.cell? ⟨gb379, 3, none⟩ = some (.int .i64 a0_3) := (Zaa BK379.out 3).trans rfl; have hfz10_0 := Zad BK379.out 0; have hfz10_1 := Zad BK379.out 1; have hfz10_2 := Zad BK379.out 2; have hfz10_3 := Zad BK379.out 3) | (go_at_call 100; (with_reducible refine (gc_seq.calls a0_2 true _ A6.out).mono ?_); rintro e w' ⟨rfl, ⟨nd, rfl⟩⟩))
       go_ret
       exact ⟨by first | rfl | (simp [Zal, Zak] <;> rfl) | (simp [*, Zal, Zak] <;> rfl), by repeat (first | (with_reducible first | exact HB.out | apply Zab | apply Zac | apply Zaf | refine Zaj ?_ GE379.out) | exact HB.out)⟩
      ·rw [if_neg c8] at H
       have c8b0 : decide (0 ≤ a0_3) = false := decide_eq_false c8
       clear c8
       obtain rfl := Option.some.inj H
       go_enter Tryz.func51, Tryz.ntmps51
       go_wp2_with (first | ((with_reducible refine Zaw (N := 1) rfl ?_); refine Zau ?hg (N := 1) ?hd (cs := #[.int .i64 a0_0, .int .i64 a0_1, .int .i64 a0_2, .int .i64 a0_3]) (t := 86) ?hr ?_; (case hd => rfl); (case hg => rfl); (case hr => first | (go_simp; done) | (go_simp; rfl)); intro gb379 hg w11 hbox hb; have n0_ := Aside0.mk (Zae (by repeat (first | (with_reducible first | exact HB.out | apply Zab | apply Zac | apply Zaf) | exact HB.out)) hb); have n1_ := Aside0.mk (hbox); have n2_ := Aside0.mk ((by rw [hg]; exact (Zai (by repeat (first | (with_reducible first | exact HB.out | apply Zab | apply Zac | apply Zaf) | exact HB.out))) : w.heap.size ≤ gb379)); have n3_ := Aside0.mk ((by rw [hg]; exact (Zai (by repeat (first | (with_reducible first | exact HB.out | apply Zab | apply Zac | apply Zaf) | exact HB.out))) : w.heap.size ≤ gb379)); clear HB; have HB := n0_; have BK379 := n1_; have GW379 := n2_; have GE379 := n3_; clear n0_ n1_ n2_ n3_; clear hb hbox hg; have hcz12_0 : w11.cell? ⟨gb379, 0, none⟩ = some (.int .i64 a0_0) := (Zaa BK379.out 0).trans rfl; have hcz12_1 : w11.cell? ⟨gb379, 1, none⟩ = some (.int .i64 a0_1) := (Zaa BK379.out 1).trans rfl; have hcz12_2 : w11.cell? ⟨gb379, 2, none⟩ = some (.int .i64 a0_2) := (Zaa BK379.out 2).trans rfl; have hcz12_3 : w11.cell? ⟨gb379, 3, none⟩ = some (.int .i64 a0_3) := (Zaa BK379.out 3).trans rfl; have hfz12_0 := Zad BK379.out 0; have hfz12_1 := Zad BK379.out 1; have hfz12_2 := Zad BK379.out 2; have hfz12_3 := Zad BK379.out 3) | (go_at_call 100; (with_reducible refine (gc_seq.calls a0_2 true _ A6.out).mono ?_); rintro e w' ⟨rfl, ⟨nd, rfl⟩⟩))
       go_ret
       exact ⟨by first | rfl | (simp [Zal, Zak] <;> rfl) | (simp [*, Zal, Zak] <;> rfl), by repeat (first | (with_reducible first | exact HB.out | apply Zab | apply Zac | apply Zaf | refine Zaj ?_ GE379.out) | exact HB.out)⟩
     ·replace c7 := Bool.eq_false_iff.mpr c7
      subst c7
      have H1 : (some false) = some r := by rw [if_neg (show ¬ (false = true) by decide)] at H; exact H
      clear H
      have H := H1
      clear H1
      obtain rfl := Option.some.inj H
      go_enter Tryz.func51, Tryz.ntmps51
      go_wp2_with (first | ((with_reducible refine Zaw (N := 1) rfl ?_); refine Zau ?hg (N := 1) ?hd (cs := #[.int .i64 a0_0, .int .i64 a0_1, .int .i64 a0_2, .int .i64 a0_3]) (t := 86) ?hr ?_; (case hd => rfl); (case hg => rfl); (case hr => first | (go_simp; done) | (go_simp; rfl)); intro gb379 hg w13 hbox hb; have n0_ := Aside0.mk (Zae (by repeat (first | (with_reducible first | exact HB.out | apply Zab | apply Zac | apply Zaf) | exact HB.out)) hb); have n1_ := Aside0.mk (hbox); have n2_ := Aside0.mk ((by rw [hg]; exact (Zai (by repeat (first | (with_reducible first | exact HB.out | apply Zab | apply Zac | apply Zaf) | exact HB.out))) : w.heap.size ≤ gb379)); have n3_ := Aside0.mk ((by rw [hg]; exact (Zai (by repeat (first | (with_reducible first | exact HB.out | apply Zab | apply Zac | apply Zaf) | exact HB.out))) : w.heap.size ≤ gb379)); clear HB; have HB := n0_; have BK379 := n1_; have GW379 := n2_; have GE379 := n3_; clear n0_ n1_ n2_ n3_; clear hb hbox hg; have hcz14_0 : w13.cell? ⟨gb379, 0, none⟩ = some (.int .i64 a0_0) := (Zaa BK379.out 0).trans rfl; have hcz14_1 : w13.cell? ⟨gb379, 1, none⟩ = some (.int .i64 a0_1) := (Zaa BK379.out 1).trans rfl; have hcz14_2 : w13.cell? ⟨gb379, 2, none⟩ = some (.int .i64 a0_2) := (Zaa BK379.out 2).trans rfl; have hcz14_3 : w13.cell? ⟨gb379, 3, none⟩ = some (.int .i64 a0_3) := (Zaa BK379.out 3).trans rfl; have hfz14_0 := Zad BK379.out 0; have hfz14_1 := Zad BK379.out 1; have hfz14_2 := Zad BK379.out 2; have hfz14_3 := Zad BK379.out 3) | (go_at_call 100; (with_reducible refine (gc_seq.calls a0_2 false _ A6.out).mono ?_); rintro e w' ⟨rfl, ⟨nd, rfl⟩⟩))
      go_ret
      exact ⟨by first | rfl | (simp [Zal, Zak] <;> rfl) | (simp [*, Zal, Zak] <;> rfl), by repeat (first | (with_reducible first | exact HB.out | apply Zab | apply Zac | apply Zaf | refine Zaj ?_ GE379.out) | exact HB.out)⟩
    ·rw [if_neg c5] at H
     have c5b0 : decide (a0_1 ≤ (wrap64 (65536 - a0_0))) = false := decide_eq_false c5
     clear c5
     obtain rfl := Option.some.inj H
     go_enter Tryz.func51, Tryz.ntmps51
     go_wp2_with (first | ((with_reducible refine Zaw (N := 1) rfl ?_); refine Zau ?hg (N := 1) ?hd (cs := #[.int .i64 a0_0, .int .i64 a0_1, .int .i64 a0_2, .int .i64 a0_3]) (t := 86) ?hr ?_; (case hd => rfl); (case hg => rfl); (case hr => first | (go_simp; done) | (go_simp; rfl)); intro gb379 hg w15 hbox hb; have n0_ := Aside0.mk (Zae (by repeat (first | (with_reducible first | exact HB.out | apply Zab | apply Zac | apply Zaf) | exact HB.out)) hb); have n1_ := Aside0.mk (hbox); have n2_ := Aside0.mk ((by rw [hg]; exact (Zai (by repeat (first | (with_reducible first | exact HB.out | apply Zab | apply Zac | apply Zaf) | exact HB.out))) : w.heap.size ≤ gb379)); have n3_ := Aside0.mk ((by rw [hg]; exact (Zai (by repeat (first | (with_reducible first | exact HB.out | apply Zab | apply Zac | apply Zaf) | exact HB.out))) : w.heap.size ≤ gb379)); clear HB; have HB := n0_; have BK379 := n1_; have GW379 := n2_; have GE379 := n3_; clear n0_ n1_ n2_ n3_; clear hb hbox hg; have hcz16_0 : w15.cell? ⟨gb379, 0, none⟩ = some (.int .i64 a0_0) := (Zaa BK379.out 0).trans rfl; have hcz16_1 : w15.cell? ⟨gb379, 1, none⟩ = some (.int .i64 a0_1) := (Zaa BK379.out 1).trans rfl; have hcz16_2 : w15.cell? ⟨gb379, 2, none⟩ = some (.int .i64 a0_2) := (Zaa BK379.out 2).trans rfl; have hcz16_3 : w15.cell? ⟨gb379, 3, none⟩ = some (.int .i64 a0_3) := (Zaa BK379.out 3).trans rfl; have hfz16_0 := Zad BK379.out 0; have hfz16_1 := Zad BK379.out 1; have hfz16_2 := Zad BK379.out 2; have hfz16_3 := Zad BK379.out 3))
     go_ret
     exact ⟨by first | rfl | (simp [Zal, Zak] <;> rfl) | (simp [*, Zal, Zak] <;> rfl), by repeat (first | (with_reducible first | exact HB.out | apply Zab | apply Zac | apply Zaf | refine Zaj ?_ GE379.out) | exact HB.out)⟩
   ·rw [if_neg c4] at H
    have c4b0 : decide (a0_0 ≤ 65536) = false := decide_eq_false c4
    clear c4
    obtain rfl := Option.some.inj H
    go_enter Tryz.func51, Tryz.ntmps51
    go_wp2_with (first | ((with_reducible refine Zaw (N := 1) rfl ?_); refine Zau ?hg (N := 1) ?hd (cs := #[.int .i64 a0_0, .int .i64 a0_1, .int .i64 a0_2, .int .i64 a0_3]) (t := 86) ?hr ?_; (case hd => rfl); (case hg => rfl); (case hr => first | (go_simp; done) | (go_simp; rfl)); intro gb379 hg w17 hbox hb; have n0_ := Aside0.mk (Zae (by repeat (first | (with_reducible first | exact HB.out | apply Zab | apply Zac | apply Zaf) | exact HB.out)) hb); have n1_ := Aside0.mk (hbox); have n2_ := Aside0.mk ((by rw [hg]; exact (Zai (by repeat (first | (with_reducible first | exact HB.out | apply Zab | apply Zac | apply Zaf) | exact HB.out))) : w.heap.size ≤ gb379)); have n3_ := Aside0.mk ((by rw [hg]; exact (Zai (by repeat (first | (with_reducible first | exact HB.out | apply Zab | apply Zac | apply Zaf) | exact HB.out))) : w.heap.size ≤ gb379)); clear HB; have HB := n0_; have BK379 := n1_; have GW379 := n2_; have GE379 := n3_; clear n0_ n1_ n2_ n3_; clear hb hbox hg; have hcz18_0 : w17.cell? ⟨gb379, 0, none⟩ = some (.int .i64 a0_0) := (Zaa BK379.out 0).trans rfl; have hcz18_1 : w17.cell? ⟨gb379, 1, none⟩ = some (.int .i64 a0_1) := (Zaa BK379.out 1).trans rfl; have hcz18_2 : w17.cell? ⟨gb379, 2, none⟩ = some (.int .i64 a0_2) := (Zaa BK379.out 2).trans rfl; have hcz18_3 : w17.cell? ⟨gb379, 3, none⟩ = some (.int .i64 a0_3) := (Zaa BK379.out 3).trans rfl; have hfz18_0 := Zad BK379.out 0; have hfz18_1 := Zad BK379.out 1; have hfz18_2 := Zad BK379.out 2; have hfz18_3 := Zad BK379.out 3))
    go_ret
    exact ⟨by first | rfl | (simp [Zal, Zak] <;> rfl) | (simp [*, Zal, Zak] <;> rfl), by repeat (first | (with_reducible first | exact HB.out | apply Zab | apply Zac | apply Zaf | refine Zaj ?_ GE379.out) | exact HB.out)⟩
  ·rw [if_neg c3] at H
   have c3b0 : decide (0 ≤ a0_0) = false := decide_eq_false c3
   clear c3
   obtain rfl := Option.some.inj H
   go_enter Tryz.func51, Tryz.ntmps51
   go_wp2_with (first | ((with_reducible refine Zaw (N := 1) rfl ?_); refine Zau ?hg (N := 1) ?hd (cs := #[.int .i64 a0_0, .int .i64 a0_1, .int .i64 a0_2, .int .i64 a0_3]) (t := 86) ?hr ?_; (case hd => rfl); (case hg => rfl); (case hr => first | (go_simp; done) | (go_simp; rfl)); intro gb379 hg w19 hbox hb; have n0_ := Aside0.mk (Zae (by repeat (first | (with_reducible first | exact HB.out | apply Zab | apply Zac | apply Zaf) | exact HB.out)) hb); have n1_ := Aside0.mk (hbox); have n2_ := Aside0.mk ((by rw [hg]; exact (Zai (by repeat (first | (with_reducible first | exact HB.out | apply Zab | apply Zac | apply Zaf) | exact HB.out))) : w.heap.size ≤ gb379)); have n3_ := Aside0.mk ((by rw [hg]; exact (Zai (by repeat (first | (with_reducible first | exact HB.out | apply Zab | apply Zac | apply Zaf) | exact HB.out))) : w.heap.size ≤ gb379)); clear HB; have HB := n0_; have BK379 := n1_; have GW379 := n2_; have GE379 := n3_; clear n0_ n1_ n2_ n3_; clear hb hbox hg; have hcz20_0 : w19.cell? ⟨gb379, 0, none⟩ = some (.int .i64 a0_0) := (Zaa BK379.out 0).trans rfl; have hcz20_1 : w19.cell? ⟨gb379, 1, none⟩ = some (.int .i64 a0_1) := (Zaa BK379.out 1).trans rfl; have hcz20_2 : w19.cell? ⟨gb379, 2, none⟩ = some (.int .i64 a0_2) := (Zaa BK379.out 2).trans rfl; have hcz20_3 : w19.cell? ⟨gb379, 3, none⟩ = some (.int .i64 a0_3) := (Zaa BK379.out 3).trans rfl; have hfz20_0 := Zad BK379.out 0; have hfz20_1 := Zad BK379.out 1; have hfz20_2 := Zad BK379.out 2; have hfz20_3 := Zad BK379.out 3))
   go_ret
   exact ⟨by first | rfl | (simp [Zal, Zak] <;> rfl) | (simp [*, Zal, Zak] <;> rfl), by repeat (first | (with_reducible first | exact HB.out | apply Zab | apply Zac | apply Zaf | refine Zaj ?_ GE379.out) | exact HB.out)⟩
 ·rw [if_neg c2] at H
  have c2b0 : decide (1 ≤ a0_1) = false := decide_eq_false c2
  clear c2
  obtain rfl := Option.some.inj H
  go_enter Tryz.func51, Tryz.ntmps51
  go_wp2_with (first | ((with_reducible refine Zaw (N := 1) rfl ?_); refine Zau ?hg (N := 1) ?hd (cs := #[.int .i64 a0_0, .int .i64 a0_1, .int .i64 a0_2, .int .i64 a0_3]) (t := 86) ?hr ?_; (case hd => rfl); (case hg => rfl); (case hr => first | (go_simp; done) | (go_simp; rfl)); intro gb379 hg w21 hbox hb; have n0_ := Aside0.mk (Zae (by repeat (first | (with_reducible first | exact HB.out | apply Zab | apply Zac | apply Zaf) | exact HB.out)) hb); have n1_ := Aside0.mk (hbox); have n2_ := Aside0.mk ((by rw [hg]; exact (Zai (by repeat (first | (with_reducible first | exact HB.out | apply Zab | apply Zac | apply Zaf) | exact HB.out))) : w.heap.size ≤ gb379)); have n3_ := Aside0.mk ((by rw [hg]; exact (Zai (by repeat (first | (with_reducible first | exact HB.out | apply Zab | apply Zac | apply Zaf) | exact HB.out))) : w.heap.size ≤ gb379)); clear HB; have HB := n0_; have BK379 := n1_; have GW379 := n2_; have GE379 := n3_; clear n0_ n1_ n2_ n3_; clear hb hbox hg; have hcz22_0 : w21.cell? ⟨gb379, 0, none⟩ = some (.int .i64 a0_0) := (Zaa BK379.out 0).trans rfl; have hcz22_1 : w21.cell? ⟨gb379, 1, none⟩ = some (.int .i64 a0_1) := (Zaa BK379.out 1).trans rfl; have hcz22_2 : w21.cell? ⟨gb379, 2, none⟩ = some (.int .i64 a0_2) := (Zaa BK379.out 2).trans rfl; have hcz22_3 : w21.cell? ⟨gb379, 3, none⟩ = some (.int .i64 a0_3) := (Zaa BK379.out 3).trans rfl; have hfz22_0 := Zad BK379.out 0; have hfz22_1 := Zad BK379.out 1; have hfz22_2 := Zad BK379.out 2; have hfz22_3 := Zad BK379.out 3))
  go_ret
  exact ⟨by first | rfl | (simp [Zal, Zak] <;> rfl) | (simp [*, Zal, Zak] <;> rfl), by repeat (first | (with_reducible first | exact HB.out | apply Zab | apply Zac | apply Zaf | refine Zaj ?_ GE379.out) | exact HB.out)⟩
def ZaC.l0 : Nat → List (S86) → List (S86) → Int → Option (Bool)
 | 0, _, _, _ => none
 | k + 1, x0, x1, x5 => if x5 < (x0.length : Int) then (if 0 ≤ x5 then (if x5 < (x1.length : Int) then (if ((!(((rd_T86 x0 x5).f0.f0) == ((rd_T86 x1 x5).f0.f0)) || (!(((rd_T86 x0 x5).f0.f1) == ((rd_T86 x1 x5).f0.f1)))) || ((!(((rd_T86 x0 x5).f1.f0) == ((rd_T86 x1 x5).f1.f0)) || (!(((rd_T86 x0 x5).f1.f1) == ((rd_T86 x1 x5).f1.f1)))))) = true then (some false) else (ZaC.l0 k x0 x1 (wrap64 (x5 + 1)))) else (none)) else (none)) else (some true)
def ZaC.f (k : Nat) (l0 : List (S86)) (l1 : List (S86)) : Option (Bool) := if (l0.length : Int) = (l1.length : Int) then (ZaC.l0 k l0 l1 0) else (some false)
set_option maxHeartbeats 8000000 in
set_option maxRecDepth 100000 in
theorem ZaC.calls (k : Nat) (A0 : Option Addr) (c0 : Nat) (l0 : List (S86)) (A1 : Option Addr) (c1 : Nat) (l1 : List (S86)) (r : Bool) (w : World) (hr0 : Kd.C k86 w A0 l0.length l0) (hc0 : l0.length ≤ c0) (hr1 : Kd.C k86 w A1 l1.length l1) (hc1 : l1.length ≤ c1) (h : ZaC.f k l0 l1 = some r) :
  Calls Tryz.prog 18 #[.slice A0 l0.length c0, .slice A1 l1.length c1] w fun e w' => e = .returned (.bool r) ∧ Drawn0 w w' := by
 have hu86 := Tryz.underlying86
 have HR0 := Aside0.mk hr0
 have HC0 := Aside0.mk hc0
 clear hr0 hc0
 have HR1 := Aside0.mk hr1
 have HC1 := Aside0.mk hc1
 clear hr1 hc1
 have H : (if (l0.length : Int) = (l1.length : Int) then (ZaC.l0 k l0 l1 0) else (some false)) = some r := h
 clear h
 by_cases c3 : (l0.length : Int) = (l1.length : Int)
 ·rw [if_pos c3] at H
  have c3b0 : ((l0.length : Int) == (l1.length : Int)) = true := beq_iff_eq.mpr c3
  have c3b1 : ((l0.length : Int) != (l1.length : Int)) = false := bne_eq_false_iff_eq.mpr c3
  have c3b2 : (l0.length == l1.length) = true := by first | simpa using c3 | (simp at c3 ⊢; omega)
  clear c3
  have H' := Aside0.mk H
  clear H
  go_enter Tryz.func18, Tryz.ntmps18
  go_wp2
  repeat (go_quiet (fail); try go_wp2)
  go_loopg [5] k (fun kq v5 w' => ∃ (x5_1 : Int), v5 = .int .i64 x5_1 ∧ Aside0 (ZaC.l0 kq l0 l1 x5_1 = some r) ∧ Aside0 (kq ≤ k) ∧ Drawn0 w w')
  case atStart => exact ⟨(0), (by first | rfl | (simp; done) | (simp [*]; done)), H', ⟨Nat.le_refl _⟩, by repeat (first | exact Drawn0.refl _ | apply Drawn0.step)⟩
  case round =>
   clear H'
   try clear c1
   try clear p2
   try clear c3
   try clear c3b0
   try clear c3b1
   try clear c3b2
   obtain ⟨x5_1, rfl, HA, HK1, ⟨m1, rfl⟩⟩ := hrel
   cases gk with
   | zero => exact absurd HA.out (by simp [ZaC.l0])
   | succ k1 =>
    have H := HA.out
    clear HA
    simp only [ZaC.l0] at H
    by_cases c4 : x5_1 < (l0.length : Int)
    ·rw [if_pos c4] at H
     have c4b0 : decide (x5_1 < (l0.length : Int)) = true := decide_eq_true c4
     clear c4
     by_cases c5 : 0 ≤ x5_1
     ·rw [if_pos c5] at H
      have c5b0 : decide (0 ≤ x5_1) = true := decide_eq_true c5
      clear c5
      by_cases c6 : x5_1 < (l1.length : Int)
      ·rw [if_pos c6] at H
       have c6b0 : decide (x5_1 < (l1.length : Int)) = true := decide_eq_true c6
       clear c6
       by_cases c7 : ((!(((rd_T86 l0 x5_1).f0.f0) == ((rd_T86 l1 x5_1).f0.f0)) || (!(((rd_T86 l0 x5_1).f0.f1) == ((rd_T86 l1 x5_1).f0.f1)))) || ((!(((rd_T86 l0 x5_1).f1.f0) == ((rd_T86 l1 x5_1).f1.f0)) || (!(((rd_T86 l0 x5_1).f1.f1) == ((rd_T86 l1 x5_1).f1.f1)))))) = true
       ·rw [if_pos c7] at H
        have c7b0 : ((!(((rd_T86 l0 x5_1).f0.f0) == ((rd_T86 l1 x5_1).f0.f0)) || (!(((rd_T86 l0 x5_1).f0.f1) == ((rd_T86 l1 x5_1).f0.f1)))) || ((!(((rd_T86 l0 x5_1).f1.f0) == ((rd_T86 l1 x5_1).f1.f0)) || (!(((rd_T86 l0 x5_1).f1.f1) == ((rd_T86 l1 x5_1).f1.f1)))))) = true := c7
        clear c7
        obtain rfl := Option.some.inj H
        have p394 : 0 ≤ (x5_1 : Int) := of_decide_eq_true (by first | (with_reducible assumption) | assumption)
        have q394 : x5_1 < (l0.length : Int) := of_decide_eq_true (by first | (with_reducible assumption) | assumption)
        obtain ⟨ad394, e394, hx394_0, hx394_1, hx394_2, hx394_3⟩ := at_T86 HR0.out x5_1 p394 q394
        cases e394
        replace p394 := eq_true p394
        replace q394 := eq_true q394
        have p395 : 0 ≤ (x5_1 : Int) := of_decide_eq_true (by first | (with_reducible assumption) | assumption)
        have q395 : x5_1 < (l1.length : Int) := of_decide_eq_true (by first | (with_reducible assumption) | assumption)
        obtain ⟨ad395, e395, hx395_0, hx395_1, hx395_2, hx395_3⟩ := at_T86 HR1.out x5_1 p395 q395
        cases e395
        replace p395 := eq_true p395
        replace q395 := eq_true q395
        go_wp2
        repeat (go_quiet (fail); try go_wp2)
        go_ret
        exact ⟨by first | rfl | (simp; done) | (simp [*]; done), by repeat (first | exact Drawn0.refl _ | apply Drawn0.step)⟩
       ·rw [if_neg c7] at H
        have c7b0 : ((!(((rd_T86 l0 x5_1).f0.f0) == ((rd_T86 l1 x5_1).f0.f0)) || (!(((rd_T86 l0 x5_1).f0.f1) == ((rd_T86 l1 x5_1).f0.f1)))) || ((!(((rd_T86 l0 x5_1).f1.f0) == ((rd_T86 l1 x5_1).f1.f0)) || (!(((rd_T86 l0 x5_1).f1.f1) == ((rd_T86 l1 x5_1).f1.f1)))))) = false := by simpa using c7
        clear c7
        have H' := Aside0.mk H
        clear H
        have p394 : 0 ≤ (x5_1 : Int) := of_decide_eq_true (by first | (with_reducible assumption) | assumption)
        have q394 : x5_1 < (l0.length : Int) := of_decide_eq_true (by first | (with_reducible assumption) | assumption)
        obtain ⟨ad394, e394, hx394_0, hx394_1, hx394_2, hx394_3⟩ := at_T86 HR0.out x5_1 p394 q394
        cases e394
        replace p394 := eq_true p394
        replace q394 := eq_true q394
        have p395 : 0 ≤ (x5_1 : Int) := of_decide_eq_true (by first | (with_reducible assumption) | assumption)
        have q395 : x5_1 < (l1.length : Int) := of_decide_eq_true (by first | (with_reducible assumption) | assumption)
        obtain ⟨ad395, e395, hx395_0, hx395_1, hx395_2, hx395_3⟩ := at_T86 HR1.out x5_1 p395 q395
        cases e395
        replace p395 := eq_true p395
        replace q395 := eq_true q395
        go_wp2
        repeat (go_quiet (fail); try go_wp2)
        go_roundg k1
        case measure => have := HK1.out; omega
        case rel => exact ⟨(wrap64 (x5_1 + 1)), (by first | rfl | (simp; done) | (simp [*]; done)), H', ⟨by have := HK1.out; omega⟩, by repeat (first | exact Drawn0.refl _ | apply Drawn0.step)⟩
      ·rw [if_neg c6] at H
       exact absurd H (by simp)
     ·rw [if_neg c5] at H
      exact absurd H (by simp)
    ·rw [if_neg c4] at H
     have c4b0 : decide (x5_1 < (l0.length : Int)) = false := decide_eq_false c4
     clear c4
     obtain rfl := Option.some.inj H
     go_wp2
     repeat (go_quiet (fail); try go_wp2)
     go_ret
     exact ⟨by first | rfl | (simp; done) | (simp [*]; done), by repeat (first | exact Drawn0.refl _ | apply Drawn0.step)⟩
 ·rw [if_neg c3] at H
  have c3b0 : ((l0.length : Int) == (l1.length : Int)) = false := beq_eq_false_iff_ne.mpr c3
  have c3b1 : ((l0.length : Int) != (l1.length : Int)) = true := bne_iff_ne.mpr c3
  have c3b2 : (l0.length == l1.length) = false := by first | simpa using c3 | (simp at c3 ⊢; omega)
  obtain rfl := Option.some.inj H
  go_enter Tryz.func18, Tryz.ntmps18
  go_wp2
  repeat (go_quiet (fail); try go_wp2)
  go_ret
  exact ⟨by first | rfl | (simp; done) | (simp [*]; done), by repeat (first | exact Drawn0.refl _ | apply Drawn0.step)⟩
end Go.Proofs.YtpfnaknmalojkaaGreat.PTopRows
namespace Go.Proofs.YtpfnaknmalojkaaGreat.PTopRows
open Go.RowKit Go.Maps Go.Sort Go.Proofs.YtpfnaknmalojkaaGreatW.PrintWords Go.Proofs.YtpfnaknmalojkaaGreatW.PrintLast Go.Proofs.YtpfnaknmalojkaaGreatW.PrintMore
set_option linter.unusedVariables false
set_option linter.unusedSimpArgs false
theorem c_none {α : Type} {k : Kd α} {w : World} {l : List α} (h : Kd.C k w none l.length l) : l = [] := by
 cases l with
 | nil => rfl
 | cons x l =>
  obtain ⟨_, _, h3⟩ := h
  have := h3 (by simp)
  simp at this
theorem r_new0 {α : Type} (k : Kd α) (e : Nat) (w : World) : k.R e (w.alloc (.cells #[] e)) w.heap.size (fun _ => True) (.slice (some ⟨w.heap.size, 0, none⟩) 0 0) [] :=
 ⟨fun _ _ => trivial, [], ⟨by simp, .inr ⟨w.heap.size, 0, #[], rfl, Nat.le_refl _, Zas w _, Nat.le_refl _, by unfold maxLen; omega, by simp, by simp⟩⟩, Reps.none _ _⟩
theorem ZbD {α : Type} {k : Kd α} {w : World} {A : Option Addr} {n : Nat} {l : List α} (h : Kd.C k w A n l) (o : Obj) : ReadsRow (k.K w) k.sz (w.alloc o) A n l := ReadsRow.imp_ h (Zab (Below.refl _ _) o) (fun _ _ hp => hp)
theorem k70_KM {w W : World} {base : Nat} {ok : Nat → Prop} (x : S70) (cs : List Value) (h : k70.K w x cs) : k70.M W base ok x cs := by
 rw [Zck h]; exact Zc9 _ _ _ x
theorem Zcj {l : List S70} {k : Nat} (h : k < l.length) : rd_T70 l (k : Int) = l[k] := by
 unfold rd_T70
 rw [List.getD_eq_getElem?_getD, Int.toNat_natCast, List.getElem?_eq_getElem h]
 rfl
theorem cells70 {w : World} {A : Option Addr} {l : List S70} (h : Kd.C k70 w A l.length l) (k : Nat) (hk : k < l.length) : ∃ ad, A = some ad ∧ w.cell? (ad.add (k * 2)) = some (.int .i64 l[k].f0) ∧ w.cell? ⟨(ad.add (k * 2)).block, (ad.add (k * 2)).off + 1, none⟩ = some (.int .i64 l[k].f1) := by
 obtain ⟨ad, e, h0, h1⟩ := at_T70 h (k : Int) (by omega) (by omega)
 rw [Zcj hk, Int.toNat_natCast] at h0 h1
 exact ⟨ad, e, h0, h1⟩
set_option maxRecDepth 100000 in
theorem clone70_calls (A : Option Addr) (c : Nat) (l : List S70) (w : World) (hr : Kd.C k70 w A l.length l) (hl : l.length ≤ 1000000) :
  Calls Tryz.prog 175 #[.slice A l.length c] w fun e w' => ∃ v, e = .returned v ∧ k70.R 70 w' w.heap.size (fun _ => True) v l ∧ Below w.heap.size w w' := by
 have hu := Tryz.underlying38
 have hu2 := Tryz.underlying70
 have hq := fun (w : World) (a : Option Addr) (n c n' c' : Nat) => Lib.run_eql_slice_nil (P := Tryz.prog) w _ _ a n c n' c' Tryz.underlying38
 have HR := Aside0.mk hr
 clear hr
 cases A with
 | none =>
  have h0 := c_none HR.out
  subst h0
  go_enter Tryz.func175, Tryz.ntmps175
  go_wp2
  go_ret
  exact ⟨_, rfl, Kd.R_nil _ _ _ _ _, Below.refl _ _⟩
 | some ad =>
  go_enter Tryz.func175, Tryz.ntmps175
  go_wp2_with ((with_reducible refine Zbx (b := .append) (xs := #[.tmp 5, .tmp 6]) rfl ?_); at_builtin; refine Kd.R_append_rows k70 (Rr := k70.K w) (w0 := w) w.heap.size rfl (.tmp 5) (.tmp 6) 38 70 (.agg #[.int .i64 0, .int .i64 0]) 16 rfl Tryz.underlying38 info70 rfl (by decide) (by decide) (.slice (some ⟨w.heap.size, 0, none⟩) 0 0) [] l (some ad) l.length c (fun _ => True) (fun _ => False) rfl rfl (r_new0 k70 70 w) (ZbD HR.out _) (fun x cs h => k70_KM x cs h) (fun _ h => h.elim) (fun _ _ => trivial) (Zab (Below.refl _ _) _) (by simp) ?aL ?_; (case aL => (simp; omega)); intro v4 w4 ho hb hg hat)
  go_ret
  exact ⟨_, rfl, ho, hb⟩
def idx70 (p : S70 → Bool) (l : List S70) : Int := match l.findIdx? p with
 | some i => (i : Int)
 | none => -1
set_option maxRecDepth 100000 in
set_option maxHeartbeats 1000000 in
theorem index70_calls (g : Nat) (lb : Array Value) (p : S70 → Bool) (A : Option Addr) (c : Nat) (l : List S70) (w : World) (hr : Kd.C k70 w A l.length l)
  (eg : ∀ args w, (callFunc g args).run Tryz.prog w = .ok (.enter g args) w)
  (hp : ∀ W x, x ∈ l → Below w.heap.size w W → Calls Tryz.prog g (#[.agg #[.int .i64 x.f0, .int .i64 x.f1]] ++ lb) W fun e w' => e = .returned (.bool (p x)) ∧ Below W.heap.size W w') :
  Calls Tryz.prog 113 #[.slice A l.length c, .func (.func g) #[] lb] w fun e w' => e = .returned (.int .i64 (idx70 p l)) ∧ Below w.heap.size w w' := by
 have HR := Aside0.mk hr
 clear hr
 have HP := Aside0.mk hp
 clear hp
 go_enter Tryz.func113, Tryz.ntmps113
 go_wp2
 go_loopw [5, 8] (fun v5 v8 wr => ∃ k : Nat, k ≤ l.length ∧ v8 = .int .i64 k ∧ Aside0 (Below w.heap.size w wr) ∧ Aside0 (∀ j (h : j < l.length), j < k → p l[j] = false)) (fun _ v8 _ => l.length - (intOf v8).toNat)
 case atStart => exact ⟨0, Nat.zero_le _, rfl, ⟨Below.refl _ w⟩, ⟨fun j _ hj => absurd hj (Nat.not_lt_zero _)⟩⟩
 case round =>
  as_aux_lemma =>
   obtain ⟨k, hk, rfl, HB, HF⟩ := hrel
   have hmx : l.length ≤ 9223372036854775807 := HR.out.2.1
   by_cases hlt : k < l.length
   ·obtain ⟨ad, rfl, h0, h1⟩ := cells70 (Kd.C_below HR.out HB.out) k hlt
    have hcall := HP.out wr l[k] (List.getElem_mem _) HB.out
    have hk1 : k + 1 ≤ l.length := hlt
    generalize hx : l[k] = x at h0 h1 hcall
    have HX := Aside0.mk hx
    clear hx
    obtain ⟨x0, x1⟩ := x
    simp only at h0 h1 hcall
    cases hq : p ⟨x0, x1⟩ with
    | true =>
     as_aux_lemma =>
      rw [hq] at hcall
      go_wp2_with (go_at_fn g; refine hcall.mono ?_; rintro e w' ⟨rfl, hb⟩)
      go_ret
      refine ⟨?_, Zae HB.out hb⟩
      have : idx70 p l = k := by
       have : l.findIdx? p = some k := by
        rw [List.findIdx?_eq_some_iff_getElem]
        exact ⟨hlt, by rw [HX.out, hq], fun j hj => by rw [HF.out j (by omega) hj]; simp⟩
       unfold idx70
       rw [this]
      rw [this]
      rfl
    | false =>
     as_aux_lemma =>
      rw [hq] at hcall
      go_wp2_with (go_at_fn g; refine hcall.mono ?_; rintro e w' ⟨rfl, hb⟩)
      refine ⟨⟨k + 1, by omega, by go_num, ⟨Zae HB.out hb⟩, ⟨fun j h hj => ?_⟩⟩, by simp [intOf]; omega⟩
      by_cases e : j = k
      ·subst e
       rw [HX.out, hq]
      ·exact HF.out j h (by omega)
   ·have : k = l.length := by omega
    subst this
    go_wp2
    go_ret
    refine ⟨?_, HB.out⟩
    have : idx70 p l = -1 := by
     have : l.findIdx? p = none := by
      rw [List.findIdx?_eq_none_iff]
      intro x hx
      obtain ⟨j, hj, rfl⟩ := List.getElem_of_mem hx
      exact HF.out j hj hj
     unfold idx70
     rw [this]
    rw [this]
    rfl
theorem idx70_nonneg (p : S70 → Bool) (l : List S70) : decide (0 ≤ idx70 p l) = l.any p := by
 unfold idx70
 cases h : l.findIdx? p with
 | none =>
  have h2 := List.findIdx?_eq_none_iff.1 h
  have : l.any p = false := by
   rw [List.any_eq_false]
   intro x hx
   rw [h2 x hx]
   simp
  rw [this]
  rfl
 | some i =>
  obtain ⟨hi, hp, _⟩ := List.findIdx?_eq_some_iff_getElem.1 h
  have : l.any p = true := List.any_eq_true.2 ⟨_, List.getElem_mem hi, hp⟩
  rw [this]
  simp
theorem Zbr (g : Nat) (lb : Array Value) (p : S70 → Bool) (A : Option Addr) (c : Nat) (l : List S70) (w : World) (hr : Kd.C k70 w A l.length l)
  (eg : ∀ args w, (callFunc g args).run Tryz.prog w = .ok (.enter g args) w)
  (hp : ∀ W x, x ∈ l → Below w.heap.size w W → Calls Tryz.prog g (#[.agg #[.int .i64 x.f0, .int .i64 x.f1]] ++ lb) W fun e w' => e = .returned (.bool (p x)) ∧ Below W.heap.size W w') :
  Calls Tryz.prog 68 #[.slice A l.length c, .func (.func g) #[] lb] w fun e w' => e = .returned (.bool (l.any p)) ∧ Below w.heap.size w w' := by
 have H := index70_calls g lb p A c l w hr eg hp
 have hn := idx70_nonneg p l
 clear hr hp eg
 generalize idx70 p l = q at H hn
 rw [← hn]
 clear hn
 go_enter Tryz.func68, Tryz.ntmps68
 go_wp2_with (go_at_call 113; refine H.mono ?_; rintro e w' ⟨rfl, hb⟩)
 go_ret
 exact ⟨rfl, hb⟩
theorem k86_KM {w W : World} {base : Nat} {ok : Nat → Prop} (x : S86) (cs : List Value) (h : k86.K w x cs) : k86.M W base ok x cs := by
 rw [ZcL h]; exact Zc8 _ _ _ x
set_option maxRecDepth 100000 in
theorem clone86_calls (A : Option Addr) (c : Nat) (l : List S86) (w : World) (hr : Kd.C k86 w A l.length l) (hl : l.length ≤ 1000000) :
  Calls Tryz.prog 56 #[.slice A l.length c] w fun e w' => ∃ v, e = .returned v ∧ k86.R 86 w' w.heap.size (fun _ => True) v l ∧ Below w.heap.size w w' := by
 have hu := Tryz.underlying31
 have hu2 := Tryz.underlying86
 have hq := fun (w : World) (a : Option Addr) (n c n' c' : Nat) => Lib.run_eql_slice_nil (P := Tryz.prog) w _ _ a n c n' c' Tryz.underlying31
 have HR := Aside0.mk hr
 clear hr
 cases A with
 | none =>
  have h0 := c_none HR.out
  subst h0
  go_enter Tryz.func56, Tryz.ntmps56
  go_wp2
  go_ret
  exact ⟨_, rfl, Kd.R_nil _ _ _ _ _, Below.refl _ _⟩
 | some ad =>
  go_enter Tryz.func56, Tryz.ntmps56
  go_wp2_with ((with_reducible refine Zbx (b := .append) (xs := #[.tmp 5, .tmp 6]) rfl ?_); at_builtin; refine Kd.R_append_rows k86 (Rr := k86.K w) (w0 := w) w.heap.size rfl (.tmp 5) (.tmp 6) 31 86 (.agg #[.int .i64 0, .int .i64 0, .int .i64 0, .int .i64 0]) 32 rfl Tryz.underlying31 info86 rfl (by decide) (by decide) (.slice (some ⟨w.heap.size, 0, none⟩) 0 0) [] l (some ad) l.length c (fun _ => True) (fun _ => False) rfl rfl (r_new0 k86 86 w) (ZbD HR.out _) (fun x cs h => k86_KM x cs h) (fun _ h => h.elim) (fun _ _ => trivial) (Zab (Below.refl _ _) _) (by simp) ?aL ?_; (case aL => (simp; omega)); intro v4 w4 ho hb hg hat)
  go_ret
  exact ⟨_, rfl, ho, hb⟩
def idx86 (p : S86 → Bool) (l : List S86) : Int := match l.findIdx? p with
 | some i => (i : Int)
 | none => -1
set_option maxRecDepth 100000 in
set_option maxHeartbeats 1000000 in
theorem index86_calls (g : Nat) (lb : Array Value) (p : S86 → Bool) (A : Option Addr) (c : Nat) (l : List S86) (w : World) (hr : Kd.C k86 w A l.length l)
  (eg : ∀ args w, (callFunc g args).run Tryz.prog w = .ok (.enter g args) w)
  (hp : ∀ W x, x ∈ l → Below w.heap.size w W → Calls Tryz.prog g (#[.agg #[.int .i64 x.f0.f0, .int .i64 x.f0.f1, .int .i64 x.f1.f0, .int .i64 x.f1.f1]] ++ lb) W fun e w' => e = .returned (.bool (p x)) ∧ Below W.heap.size W w') :
  Calls Tryz.prog 116 #[.slice A l.length c, .func (.func g) #[] lb] w fun e w' => e = .returned (.int .i64 (idx86 p l)) ∧ Below w.heap.size w w' := by
 have HR := Aside0.mk hr
 clear hr
 have HP := Aside0.mk hp
 clear hp
 go_enter Tryz.func116, Tryz.ntmps116
 go_wp2
 go_loopw [5, 8] (fun v5 v8 wr => ∃ k : Nat, k ≤ l.length ∧ v8 = .int .i64 k ∧ Aside0 (Below w.heap.size w wr) ∧ Aside0 (∀ j (h : j < l.length), j < k → p l[j] = false)) (fun _ v8 _ => l.length - (intOf v8).toNat)
 case atStart => exact ⟨0, Nat.zero_le _, rfl, ⟨Below.refl _ w⟩, ⟨fun j _ hj => absurd hj (Nat.not_lt_zero _)⟩⟩
 case round =>
  as_aux_lemma =>
   obtain ⟨k, hk, rfl, HB, HF⟩ := hrel
   have hmx : l.length ≤ 9223372036854775807 := HR.out.2.1
   by_cases hlt : k < l.length
   ·obtain ⟨ad, rfl, h0, h1, h2, h3⟩ := ZaF (Kd.C_below HR.out HB.out) k hlt
    have hcall := HP.out wr l[k] (List.getElem_mem _) HB.out
    have hk1 : k + 1 ≤ l.length := hlt
    generalize hx : l[k] = x at h0 h1 h2 h3 hcall
    have HX := Aside0.mk hx
    clear hx
    obtain ⟨⟨x0, x1⟩, ⟨x2, x3⟩⟩ := x
    simp only at h0 h1 h2 h3 hcall
    cases hq : p ⟨⟨x0, x1⟩, ⟨x2, x3⟩⟩ with
    | true =>
     as_aux_lemma =>
      rw [hq] at hcall
      go_wp2_with (go_at_fn g; refine hcall.mono ?_; rintro e w' ⟨rfl, hb⟩)
      go_ret
      refine ⟨?_, Zae HB.out hb⟩
      have : idx86 p l = k := by
       have : l.findIdx? p = some k := by
        rw [List.findIdx?_eq_some_iff_getElem]
        exact ⟨hlt, by rw [HX.out, hq], fun j hj => by rw [HF.out j (by omega) hj]; simp⟩
       unfold idx86
       rw [this]
      rw [this]
      rfl
    | false =>
     as_aux_lemma =>
      rw [hq] at hcall
      go_wp2_with (go_at_fn g; refine hcall.mono ?_; rintro e w' ⟨rfl, hb⟩)
      refine ⟨⟨k + 1, by omega, by go_num, ⟨Zae HB.out hb⟩, ⟨fun j h hj => ?_⟩⟩, by simp [intOf]; omega⟩
      by_cases e : j = k
      ·subst e
       rw [HX.out, hq]
      ·exact HF.out j h (by omega)
   ·have : k = l.length := by omega
    subst this
    go_wp2
    go_ret
    refine ⟨?_, HB.out⟩
    have : idx86 p l = -1 := by
     have : l.findIdx? p = none := by
      rw [List.findIdx?_eq_none_iff]
      intro x hx
      obtain ⟨j, hj, rfl⟩ := List.getElem_of_mem hx
      exact HF.out j hj hj
     unfold idx86
     rw [this]
    rw [this]
    rfl
theorem idx86_nonneg (p : S86 → Bool) (l : List S86) : decide (0 ≤ idx86 p l) = l.any p := by
 unfold idx86
 cases h : l.findIdx? p with
 | none =>
  have h2 := List.findIdx?_eq_none_iff.1 h
  have : l.any p = false := by
   rw [List.any_eq_false]
   intro x hx
   rw [h2 x hx]
   simp
  rw [this]
  rfl
 | some i =>
  obtain ⟨hi, hp, _⟩ := List.findIdx?_eq_some_iff_getElem.1 h
  have : l.any p = true := List.any_eq_true.2 ⟨_, List.getElem_mem hi, hp⟩
  rw [this]
  simp
theorem Zca (g : Nat) (lb : Array Value) (p : S86 → Bool) (A : Option Addr) (c : Nat) (l : List S86) (w : World) (hr : Kd.C k86 w A l.length l)
  (eg : ∀ args w, (callFunc g args).run Tryz.prog w = .ok (.enter g args) w)
  (hp : ∀ W x, x ∈ l → Below w.heap.size w W → Calls Tryz.prog g (#[.agg #[.int .i64 x.f0.f0, .int .i64 x.f0.f1, .int .i64 x.f1.f0, .int .i64 x.f1.f1]] ++ lb) W fun e w' => e = .returned (.bool (p x)) ∧ Below W.heap.size W w') :
  Calls Tryz.prog 72 #[.slice A l.length c, .func (.func g) #[] lb] w fun e w' => e = .returned (.bool (l.any p)) ∧ Below w.heap.size w w' := by
 have H := index86_calls g lb p A c l w hr eg hp
 have hn := idx86_nonneg p l
 clear hr hp eg
 generalize idx86 p l = q at H hn
 rw [← hn]
 clear hn
 go_enter Tryz.func72, Tryz.ntmps72
 go_wp2_with (go_at_call 116; refine H.mono ?_; rintro e w' ⟨rfl, hb⟩)
 go_ret
 exact ⟨rfl, hb⟩
theorem info92 : (Tryz.prog.info? 92).map (fun i => (i.zero, i.size, i.bytes)) = some (some (.agg #[.int .i64 0, .int .i64 0, .int .i64 0, .int .i64 0]), 4, 32) := by kernel_rfl
theorem rd92_get {l : List S92} {k : Nat} (h : k < l.length) : rd_T92 l (k : Int) = l[k] := by
 unfold rd_T92
 rw [List.getD_eq_getElem?_getD, Int.toNat_natCast, List.getElem?_eq_getElem h]
 rfl
theorem cells92 {w : World} {A : Option Addr} {l : List S92} (h : Kd.C k92 w A l.length l) (k : Nat) (hk : k < l.length) : ∃ ad, A = some ad ∧ w.cell? (ad.add (k * 4)) = some (.int .i64 l[k].f0.f0) ∧ w.cell? ⟨(ad.add (k * 4)).block, (ad.add (k * 4)).off + 1, none⟩ = some (.int .i64 l[k].f0.f1) ∧ w.cell? ⟨(ad.add (k * 4)).block, (ad.add (k * 4)).off + 2, none⟩ = some (.int .i64 l[k].f1.f0) ∧ w.cell? ⟨(ad.add (k * 4)).block, (ad.add (k * 4)).off + 3, none⟩ = some (.int .i64 l[k].f1.f1) := by
 obtain ⟨ad, e, h0, h1, h2, h3⟩ := at_T92 h (k : Int) (by omega) (by omega)
 rw [rd92_get hk, Int.toNat_natCast] at h0 h1 h2 h3
 exact ⟨ad, e, h0, h1, h2, h3⟩
def idx92 (p : S92 → Bool) (l : List S92) : Int := match l.findIdx? p with
 | some i => (i : Int)
 | none => -1
set_option maxRecDepth 100000 in
set_option maxHeartbeats 1000000 in
theorem index92_calls (g : Nat) (lb : Array Value) (p : S92 → Bool) (A : Option Addr) (c : Nat) (l : List S92) (w : World) (hr : Kd.C k92 w A l.length l)
  (eg : ∀ args w, (callFunc g args).run Tryz.prog w = .ok (.enter g args) w)
  (hp : ∀ W x, x ∈ l → Below w.heap.size w W → Calls Tryz.prog g (#[.agg #[.int .i64 x.f0.f0, .int .i64 x.f0.f1, .int .i64 x.f1.f0, .int .i64 x.f1.f1]] ++ lb) W fun e w' => e = .returned (.bool (p x)) ∧ Below W.heap.size W w') :
  Calls Tryz.prog 122 #[.slice A l.length c, .func (.func g) #[] lb] w fun e w' => e = .returned (.int .i64 (idx92 p l)) ∧ Below w.heap.size w w' := by
 have HR := Aside0.mk hr
 clear hr
 have HP := Aside0.mk hp
 clear hp
 go_enter Tryz.func122, Tryz.ntmps122
 go_wp2
 go_loopw [5, 8] (fun v5 v8 wr => ∃ k : Nat, k ≤ l.length ∧ v8 = .int .i64 k ∧ Aside0 (Below w.heap.size w wr) ∧ Aside0 (∀ j (h : j < l.length), j < k → p l[j] = false)) (fun _ v8 _ => l.length - (intOf v8).toNat)
 case atStart => exact ⟨0, Nat.zero_le _, rfl, ⟨Below.refl _ w⟩, ⟨fun j _ hj => absurd hj (Nat.not_lt_zero _)⟩⟩
 case round =>
  as_aux_lemma =>
   obtain ⟨k, hk, rfl, HB, HF⟩ := hrel
   have hmx : l.length ≤ 9223372036854775807 := HR.out.2.1
   by_cases hlt : k < l.length
   ·obtain ⟨ad, rfl, h0, h1, h2, h3⟩ := cells92 (Kd.C_below HR.out HB.out) k hlt
    have hcall := HP.out wr l[k] (List.getElem_mem _) HB.out
    have hk1 : k + 1 ≤ l.length := hlt
    generalize hx : l[k] = x at h0 h1 h2 h3 hcall
    have HX := Aside0.mk hx
    clear hx
    obtain ⟨⟨x0, x1⟩, ⟨x2, x3⟩⟩ := x
    simp only at h0 h1 h2 h3 hcall
    cases hq : p ⟨⟨x0, x1⟩, ⟨x2, x3⟩⟩ with
    | true =>
     as_aux_lemma =>
      rw [hq] at hcall
      go_wp2_with (go_at_fn g; refine hcall.mono ?_; rintro e w' ⟨rfl, hb⟩)
      go_ret
      refine ⟨?_, Zae HB.out hb⟩
      have : idx92 p l = k := by
       have : l.findIdx? p = some k := by
        rw [List.findIdx?_eq_some_iff_getElem]
        exact ⟨hlt, by rw [HX.out, hq], fun j hj => by rw [HF.out j (by omega) hj]; simp⟩
       unfold idx92
       rw [this]
      rw [this]
      rfl
    | false =>
     as_aux_lemma =>
      rw [hq] at hcall
      go_wp2_with (go_at_fn g; refine hcall.mono ?_; rintro e w' ⟨rfl, hb⟩)
      refine ⟨⟨k + 1, by omega, by go_num, ⟨Zae HB.out hb⟩, ⟨fun j h hj => ?_⟩⟩, by simp [intOf]; omega⟩
      by_cases e : j = k
      ·subst e
       rw [HX.out, hq]
      ·exact HF.out j h (by omega)
   ·have : k = l.length := by omega
    subst this
    go_wp2
    go_ret
    refine ⟨?_, HB.out⟩
    have : idx92 p l = -1 := by
     have : l.findIdx? p = none := by
      rw [List.findIdx?_eq_none_iff]
      intro x hx
      obtain ⟨j, hj, rfl⟩ := List.getElem_of_mem hx
      exact HF.out j hj hj
     unfold idx92
     rw [this]
    rw [this]
    rfl
theorem idx92_nonneg (p : S92 → Bool) (l : List S92) : decide (0 ≤ idx92 p l) = l.any p := by
 unfold idx92
 cases h : l.findIdx? p with
 | none =>
  have h2 := List.findIdx?_eq_none_iff.1 h
  have : l.any p = false := by
   rw [List.any_eq_false]
   intro x hx
   rw [h2 x hx]
   simp
  rw [this]
  rfl
 | some i =>
  obtain ⟨hi, hp, _⟩ := List.findIdx?_eq_some_iff_getElem.1 h
  have : l.any p = true := List.any_eq_true.2 ⟨_, List.getElem_mem hi, hp⟩
  rw [this]
  simp
theorem Zdx (g : Nat) (lb : Array Value) (p : S92 → Bool) (A : Option Addr) (c : Nat) (l : List S92) (w : World) (hr : Kd.C k92 w A l.length l)
  (eg : ∀ args w, (callFunc g args).run Tryz.prog w = .ok (.enter g args) w)
  (hp : ∀ W x, x ∈ l → Below w.heap.size w W → Calls Tryz.prog g (#[.agg #[.int .i64 x.f0.f0, .int .i64 x.f0.f1, .int .i64 x.f1.f0, .int .i64 x.f1.f1]] ++ lb) W fun e w' => e = .returned (.bool (p x)) ∧ Below W.heap.size W w') :
  Calls Tryz.prog 84 #[.slice A l.length c, .func (.func g) #[] lb] w fun e w' => e = .returned (.bool (l.any p)) ∧ Below w.heap.size w w' := by
 have H := index92_calls g lb p A c l w hr eg hp
 have hn := idx92_nonneg p l
 clear hr hp eg
 generalize idx92 p l = q at H hn
 rw [← hn]
 clear hn
 go_enter Tryz.func84, Tryz.ntmps84
 go_wp2_with (go_at_call 122; refine H.mono ?_; rintro e w' ⟨rfl, hb⟩)
 go_ret
 exact ⟨rfl, hb⟩
theorem k51_KM {w W : World} {base : Nat} {ok : Nat → Prop} (x : S51) (cs : List Value) (h : k51.K w x cs) : k51.M W base ok x cs := by
 rw [k51_open h]; exact k51_mkM _ _ _ x
set_option maxRecDepth 100000 in
theorem ZcU (A : Option Addr) (c : Nat) (l : List S51) (w : World) (hr : Kd.C k51 w A l.length l) (hl : l.length ≤ 1000000) :
  Calls Tryz.prog 38 #[.slice A l.length c] w fun e w' => ∃ v, e = .returned v ∧ k51.R 51 w' w.heap.size (fun _ => True) v l ∧ Below w.heap.size w w' := by
 have hu := Tryz.underlying32
 have hu2 := Tryz.underlying51
 have hq := fun (w : World) (a : Option Addr) (n c n' c' : Nat) => Lib.run_eql_slice_nil (P := Tryz.prog) w _ _ a n c n' c' Tryz.underlying32
 have HR := Aside0.mk hr
 clear hr
 cases A with
 | none =>
  have h0 := c_none HR.out
  subst h0
  go_enter Tryz.func38, Tryz.ntmps38
  go_wp2
  go_ret
  exact ⟨_, rfl, Kd.R_nil _ _ _ _ _, Below.refl _ _⟩
 | some ad =>
  go_enter Tryz.func38, Tryz.ntmps38
  go_wp2_with ((with_reducible refine Zbx (b := .append) (xs := #[.tmp 5, .tmp 6]) rfl ?_); at_builtin; refine Kd.R_append_rows k51 (Rr := k51.K w) (w0 := w) w.heap.size rfl (.tmp 5) (.tmp 6) 32 51 (rowV ⟨0, 0, 0⟩) 24 rfl Tryz.underlying32 info51 rfl (by decide) (by decide) (.slice (some ⟨w.heap.size, 0, none⟩) 0 0) [] l (some ad) l.length c (fun _ => True) (fun _ => False) rfl rfl (r_new0 k51 51 w) (ZbD HR.out _) (fun x cs h => k51_KM x cs h) (fun _ h => h.elim) (fun _ _ => trivial) (Zab (Below.refl _ _) _) (by simp) ?aL ?_; (case aL => (simp; omega)); intro v4 w4 ho hb hg hat)
  go_ret
  exact ⟨_, rfl, ho, hb⟩
theorem info54 : (Tryz.prog.info? 54).map (fun i => (i.zero, i.size, i.bytes)) = some (some (.agg #[.int .i64 0, .int .i64 0, .int .i64 0]), 3, 24) := by kernel_rfl
theorem k54_KM {w W : World} {base : Nat} {ok : Nat → Prop} (x : S54) (cs : List Value) (h : k54.K w x cs) : k54.M W base ok x cs := by
 rw [k54_open h]; exact k54_mkM _ _ _ x
theorem rd54_get {l : List S54} {k : Nat} (h : k < l.length) : rd_T54 l (k : Int) = l[k] := by
 unfold rd_T54
 rw [List.getD_eq_getElem?_getD, Int.toNat_natCast, List.getElem?_eq_getElem h]
 rfl
theorem cells54 {w : World} {A : Option Addr} {l : List S54} (h : Kd.C k54 w A l.length l) (k : Nat) (hk : k < l.length) : ∃ ad, A = some ad ∧ w.cell? (ad.add (k * 3)) = some (.int .i64 l[k].f0) ∧ w.cell? ⟨(ad.add (k * 3)).block, (ad.add (k * 3)).off + 1, none⟩ = some (.int .i64 l[k].f1) ∧ w.cell? ⟨(ad.add (k * 3)).block, (ad.add (k * 3)).off + 2, none⟩ = some (.int .i64 l[k].f2) := by
 obtain ⟨ad, e, h0, h1, h2⟩ := at_T54 h (k : Int) (by omega) (by omega)
 rw [rd54_get hk, Int.toNat_natCast] at h0 h1 h2
 exact ⟨ad, e, h0, h1, h2⟩
set_option maxRecDepth 100000 in
theorem clone54_calls (A : Option Addr) (c : Nat) (l : List S54) (w : World) (hr : Kd.C k54 w A l.length l) (hl : l.length ≤ 1000000) :
  Calls Tryz.prog 55 #[.slice A l.length c] w fun e w' => ∃ v, e = .returned v ∧ k54.R 54 w' w.heap.size (fun _ => True) v l ∧ Below w.heap.size w w' := by
 have hu := Tryz.underlying36
 have hu2 := Tryz.underlying54
 have hq := fun (w : World) (a : Option Addr) (n c n' c' : Nat) => Lib.run_eql_slice_nil (P := Tryz.prog) w _ _ a n c n' c' Tryz.underlying36
 have HR := Aside0.mk hr
 clear hr
 cases A with
 | none =>
  have h0 := c_none HR.out
  subst h0
  go_enter Tryz.func55, Tryz.ntmps55
  go_wp2
  go_ret
  exact ⟨_, rfl, Kd.R_nil _ _ _ _ _, Below.refl _ _⟩
 | some ad =>
  go_enter Tryz.func55, Tryz.ntmps55
  go_wp2_with ((with_reducible refine Zbx (b := .append) (xs := #[.tmp 5, .tmp 6]) rfl ?_); at_builtin; refine Kd.R_append_rows k54 (Rr := k54.K w) (w0 := w) w.heap.size rfl (.tmp 5) (.tmp 6) 36 54 (.agg #[.int .i64 0, .int .i64 0, .int .i64 0]) 24 rfl Tryz.underlying36 info54 rfl (by decide) (by decide) (.slice (some ⟨w.heap.size, 0, none⟩) 0 0) [] l (some ad) l.length c (fun _ => True) (fun _ => False) rfl rfl (r_new0 k54 54 w) (ZbD HR.out _) (fun x cs h => k54_KM x cs h) (fun _ h => h.elim) (fun _ _ => trivial) (Zab (Below.refl _ _) _) (by simp) ?aL ?_; (case aL => (simp; omega)); intro v4 w4 ho hb hg hat)
  go_ret
  exact ⟨_, rfl, ho, hb⟩
end Go.Proofs.YtpfnaknmalojkaaGreat.PTopRows
namespace Go.Proofs.YtpfnaknmalojkaaGreat.PTopRows
open Go.RowKit Go.Proofs.YtpfnaknmalojkaaGreatW.PrintWords Go.Proofs.YtpfnaknmalojkaaGreatW.PrintLast Go.Proofs.YtpfnaknmalojkaaGreatW.PrintMore
attribute [local go_sem] Za5 Za4 Zbp Zbo Za7 Za6 Zbl Zbk   -- for this text's walks alone
set_option linter.unusedVariables false
set_option linter.unusedSimpArgs false
def ZcR.f (a0 : Int) : Option (Int) := some (Go.bits .xor .u32 (a0 / 2) (Go.bits .and .u32 2197175160 ((-(Go.bits .and .u32 a0 1)) % 4294967296)))
set_option maxHeartbeats 8000000 in
set_option maxRecDepth 100000 in
theorem ZcR.calls (a0 : Int) (r : Int) (w : World) (h : ZcR.f a0 = some r) :
  Calls Tryz.prog 191 #[.int .u32 a0] w fun e w' => e = .returned (.int .u32 r) ∧ Drawn0 w w' := by
 have H : (some (Go.bits .xor .u32 (a0 / 2) (Go.bits .and .u32 2197175160 ((-(Go.bits .and .u32 a0 1)) % 4294967296)))) = some r := h
 clear h
 obtain rfl := Option.some.inj H
 go_enter Tryz.func191, Tryz.ntmps191
 go_wp2
 go_ret
 exact ⟨by first | rfl | (simp; done) | (simp [*]; done), by repeat (first | exact Drawn0.refl _ | apply Drawn0.step)⟩
end Go.Proofs.YtpfnaknmalojkaaGreat.PTopRows
namespace Go.Proofs.YtpfnaknmalojkaaGreat.PTopRows
open Go.RowKit Go.Maps Go.Sort Go.Proofs.YtpfnaknmalojkaaGreatW.PrintWords Go.Proofs.YtpfnaknmalojkaaGreatW.PrintLast Go.Proofs.YtpfnaknmalojkaaGreatW.PrintMore
set_option linter.unusedVariables false
set_option linter.unusedSimpArgs false
instance : Inhabited S70 := ⟨⟨0, 0⟩⟩
def endS (x : S70) : Int := x.f0 + x.f1
def MayS (x : S70) : Prop := 0 ≤ x.f0 ∧ 1 ≤ x.f1 ∧ x.f0 + x.f1 ≤ 65536
instance (x : S70) : Decidable (MayS x) := by unfold MayS; infer_instance
def Sep (l : List S70) : Prop := l.Pairwise (fun x y => endS x < y.f0)
theorem ZaN (x0 x1 : Int) (h : MayS ⟨x0, x1⟩) (w : World) : Calls Tryz.prog 24 #[.agg #[.int .i64 x0, .int .i64 x1]] w fun e w' => e = .returned (.int .i64 (x0 + x1)) ∧ Below w.heap.size w w' :=
 ZbV.calls _ _ _ w (by obtain ⟨h1, h2, h3⟩ := h; simp only at h1 h2 h3; unfold ZbV.f; rw [ZaH _ (by omega)])
theorem mayS_f (x : S70) : ZaZ.f x.f0 x.f1 = some (if MayS x then 0 else 1) := by
 unfold ZaZ.f
 by_cases hm : MayS x
 ·rw [if_pos hm]
  obtain ⟨h1, h2, h3⟩ := hm
  rw [if_neg (by omega), if_neg (by omega), if_neg (by omega), ZaH _ (by omega), if_neg (by omega)]
 ·rw [if_neg hm]
  by_cases h1 : x.f0 < 0
  ·rw [if_pos h1]
  ·rw [if_neg h1]
   by_cases h2 : x.f0 > 65536
   ·rw [if_pos h2]
   ·rw [if_neg h2]
    by_cases h3 : x.f1 < 1
    ·rw [if_pos h3]
    ·rw [if_neg h3, ZaH _ (by omega)]
     by_cases h4 : x.f1 > 65536 - x.f0
     ·rw [if_pos h4]
     ·exact absurd ⟨by omega, by omega, by omega⟩ hm
theorem ZbY (x0 x1 : Int) (w : World) : Calls Tryz.prog 70 #[.agg #[.int .i64 x0, .int .i64 x1]] w fun e w' => e = .returned (.int .i64 (if MayS ⟨x0, x1⟩ then 0 else 1)) ∧ Below w.heap.size w w' := ZaZ.calls _ _ _ w (mayS_f ⟨x0, x1⟩)
theorem wrong1_calls (x0 x1 : Int) (w : World) : Calls Tryz.prog 174 #[.agg #[.int .i64 x0, .int .i64 x1]] w fun e w' => e = .returned (.bool (!decide (MayS ⟨x0, x1⟩))) ∧ Below w.heap.size w w' := by
 have H := fun W => ZbY x0 x1 W
 have z0 := Zas w (.cells #[.int .i64 x0, .int .i64 x1] 70)
 by_cases hm : MayS ⟨x0, x1⟩
 ·rw [if_pos hm] at H
  rw [decide_eq_true hm]
  go_enter Tryz.func174, Tryz.ntmps174
  go_wp2_with (go_at_call 70; refine (H _).mono ?_; rintro e w' ⟨rfl, hb⟩)
  go_ret
  exact ⟨rfl, Zae (Zab (Below.refl _ _) _) hb⟩
 ·rw [if_neg hm] at H
  rw [decide_eq_false hm]
  go_enter Tryz.func174, Tryz.ntmps174
  go_wp2_with (go_at_call 70; refine (H _).mono ?_; rintro e w' ⟨rfl, hb⟩)
  go_ret
  exact ⟨rfl, Zae (Zab (Below.refl _ _) _) hb⟩
theorem wrong_calls (A : Option Addr) (c : Nat) (l : List S70) (w : World) (hr : Kd.C k70 w A l.length l) :
  Calls Tryz.prog 143 #[.slice A l.length c] w fun e w' => e = .returned (.bool (l.any fun x => !decide (MayS x))) ∧ Below w.heap.size w w' := by
 have H := Zbr 174 #[] (fun x => !decide (MayS x)) A c l w hr (enters_of Tryz.func174 (by kernel_rfl) rfl) (fun W x _ _ => wrong1_calls x.f0 x.f1 W)
 generalize (l.any fun x => !decide (MayS x)) = q at H ⊢
 clear hr
 go_enter Tryz.func143, Tryz.ntmps143
 go_wp2_with (go_at_call 68; refine H.mono ?_; rintro e w' ⟨rfl, hb⟩)
 go_ret
 exact ⟨rfl, hb⟩
def spanL (x : S70) : List Value := [.int .i64 x.f0, .int .i64 x.f1]
def cmpA (x y : S70) : Int := if x.f0 < y.f0 then -1 else if x.f0 > y.f0 then 1 else 0
theorem cmpA_f (x y : S70) : ZaQ.f x.f0 y.f0 = some (cmpA x y) := by
 unfold ZaQ.f ZaB.f cmpA
 by_cases h1 : x.f0 < y.f0
 ·simp [h1]
 ·by_cases h2 : x.f0 > y.f0
  ·simp [h1, h2]
  ·simp [h1, h2]
theorem ltA (x y : S70) : ltOf cmpA x y = decide (x.f0 < y.f0) := by
 unfold ltOf cmpA
 by_cases h1 : x.f0 < y.f0
 ·simp [h1]
 ·by_cases h2 : x.f0 > y.f0 <;> simp [h1, h2]
theorem swoA : SWO (ltOf cmpA) where
 irrefl x := by rw [ltA]; simp
 trans x y z h1 h2 := by rw [ltA] at *; simp at *; omega
 ntrans x y z h1 h2 := by rw [ltA] at *; simp at *; omega
theorem byAt_calls (x y : S70) (W : World) : Calls Tryz.prog 177 #[.agg #[.int .i64 x.f0, .int .i64 x.f1], .agg #[.int .i64 y.f0, .int .i64 y.f1]] W fun e w' => e = .returned (.int .i64 (cmpA x y)) ∧ GrowOf W w' := by
 have hcon := fun W => ZaQ.calls x.f0 y.f0 (cmpA x y) W (cmpA_f x y)
 generalize cmpA x y = r at hcon ⊢
 obtain ⟨x0, x1⟩ := x
 obtain ⟨y0, y1⟩ := y
 simp only at hcon ⊢
 have hu70 := Tryz.underlying70
 go_enter Tryz.func177, Tryz.ntmps177
 go_wp2_with (fail)
 refine (hcon _).mono ?_
 rintro e w' ⟨rfl, ⟨n, rfl⟩⟩
 go_wp2_with (fail)
 go_ret
 exact ⟨rfl, n, #[.cells #[.int .i64 x0, .int .i64 x1] 70, .cells #[.int .i64 y0, .int .i64 y1] 70], by rw [alloc_eq_grow, alloc_eq_grow, grow_grow]; rfl⟩
theorem spanL_one (x : S70) : ∀ v ∈ spanL x, v.oneCell' = true := by
 intro v hv
 simp [spanL] at hv
 rcases hv with rfl | rfl <;> rfl
theorem spanL_bang (x : S70) (c : Nat) (hc : c < 2) : (spanL x)[c]? = some (spanL x)[c]! := by
 match c, hc with
 | 0, _ => rfl
 | 1, _ => rfl
theorem bang70 (l : List S70) (i : Nat) (hi : i < l.length) : l.toArray[i]! = l[i] := by
 rw [getElem!_pos l.toArray i (by simpa using hi)]
 simp
theorem Za9 (g o i : Nat) : (⟨g, o, none⟩ : Addr).add i = ⟨g, o + i, none⟩ := by
 unfold Addr.add
 split
 ·rename_i e0
  simp [e0]
 ·rfl
theorem grown_sort (g o n k : Nat) (F : Array Value) (os : Array Obj) (w : World) (enc : S70 → List Value) (d' : Array S70) : w.grownBy (sortWorldK enc k w g o n d' os) (some g) := by
 unfold sortWorldK putRowK
 refine ⟨rfl, rfl, rfl, by simp [grow, Sort.ahead], fun k hk hne => ?_⟩
 have hkg : k ≠ g := fun e => hne (by rw [e])
 show ((putRow id (Sort.ahead w n) g o _).heap ++ os)[k]? = _
 rw [Array.getElem?_append_left (by simp; exact hk)]
 have : g ≠ k := fun e => hkg e.symm
 simp [putRow, mapBlock, Sort.ahead, Array.getElem?_modify, this]
theorem holds70 {w : World} {base : Nat} {ok : Nat → Prop} {g cap : Nat} {l : List S70} (h : k70.R 70 w base ok (.slice (some ⟨g, 0, none⟩) l.length cap) l) : HoldsK spanL 2 w g 0 l.toArray := by
 have hc := (Kd.R_reads' h).2.2
 obtain ⟨hok, inner, ho, hrep⟩ := h
 obtain ⟨cells, hg⟩ : ∃ cells, w.heap[g]? = some (.cells cells 70 (0, 0)) := by
  rcases ho.2 with ⟨h1, _⟩ | ⟨g', cap', cur, h1, hb, hg, _⟩
  ·cases h1
  ·injection h1 with h1
   injection h1 with h1
   injection h1 with h1
   subst h1
   exact ⟨_, hg⟩
 intro t ht
 rw [size_flatK] at ht
 have ht' : t < l.length * 2 := by simpa using ht
 have hi : t / 2 < l.length := by omega
 obtain ⟨ad, e, h0, h1⟩ := cells70 hc (t / 2) hi
 cases e
 rw [get_flatK _ _ _ _ (by simpa using ht), bang70 l _ hi]
 refine ⟨?_, Zad hg _⟩
 rw [Za9] at h0 h1
 simp only [Nat.zero_add] at h0 h1 ⊢
 rcases Nat.mod_two_eq_zero_or_one t with e | e
 ·have e2 : t = t / 2 * 2 := by omega
  rw [e]
  conv => lhs; rw [e2]
  exact h0
 ·have e2 : t = t / 2 * 2 + 1 := by omega
  rw [e]
  conv => lhs; rw [e2]
  exact h1
theorem reads70 {w : World} {g o : Nat} {l : List S70} (h : HoldsK spanL 2 w g o l.toArray) (hm : l.length ≤ 9223372036854775807) : Kd.C k70 w (some ⟨g, o, none⟩) l.length l := by
 refine ⟨rfl, hm, fun _ => ⟨_, rfl, fun j p hp => ⟨spanL p, rfl, k70_mk w p, fun i u hu => ?_⟩⟩⟩
 obtain ⟨hj, rfl⟩ := List.getElem?_eq_some_iff.1 hp
 have hi : i < 2 := by
  have := (List.getElem?_eq_some_iff.1 hu).1
  simpa [spanL] using this
 have h1 := (h.cell (i := j) (c := i) (by simpa using hj) hi).1
 rw [bang70 l j hj] at h1
 show w.cell? ((⟨g, o, none⟩ : Addr).add (j * 2 + i)) = some u
 rw [Za9, ← Nat.add_assoc]
 rw [spanL_bang _ _ hi] at hu
 rw [← Option.some.inj hu]
 exact h1
theorem sort70_eq : ∀ {l T : List S70}, l.Perm T → l.Pairwise (fun x y => ¬ y.f0 < x.f0) → T.Pairwise (fun x y => x.f0 < y.f0) → l = T
 | [], T, hp, _, _ => by rw [hp.nil_eq]
 | a :: l, [], hp, _, _ => absurd hp.eq_nil (by simp)
 | a :: l, b :: T, hp, h1, h2 => by
  obtain ⟨q1, q2⟩ := List.pairwise_cons.1 h1
  obtain ⟨r1, r2⟩ := List.pairwise_cons.1 h2
  have hab : a = b := by
   rcases List.mem_cons.1 (hp.subset (List.mem_cons_self (a := a) (l := l))) with e | e
   ·exact e
   ·rcases List.mem_cons.1 (hp.symm.subset (List.mem_cons_self (a := b) (l := T))) with e' | e'
    ·exact e'.symm
    ·have := r1 a e
     have := q1 b e'
     omega
  subst hab
  rw [sort70_eq (List.perm_cons a |>.1 hp) q2 r2]
set_option maxHeartbeats 1000000 in
theorem sort70_calls (g o cap : Nat) (l : List S70) (w : World) (hH : HoldsK spanL 2 w g o l.toArray) (hg : g < w.heap.size) (hl : l.length ≤ 1000000) (hs : l.Pairwise (fun x y => x.f0 < y.f0)) :
  Calls Tryz.prog 176 #[.slice (some ⟨g, o, none⟩) l.length cap, .func (.func 177) #[] #[]] w fun e w' => e = .returned (.tuple #[]) ∧ Kd.C k70 w' (some ⟨g, o, none⟩) l.length l ∧ w.grownBy w' (some g) := by
 have eg : ∀ args w, (callFunc 177 args).run Tryz.prog w = .ok (.enter 177 args) w := enters_of Tryz.func177 (by kernel_rfl) rfl
 have hcon := AnyQ.slices_SortFunc sortSpan 2 Tryz.isAgg70 Tryz.sizeOf70 spanL (fun _ => rfl) spanL_one cmpA swoA 177 #[] g o cap l.toArray w eg (fun _ _ _ _ x y => byAt_calls x y _) hH hg (by simp; omega)
 change Calls Tryz.prog 176 _ _ _ at hcon
 rw [List.size_toArray] at hcon
 refine hcon.mono fun e w' ⟨he, d', n, os, hp, hso, hw⟩ => ?_
 have hp0 := hp.1
 have hperm : d'.toList.Perm l := by
  obtain ⟨h1, h2, h3⟩ := hp
  have e1 : d'.extract 0 l.toArray.size = d' := by rw [← h1]; simp
  have e2 : l.toArray.extract 0 l.toArray.size = l.toArray := by simp
  rw [List.size_toArray] at e1 e2
  rw [e1, e2] at h3
  exact h3
 have hsorted : d'.toList.Pairwise (fun x y => ¬ y.f0 < x.f0) := by
  rw [List.pairwise_iff_getElem]
  intro i j hi hj hij
  have h1 := hso i j (Nat.zero_le _) hij (by simp at hp0 hj; omega)
  rw [ltA] at h1
  have hj' : j < d'.size := by simpa using hj
  have hi' : i < d'.size := by simpa using hi
  rw [getElem!_pos d' j hj', getElem!_pos d' i hi'] at h1
  simpa using h1
 have he2 : d'.toList = l := sort70_eq hperm hsorted hs
 subst hw
 refine ⟨he, ?_, grown_sort _ _ _ _ #[] os w spanL d'⟩
 have h9 := holdsK_sortWorldK_c spanL 2 w g o l.toArray d' n os hH hg (by simpa using hp0)
 have e3 : d' = l.toArray := by rw [← he2]
 rw [e3] at h9 ⊢
 exact reads70 (by simpa using h9) (by omega)
theorem sort70_nil (w : World) : Calls Tryz.prog 176 #[.slice none 0 0, .func (.func 177) #[] #[]] w fun e w' => e = .returned (.tuple #[]) ∧ w' = w := by
 have h := AnyF.slices_SortFunc_none sortSpan none 0 (.func (.func 177) #[] #[]) w
 change Calls Tryz.prog 176 _ _ _ at h
 exact h
structure Abv (w : World) where
 out : World
 bel : RowKit.Below w.heap.size w out
instance (w : World) : Inhabited (Abv w) := ⟨⟨w, Below.refl _ _⟩⟩
structure WQ (P : Program) (ops : Array Oper) (C : World → Prop) (Q : Act → Prop) (l : List Oper) (a : Act) : Prop where
 out : wpQuiet P ops C Q l a
theorem WQ.nil {P : Program} {ops : Array Oper} {C : World → Prop} {Q : Act → Prop} {a : Act} (h : Q a) : WQ P ops C Q [] a := ⟨h⟩
theorem WQ.step {P : Program} {ops : Array Oper} {C : World → Prop} {Q : Act → Prop} {a : Act} {o : Oper} {rest : List Oper}
  (h : ∀ K : Act → Prop, (∀ a, WQ P ops C Q rest a → K a) → if Region.wanted o (yielded ops a.tmps) then o.quiet P a C K else K (a.put o.dst undef)) : WQ P ops C Q (o :: rest) a :=
 ⟨h _ (fun _ h => h.out)⟩
theorem Zav {P : Program} {id : Nat} {Q : Exit → Act → World → Prop} {a : Act} {w : World} {l : List Oper} (hm : P.follows .mixedOrders = true) (hB : Region.lexB .any l.toArray = true)
  (h : WQ P l.toArray (fun w' => ∃ p : Abv w, w' = p.out) (fun a' => ∀ w', (∃ p : Abv w, w' = p.out) → Q .normal a' w') l a) : (Code.region id l.toArray true).wp P Q a w :=
 wp_region_quiet (C := fun w' => ∃ p : Abv w, w' = p.out) hm hB ⟨⟨_, ZaV (Below.refl _ _)⟩, rfl⟩ (by simpa using h.out)
theorem abv_of {P : Program} {f : FuncId} {args : Array Value} {w : World} {p : Abv w} {v : Value}
  (h : Calls P f args p.out fun e w' => e = .returned v ∧ RowKit.Below p.out.heap.size p.out w') : Calls P f args p.out fun e w'' => e = .returned v ∧ ∃ q : Abv w, w'' = q.out :=
 h.mono fun _ _ ⟨he, hb⟩ => ⟨he, ⟨_, Zae p.bel hb⟩, rfl⟩
theorem Zap {w : World} {a : Addr} {v : Value} (h : w.cell? a = some v) (p : Abv w) : p.out.cell? a = some v := by
 have := p.bel.block a.block (World.block_lt_of_cell? w a h)
 simpa [World.cell?, this] using h
theorem Zam {w w' : World} (h : RowKit.Below w.heap.size w w') {a : Addr} {v : Value} (hc : w.cell? a = some v) : w'.cell? a = some v := Zap hc ⟨w', h⟩
theorem Zb0 {B : Nat} {a w w' : World} (h : RowKit.Below B a w) (k : RowKit.Below B w w') : RowKit.Below B a w' := h.trans k
theorem app70 {ops : Array Oper} {o : Oper} {rest : List Oper} {a : Act} {Q : Exit → Act → World → Prop} {W : World} {base : Nat} (hg : o.guard = none) (s x : Operand)
  (ho : o.op = .call { callee := .builtin .append, args := #[s, x], argTypes := #[38, 38] }) (v : Value) (xs : List S70) (p : S70) (hs : a.eval s = v) (hx : a.eval x = .slice (some ⟨W.heap.size, 0, none⟩) 1 1)
  (HO : k70.R 70 W base (fun _ => True) v xs) (hbase : base ≤ W.heap.size) (hl : xs.length ≤ 1000000)
  (h : ∀ v1 w1, k70.R 70 w1 base (fun _ => True) v1 (xs ++ [p]) → RowKit.Below base W w1 → W.grownBy w1 v.ownBlock → wpList Tryz.prog ops Q rest (a.put o.dst v1) w1) :
  wpList Tryz.prog ops Q (o :: rest) a (W.alloc (.cells #[.int .i64 p.f0, .int .i64 p.f1] 70)) :=
 Kd.R_append k70 (w0 := W) base hg s x 38 70 (.agg #[.int .i64 0, .int .i64 0]) 16 ho Tryz.underlying38 info70 rfl (by decide) (by decide) v xs p [.int .i64 p.f0, .int .i64 p.f1] (fun _ => True) (fun _ => False) hs hx (Zc9 _ _ _ p) (fun _ hk => hk.elim) (fun _ _ => trivial) HO (Below.refl _ _) hbase (by omega) (fun v1 w1 h1 h2 h3 _ => h v1 w1 h1 h2 h3)
theorem app86 {ops : Array Oper} {o : Oper} {rest : List Oper} {a : Act} {Q : Exit → Act → World → Prop} {W : World} {base : Nat} (hg : o.guard = none) (s x : Operand)
  (ho : o.op = .call { callee := .builtin .append, args := #[s, x], argTypes := #[31, 31] }) (v : Value) (xs : List S86) (p : S86) (hs : a.eval s = v) (hx : a.eval x = .slice (some ⟨W.heap.size, 0, none⟩) 1 1)
  (HO : k86.R 86 W base (fun _ => True) v xs) (hbase : base ≤ W.heap.size) (hl : xs.length ≤ 1000000)
  (h : ∀ v1 w1, k86.R 86 w1 base (fun _ => True) v1 (xs ++ [p]) → RowKit.Below base W w1 → W.grownBy w1 v.ownBlock → wpList Tryz.prog ops Q rest (a.put o.dst v1) w1) :
  wpList Tryz.prog ops Q (o :: rest) a (W.alloc (.cells #[.int .i64 p.f0.f0, .int .i64 p.f0.f1, .int .i64 p.f1.f0, .int .i64 p.f1.f1] 86)) :=
 Kd.R_append k86 (w0 := W) base hg s x 31 86 (.agg #[.int .i64 0, .int .i64 0, .int .i64 0, .int .i64 0]) 32 ho Tryz.underlying31 info86 rfl (by decide) (by decide) v xs p [.int .i64 p.f0.f0, .int .i64 p.f0.f1, .int .i64 p.f1.f0, .int .i64 p.f1.f1] (fun _ => True) (fun _ => False) hs hx (Zc8 _ _ _ p) (fun _ hk => hk.elim) (fun _ _ => trivial) HO (Below.refl _ _) hbase (by omega) (fun v1 w1 h1 h2 h3 _ => h v1 w1 h1 h2 h3)
theorem apps86 {ops : Array Oper} {o : Oper} {rest : List Oper} {a : Act} {Q : Exit → Act → World → Prop} {W : World} {base : Nat} (hg : o.guard = none) (s x : Operand)
  (ho : o.op = .call { callee := .builtin .append, args := #[s, x], argTypes := #[31, 31] }) (v : Value) (xs ys : List S86) (A : Option Addr) (m c : Nat) (hs : a.eval s = v) (hx : a.eval x = .slice A m c)
  (HO : k86.R 86 W base (fun _ => True) v xs) (HR : Kd.C k86 W A m ys) (hbase : base ≤ W.heap.size) (hl : xs.length + m ≤ 1000000)
  (h : ∀ v1 w1, k86.R 86 w1 base (fun _ => True) v1 (xs ++ ys) → RowKit.Below base W w1 → W.grownBy w1 v.ownBlock → wpList Tryz.prog ops Q rest (a.put o.dst v1) w1) :
  wpList Tryz.prog ops Q (o :: rest) a W :=
 Kd.R_append_rows k86 (Rr := k86.K W) (w0 := W) base hg s x 31 86 (.agg #[.int .i64 0, .int .i64 0, .int .i64 0, .int .i64 0]) 32 ho Tryz.underlying31 info86 rfl (by decide) (by decide) v xs ys A m c (fun _ => True) (fun _ => False) hs hx HO HR (fun x cs h => k86_KM x cs h) (fun _ hk => hk.elim) (fun _ _ => trivial) (Below.refl _ _) hbase (by omega) (fun v1 w1 h1 h2 h3 _ => h v1 w1 h1 h2 h3)
theorem app92 {ops : Array Oper} {o : Oper} {rest : List Oper} {a : Act} {Q : Exit → Act → World → Prop} {W : World} {base : Nat} (hg : o.guard = none) (s x : Operand)
  (ho : o.op = .call { callee := .builtin .append, args := #[s, x], argTypes := #[37, 37] }) (v : Value) (xs : List S92) (p : S92) (hs : a.eval s = v) (hx : a.eval x = .slice (some ⟨W.heap.size, 0, none⟩) 1 1)
  (HO : k92.R 92 W base (fun _ => True) v xs) (hbase : base ≤ W.heap.size) (hl : xs.length ≤ 1000000)
  (h : ∀ v1 w1, k92.R 92 w1 base (fun _ => True) v1 (xs ++ [p]) → RowKit.Below base W w1 → W.grownBy w1 v.ownBlock → wpList Tryz.prog ops Q rest (a.put o.dst v1) w1) :
  wpList Tryz.prog ops Q (o :: rest) a (W.alloc (.cells #[.int .i64 p.f0.f0, .int .i64 p.f0.f1, .int .i64 p.f1.f0, .int .i64 p.f1.f1] 92)) :=
 Kd.R_append k92 (w0 := W) base hg s x 37 92 (.agg #[.int .i64 0, .int .i64 0, .int .i64 0, .int .i64 0]) 32 ho Tryz.underlying37 info92 rfl (by decide) (by decide) v xs p [.int .i64 p.f0.f0, .int .i64 p.f0.f1, .int .i64 p.f1.f0, .int .i64 p.f1.f1] (fun _ => True) (fun _ => False) hs hx (k92_mkM _ _ _ p) (fun _ hk => hk.elim) (fun _ _ => trivial) HO (Below.refl _ _) hbase (by omega) (fun v1 w1 h1 h2 h3 _ => h v1 w1 h1 h2 h3)
theorem app51 {ops : Array Oper} {o : Oper} {rest : List Oper} {a : Act} {Q : Exit → Act → World → Prop} {W : World} {base : Nat} (hg : o.guard = none) (s x : Operand)
  (ho : o.op = .call { callee := .builtin .append, args := #[s, x], argTypes := #[32, 32] }) (v : Value) (xs : List S51) (p : S51) (hs : a.eval s = v) (hx : a.eval x = .slice (some ⟨W.heap.size, 0, none⟩) 1 1)
  (HO : k51.R 51 W base (fun _ => True) v xs) (hbase : base ≤ W.heap.size) (hl : xs.length ≤ 1000000)
  (h : ∀ v1 w1, k51.R 51 w1 base (fun _ => True) v1 (xs ++ [p]) → RowKit.Below base W w1 → W.grownBy w1 v.ownBlock → wpList Tryz.prog ops Q rest (a.put o.dst v1) w1) :
  wpList Tryz.prog ops Q (o :: rest) a (W.alloc (.cells #[.int .i64 p.f0, .int .i64 p.f1, .int .i64 p.f2] 51)) :=
 Kd.R_append k51 (w0 := W) base hg s x 32 51 (rowV ⟨0, 0, 0⟩) 24 ho Tryz.underlying32 info51 rfl (by decide) (by decide) v xs p [.int .i64 p.f0, .int .i64 p.f1, .int .i64 p.f2] (fun _ => True) (fun _ => False) hs hx (k51_mkM _ _ _ p) (fun _ hk => hk.elim) (fun _ _ => trivial) HO (Below.refl _ _) hbase (by omega) (fun v1 w1 h1 h2 h3 _ => h v1 w1 h1 h2 h3)
theorem app54 {ops : Array Oper} {o : Oper} {rest : List Oper} {a : Act} {Q : Exit → Act → World → Prop} {W : World} {base : Nat} (hg : o.guard = none) (s x : Operand)
  (ho : o.op = .call { callee := .builtin .append, args := #[s, x], argTypes := #[36, 36] }) (v : Value) (xs : List S54) (p : S54) (hs : a.eval s = v) (hx : a.eval x = .slice (some ⟨W.heap.size, 0, none⟩) 1 1)
  (HO : k54.R 54 W base (fun _ => True) v xs) (hbase : base ≤ W.heap.size) (hl : xs.length ≤ 1000000)
  (h : ∀ v1 w1, k54.R 54 w1 base (fun _ => True) v1 (xs ++ [p]) → RowKit.Below base W w1 → W.grownBy w1 v.ownBlock → wpList Tryz.prog ops Q rest (a.put o.dst v1) w1) :
  wpList Tryz.prog ops Q (o :: rest) a (W.alloc (.cells #[.int .i64 p.f0, .int .i64 p.f1, .int .i64 p.f2] 54)) :=
 Kd.R_append k54 (w0 := W) base hg s x 36 54 (.agg #[.int .i64 0, .int .i64 0, .int .i64 0]) 24 ho Tryz.underlying36 info54 rfl (by decide) (by decide) v xs p [.int .i64 p.f0, .int .i64 p.f1, .int .i64 p.f2] (fun _ => True) (fun _ => False) hs hx (k54_mkM _ _ _ p) (fun _ hk => hk.elim) (fun _ _ => trivial) HO (Below.refl _ _) hbase (by omega) (fun v1 w1 h1 h2 h3 _ => h v1 w1 h1 h2 h3)
theorem sep_get {l : List S70} (h : Sep l) (i : Nat) (hi : i + 1 < l.length) : endS l[i] < l[i + 1].f0 := List.pairwise_iff_getElem.1 h i (i + 1) (by omega) hi (by omega)
theorem ZaM {α : Type} {l : List α} {i : Nat} (h : i < l.length) : l.take i ++ [l[i]] = l.take (i + 1) := by
 rw [List.take_add_one, List.getElem?_eq_getElem h]; rfl
set_option maxRecDepth 100000 in
set_option maxHeartbeats 4000000 in
theorem joinedS_calls (A : Option Addr) (c : Nat) (l : List S70) (w : World) (hr : Kd.C k70 w A l.length l) (hl : l.length ≤ 100000) (hm : ∀ x ∈ l, MayS x) (hs : Sep l) :
  Calls Tryz.prog 144 #[.slice A l.length c] w fun e w' => ∃ v, e = .returned v ∧ k70.R 70 w' w.heap.size (fun _ => True) v l ∧ Below w.heap.size w w' := by
 have hu38 := Tryz.underlying38
 have hu70 := Tryz.underlying70
 have hss : l.Pairwise (fun x y => x.f0 < y.f0) := by
  rw [List.pairwise_iff_getElem]
  intro i j hi hj hij
  have h1 := List.pairwise_iff_getElem.1 hs i j hi hj hij
  have h2 := hm l[i] (List.getElem_mem hi)
  unfold endS at h1
  unfold MayS at h2
  omega
 have HM := Aside0.mk hm
 have HS := Aside0.mk hs
 have hcl := Aside0.mk (clone70_calls A c l w hr (by omega))
 clear hr hm hs
 go_enter Tryz.func144, Tryz.ntmps144
 go_wp2_with (fail)
 refine hcl.out.mono ?_
 rintro e w1 ⟨v, rfl, hR, hb1⟩
 have HB1 := Aside0.mk hb1
 clear hcl hb1
 have hsort : ∃ A0 c0, v = .slice A0 l.length c0 ∧ Calls Tryz.prog 176 #[v, .func (.func 177) #[] #[]] w1 fun e w' => e = .returned (.tuple #[]) ∧ Kd.C k70 w' A0 l.length l ∧ Below w.heap.size w w' := by
  obtain ⟨A0, c0, rfl⟩ := Kd.R_slice hR
  refine ⟨A0, c0, rfl, ?_⟩
  have hR' := hR
  obtain ⟨_, inner, ho, _⟩ := hR'
  rcases ho.2 with ⟨h1, h0⟩ | ⟨g, cap, cur, h1, hbg, hg, _⟩
  ·injection h1 with h1 h2 h3
   subst h1 h3
   have : l = [] := List.eq_nil_of_length_eq_zero h0
   subst this
   exact (sort70_nil w1).mono fun e w' ⟨he, hw⟩ => ⟨he, Kd.C_nil _ _, by rw [hw]; exact HB1.out⟩
  ·injection h1 with h1 h2 h3
   subst h1
   exact (sort70_calls g 0 c0 l w1 (holds70 hR) (blk_lt hg) (by omega) hss).mono fun e w' ⟨he, hc, hgr⟩ => ⟨he, hc, HB1.out.grown hgr HB1.out.size (fun j hj => by obtain rfl := Option.some.inj hj; exact hbg)⟩
 obtain ⟨A0, c0, rfl, hsc⟩ := hsort
 have HSC := Aside0.mk hsc
 clear hsc hR hss HB1
 go_wp2_with (fail)
 refine HSC.out.mono ?_
 rintro e w2 ⟨rfl, hC2, hb2⟩
 have HC := Aside0.mk hC2
 have HB2 := Aside0.mk hb2
 clear hC2 hb2 HSC
 go_wp2_with (fail)
 go_loopg [3, 13] l.length (fun kx v3 v13 wr => ∃ i : Nat, v13 = .int .i64 (i : Int) ∧ i ≤ l.length ∧ l.length - i ≤ kx ∧ Aside0 (k70.R 70 wr w2.heap.size (fun _ => True) v3 (l.take i)) ∧ Aside0 (Below w2.heap.size w2 wr))
 case atStart => exact ⟨0, rfl, Nat.zero_le _, by omega, ⟨Kd.R_nil _ _ _ _ _⟩, ⟨Below.refl _ _⟩⟩
 case round =>
  obtain ⟨i, rfl, hi, hik, HO, HB⟩ := hrel
  obtain ⟨A3, c3, rfl, hc3, hr3⟩ := Kd.R_reads HO.out
  have hlen : (l.take i).length = i := by rw [List.length_take]; omega
  have hln : (l.take i).length ≤ 1000000 := by omega
  rw [hlen] at HO hc3 hr3 ⊢
  have HR3 := Aside0.mk hr3
  clear hr3
  by_cases hlt : i < l.length
  ·have hi1 : i + 1 ≤ l.length := hlt
   obtain ⟨ad, rfl, h0, h1⟩ := cells70 (Kd.C_below HC.out HB.out) i hlt
   have hts := ZaM hlt
   have hmx := HM.out l[i] (List.getElem_mem hlt)
   by_cases hz : i = 0
   ·have hd : decide ((i : Int) - 1 < 0) = true := decide_eq_true (by omega)
    have hw1 : IntKind.i64.wrap ((i : Int) - 1) = (i : Int) - 1 := IntWalk.i64_in _ (by omega)
    have HZ := Aside0.mk hz
    clear hz
    as_aux_lemma =>
     generalize l[i] = x at h0 h1 hts hmx
     obtain ⟨x0, x1⟩ := x
     simp only at h0 h1
     have HTS := Aside0.mk hts
     clear hts
     go_wp2_with (fail)
     refine Zav (by kernel_rfl) (by kernel_rfl) ?_
     repeat (refine WQ.step (fun K hK => ?_); go_simp; first | (refine hK _ ?_; clear hK K) | (apply Exists.intro; refine ⟨fun _ => ?_, hK _ ?_⟩; (fail); clear hK K))
     refine WQ.nil ?_
     rintro w5 ⟨⟨w5', hb5⟩, rfl⟩
     have hnew := Zag (Zas wr (.cells #[.int .i64 x0, .int .i64 x1] 70)) hb5
     have c0' : w5.cell? ⟨wr.heap.size, 0, none⟩ = some (.int .i64 x0) := (Zaa hnew 0).trans rfl
     have c1' : w5.cell? ⟨wr.heap.size, 1, none⟩ = some (.int .i64 x1) := (Zaa hnew 1).trans rfl
     have HB5 := Aside0.mk (Zae (Zab HB.out _) hb5)
     have HO5 := Aside0.mk (Kd.R_below (Kd.R_alloc HO.out _) hb5)
     have HBS := Aside0.mk (HB5.out.size)
     clear hnew hb5
     go_wp2_with (at_builtin; refine app70 rfl _ _ rfl _ _ ⟨x0, x1⟩ rfl rfl HO5.out HBS.out hln ?_; intro v1 w6 ho hb hg)
     go_roundg (gk - 1)
     case measure => omega
     case rel => exact ⟨i + 1, by go_num, hi1, by omega, ⟨by rw [← HTS.out]; exact ho⟩, ⟨HB5.out.trans hb⟩⟩
   ·obtain ⟨j, rfl⟩ : ∃ j, i = j + 1 := ⟨i - 1, by omega⟩
    have hw1 : IntKind.i64.wrap (((j + 1 : Nat) : Int) - 1) = (j : Int) := (IntWalk.i64_in _ (by omega)).trans (by omega)
    obtain ⟨ad3, hA3, g0, g1⟩ := cells70 (l := l.take (j + 1)) (by rw [hlen]; exact HR3.out) j (by rw [hlen]; omega)
    have hgt : (l.take (j + 1))[j]'(by rw [hlen]; omega) = l[j] := List.getElem_take
    rw [hgt] at g0 g1
    have hmy := HM.out l[j] (List.getElem_mem (by omega))
    have hsep := sep_get HS.out j hlt
    subst hA3
    clear hgt
    as_aux_lemma =>
     generalize l[j + 1] = x at h0 h1 hts hmx hsep
     generalize l[j] = y at g0 g1 hmy hsep
     obtain ⟨x0, x1⟩ := x
     obtain ⟨y0, y1⟩ := y
     simp only [endS] at h0 h1 g0 g1 hsep
     have hE := fun W => ZaN y0 y1 hmy W
     have hd1 : decide ((j : Int) < 0) = false := decide_eq_false (by omega)
     have hd2 : decide (y0 + y1 < x0) = true := decide_eq_true (by omega)
     have HTS := Aside0.mk hts
     have HX := Aside0.mk hmx
     clear hts hmx hsep hmy
     go_wp2_with (fail)
     have k0 := Zap (Zam (Zab (Below.refl _ wr) (.cells #[.int .i64 x0, .int .i64 x1] 70)) g0)
     have k1 := Zap (Zam (Zab (Below.refl _ wr) (.cells #[.int .i64 x0, .int .i64 x1] 70)) g1)
     have k2 := Zap ((Zaa (Zas wr (.cells #[.int .i64 x0, .int .i64 x1] 70)) 0).trans rfl)
     have hjj : (j : Int) < (j : Int) + 1 := by omega
     clear g0 g1
     refine Zav (by kernel_rfl) (by kernel_rfl) ?_
     repeat (refine WQ.step (fun K hK => ?_); go_simp; first | (refine hK _ ?_; clear hK K) | (apply Exists.intro; refine ⟨fun _ => ?_, hK _ ?_⟩; (go_at_call 24; exact abv_of (hE _)); clear hK K))
     refine WQ.nil ?_
     rintro w5 ⟨⟨w5', hb5⟩, rfl⟩
     have hnew := Zag (Zas wr (.cells #[.int .i64 x0, .int .i64 x1] 70)) hb5
     have c0' : w5.cell? ⟨wr.heap.size, 0, none⟩ = some (.int .i64 x0) := (Zaa hnew 0).trans rfl
     have c1' : w5.cell? ⟨wr.heap.size, 1, none⟩ = some (.int .i64 x1) := (Zaa hnew 1).trans rfl
     have HB5 := Aside0.mk (Zae (Zab HB.out _) hb5)
     have HO5 := Aside0.mk (Kd.R_below (Kd.R_alloc HO.out _) hb5)
     have HBS := Aside0.mk (HB5.out.size)
     clear hnew hb5 k0 k1 k2 hE hd1 hd2 hjj
     go_wp2_with (at_builtin; refine app70 rfl _ _ rfl _ _ ⟨x0, x1⟩ rfl rfl HO5.out HBS.out hln ?_; intro v1 w6 ho hb hg)
     go_roundg (gk - 1)
     case measure => omega
     case rel => exact ⟨j + 1 + 1, by go_num, hi1, by omega, ⟨by rw [← HTS.out]; exact ho⟩, ⟨HB5.out.trans hb⟩⟩
  ·as_aux_lemma =>
    have hil : i = l.length := by omega
    subst hil
    have ho := HO.out
    rw [List.take_length] at ho
    have HO' := Aside0.mk ho
    clear ho HO
    go_wp2_with (fail)
    go_ret
    exact ⟨_, rfl, Kd.R_lower HO'.out HB2.out.size, Zae HB2.out HB.out⟩
theorem any_may70 {l : List S70} (hm : ∀ x ∈ l, MayS x) : (l.any fun x => !decide (MayS x)) = false := by
 rw [List.any_eq_false]
 intro x hx
 simp [hm x hx]
theorem join_calls (A : Option Addr) (c : Nat) (l : List S70) (w : World) (hr : Kd.C k70 w A l.length l) (hl : l.length ≤ 100000) (hm : ∀ x ∈ l, MayS x) (hs : Sep l) :
  Calls Tryz.prog 109 #[.slice A l.length c] w fun e w' => ∃ v, e = .returned (.tuple #[v, .int .i64 0]) ∧ k70.R 70 w' w.heap.size (fun _ => True) v l ∧ Below w.heap.size w w' := by
 have HW := wrong_calls A c l w hr
 rw [any_may70 hm] at HW
 have HJ := Aside0.mk (fun W (hb : Below w.heap.size w W) => joinedS_calls A c l W (Kd.C_below hr hb) hl hm hs)
 clear hr hm hs
 go_enter Tryz.func109, Tryz.ntmps109
 go_wp2_with (fail)
 refine HW.mono ?_
 rintro e w1 ⟨rfl, hb1⟩
 have hj := HJ.out w1 hb1
 go_wp2_with (fail)
 refine hj.mono ?_
 rintro e w2 ⟨v, rfl, hR, hb2⟩
 go_wp2_with (fail)
 go_ret2
 exact ⟨_, rfl, Kd.R_lower hR hb1.size, Zae hb1 hb2⟩
end Go.Proofs.YtpfnaknmalojkaaGreat.PTopRows
