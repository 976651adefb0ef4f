/- YtpfnaknmalojkaaGreatC11: what this claim rests on. Words and contracts are those of the kit's print (print.sh wrote them, those that nothing here reaches are left out); all else is own work. Conditions: what each theorem says. -/
import Derived.Test.YtpfnaknmalojkaaGreatC10
import Derived.Deep.RegionHeld3
import Derived.Shelf.SlIterI.Nil
import Derived.Shelf.SortM.Plain
import Derived.Shelf.SortM.SortNone
namespace Go.Proofs.YtpfnaknmalojkaaGreat.PTopRows
open Go.RowKit Go.Maps Go.Sort Go.Proofs.YtpfnaknmalojkaaGreatW.PrintWords Go.Proofs.YtpfnaknmalojkaaGreatW.PrintLast Go.Proofs.YtpfnaknmalojkaaGreatW.PrintMore
set_option linter.unusedVariables false
set_option linter.unusedSimpArgs false
set_option maxRecDepth 100000 in
set_option maxHeartbeats 8000000 in
theorem says_calls (π : Bp) (r : Rb) (b N : Nat) (T : Int → Option Bool) (w : World) (hr : r.Reads w) (ho : r.Ok) (hp : π.p r.data) (hM : DMap π w b N T) (hN : N ≤ 900000) :
  Calls Tryz.prog 60 #[.map (some b), r.val] w fun e w' => e = .returned (.tuple #[]) ∧ DMap π w' b (N + 24) (saysF T r.S (decide (r.kind = 1))) ∧ w.grownBy w' (some b) := by
 have hu63 := Tryz.underlying63
 have hu125 := Tryz.underlying125
 have hu38 := Tryz.underlying38
 have hu70 := Tryz.underlying70
 have hu9 := Tryz.underlying9
 have hu3 := Tryz.underlying3
 have HR := Aside0.mk hr.s
 have HS := Aside0.mk ho.set
 have HTo := Aside0.mk ho.tot
 have HK := Aside0.mk ho.kind
 have HD := Aside0.mk ho.data
 have HP := Aside0.mk hp
 have HMb := Aside0.mk (show ∃ es clock, w.heap[b]? = some (.map es clock) by obtain ⟨D, ⟨es, clock, h, _⟩, _⟩ := hM; exact ⟨es, clock, h⟩)
 have Hbl := Aside0.mk hM.lt
 obtain ⟨ep, nb, kd, sa, sc, S, dt, tx⟩ := r
 simp only at HR HS HTo HK HD HP ⊢
 unfold Rb.val
 simp only
 have hlen : S.length ≤ 12 := by
  have := ZcK S HS.out.may
  have := HTo.out
  omega
 have ba := Zab (Below.refl _ w) (.cells #[.int .i64 ep, .int .i64 nb, .int .i64 kd, .slice sa S.length sc, .string dt, .string tx] 63)
 have hbx := Zas w (.cells #[.int .i64 ep, .int .i64 nb, .int .i64 kd, .slice sa S.length sc, .string dt, .string tx] 63)
 have HBX := Aside0.mk hbx
 have HBA := Aside0.mk ba
 have HM0 := Aside0.mk (hM.below ba)
 have q3 := (Zaa hbx 3).trans (rfl : _ = some (Value.slice sa S.length sc))
 have q4 := (Zaa hbx 4).trans (rfl : _ = some (Value.string dt))
 clear hr ho hM hp ba hbx
 go_enter Tryz.func60, Tryz.ntmps60
 go_wp2_with (fail)
 generalize w.alloc (.cells #[.int .i64 ep, .int .i64 nb, .int .i64 kd, .slice sa S.length sc, .string dt, .string tx] 63) = w1 at HBX HBA HM0 q3 q4 ⊢
 clear q3 q4
 go_loopg [4, 13] S.length (fun kx v4 v13 wr => ∃ (i : Nat) (d : ByteArray) (n : Nat), v4 = .string d ∧ v13 = .int .i64 (i : Int) ∧ i ≤ S.length ∧ S.length - i ≤ kx ∧ Aside0 (kd = 1 → (d.size : Int) = 64 * (totS S - totS (S.take i))) ∧ Aside0 ((n : Int) ≤ N + 2 * totS (S.take i)) ∧ Aside0 (π.p d) ∧ Aside0 (DMap π wr b n (saysF T (S.take i) (decide (kd = 1)))) ∧ Aside0 (w1.grownBy wr (some b)))
 case atStart => exact ⟨0, dt, N, rfl, rfl, Nat.zero_le _, by omega, ⟨fun h => by rw [HD.out h]; simp [totS]⟩, ⟨by simp [totS]⟩, HP, HM0, ⟨ZbJ _ _⟩⟩
 case round =>
  obtain ⟨i, d, n, rfl, rfl, hi, hik, HDs, HNn, HPd, HMi, HG⟩ := hrel
  by_cases hlt : i < S.length
  ·have hi1 : i + 1 ≤ S.length := hlt
   obtain ⟨es, ck, hmb⟩ := HMb.out
   have hg0 : w.grownBy wr (some b) := (Zax HBA.out (some b)).andThen HG.out fun j hj => .inr hj
   obtain ⟨ad, rfl, y0, y1⟩ := cells70 (C70_of_obj hmb HR.out hg0) i hlt
   have hmay := HS.out.may S[i] (List.getElem_mem hlt)
   have hend := HS.out.ends S[i] (List.getElem_mem hlt)
   have HTk := Aside0.mk (totS_take S i hlt)
   have HTl := Aside0.mk (show totS (S.take (i + 1)) ≤ totS S by
    have h1 := ZbM (S.take (i + 1)) (S.drop (i + 1))
    rw [List.take_append_drop] at h1
    have h2 := Zbg (S := S.drop (i + 1)) (fun x hx => HS.out.may x (List.mem_of_mem_drop hx))
    omega)
   have HFk := Aside0.mk (saysF_take T S (decide (kd = 1)) i hlt)
   have hne : w.heap.size ≠ b := by have := Hbl.out; omega
   have HXr := Aside0.mk (Zay HBX.out HG.out (by intro e; exact hne (Option.some.inj e)))
   have Hwr := Aside0.mk HG.out.size
   clear hg0
   as_aux_lemma =>
    generalize S[i] = x at y0 y1 hmay hend HTk HFk
    obtain ⟨x0, x1⟩ := x
    obtain ⟨m1, m2, m3⟩ := hmay
    simp only [endS] at y0 y1 hend m1 m2 m3
    have ba := Zab (Below.refl _ wr) (.cells #[.int .i64 x0, .int .i64 x1] 70)
    have hsb := Zas wr (.cells #[.int .i64 x0, .int .i64 x1] 70)
    have HSB := Aside0.mk hsb
    have HX2 := Aside0.mk (Zag HXr.out ba)
    have HM2 := Aside0.mk (HMi.out.below ba)
    have HG2 := Aside0.mk (Zbt HG.out (ba.mono HG.out.size))
    have Hbr := Aside0.mk HMi.out.lt
    have hE := fun W => ZaN x0 x1 ⟨m1, m2, m3⟩ W
    clear ba hsb
    go_wp2_with (fail)
    generalize wr.alloc (.cells #[.int .i64 x0, .int .i64 x1] 70) = w2 at HSB HX2 HM2 HG2 ⊢
    obtain ⟨gs, hgs⟩ : ∃ gs, wr.heap.size = gs := ⟨_, rfl⟩
    rw [hgs] at HSB Hbr ⊢
    obtain ⟨gq, hgq⟩ : ∃ gq, gq = gk := ⟨_, rfl⟩
    subst hgq
    go_loopg [4, 7] (x1.toNat) (fun ky v4 v7 wq => ∃ (j : Nat) (d' : ByteArray) (n' : Nat), v4 = .string d' ∧ v7 = .int .i64 (x0 + (j : Int)) ∧ (j : Int) ≤ x1 ∧ x1.toNat - j ≤ ky ∧ Aside0 (kd = 1 → (d'.size : Int) = 64 * (totS S - totS (S.take i) - j)) ∧ Aside0 ((n' : Int) ≤ N + 2 * totS (S.take i) + 2 * j) ∧ Aside0 (π.p d') ∧ Aside0 (DMap π wq b n' (saysN (saysF T (S.take i) (decide (kd = 1))) x0 j (decide (kd = 1)))) ∧ Aside0 (w2.grownBy wq (some b)))
    case atStart => exact ⟨0, d, n, rfl, by simp, by omega, by omega, ⟨fun h => by rw [HDs.out h]; omega⟩, ⟨by have := HNn.out; omega⟩, HPd, ⟨by rw [saysN_zero]; exact HM2.out⟩, ⟨ZbJ _ _⟩⟩
    case round =>
     obtain ⟨j, d', n', rfl, rfl, hj, hjk, HDj, HNj, HPj, HMj, HGj⟩ := hrel
     have HXq := Aside0.mk (Zay HX2.out HGj.out (by intro e; exact hne (Option.some.inj e)))
     have HSq := Aside0.mk (Zay HSB.out HGj.out (by intro e; have := Hbr.out; have := Option.some.inj e; omega))
     have s0 := (Zaa HSq.out 0).trans (rfl : _ = some (Value.int .i64 x0))
     have s1 := (Zaa HSq.out 1).trans (rfl : _ = some (Value.int .i64 x1))
     by_cases hjl : (j : Int) < x1
     ·go_wp2_with (fail)
      refine (hE _).mono ?_
      rintro e w3 ⟨rfl, hb3⟩
      have HM3 := Aside0.mk (HMj.out.below hb3)
      have HG3 := Aside0.mk (Zbt HGj.out (hb3.mono HGj.out.size))
      have HX3 := Aside0.mk (Zag HXq.out hb3)
      have HS3 := Aside0.mk (Zag HSq.out hb3)
      have q2 := (Zaa HX3.out 2).trans (rfl : _ = some (Value.int .i64 kd))
      have hk60 : 0 ≤ x0 + (j : Int) ∧ x0 + (j : Int) < 60 := by omega
      have hn3 : n' < 900100 := by have := HNj.out; have := HTo.out; have := HTl.out; have := HTk.out; omega
      have hm3 := HM3.out
      clear hb3 s0 s1
      have hwj : IntKind.i64.wrap (x0 + (j : Int) + 1) = x0 + (j : Int) + 1 := IntWalk.i64_in _ (by omega)
      rcases HK.out with hk | hk
      ·subst hk
       have hc1 : decide ((1 : Int) = 1) = true := rfl
       rw [hc1] at hm3
       go_wp2_with (at_mapUpdate; go_loud (refine wp_putD rfl _ _ _ rfl hm3 (by omega) (x0 + (j : Int)) hk60 ⟨#[]⟩ false π.sec_nil rfl rfl rfl ?_); intro w6 hM6 hg6; have HX6 := Aside0.mk (Zay HX3.out hg6 (by intro e; exact hne (Option.some.inj e))); have q6 := (Zaa HX6.out 2).trans (rfl : _ = some (Value.int .i64 1)))
       have hsz : (d'.size : Int) = 64 * (totS S - totS (S.take i) - j) := HDj.out (by trivial)
       have hd64 : 64 ≤ d'.size := by have := HTk.out; have := HTl.out; omega
       have hd64i : (64 : Int) ≤ (d'.size : Int) := by omega
       have hx64 : π.Sec true (d'.extract 0 64) := ⟨by rw [ByteArray.size_extract]; show min 64 d'.size - 0 = 64; omega, π.ext _ _ _ HPj.out⟩
       have hm6 : DMap π w6.drew b (n' + 1) (setT (saysN (saysF T (S.take i) true) x0 j true) (x0 + (j : Int)) false) := hM6
       obtain ⟨v0, st, W1, W2, e1, e2, hMw, hGw⟩ := hm6.entry (by omega) hk60 hx64
       have HSZ := Aside0.mk hsz
       have HMw := Aside0.mk hMw
       have HGw : Aside0 (w6.grownBy W2 (some b)) := ⟨⟨hGw.os, hGw.tape, hGw.output, hGw.size, hGw.block⟩⟩
       have HG6 := Aside0.mk hg6
       clear hsz hMw hGw hm6 hx64
       go_region_held3 (fun _ => True) (trivial) ((first | fail))
       go_wp2_with (fail)
       go_roundg (gk - 1)
       case measure => omega
       case rel =>
        refine ⟨j + 1, d'.extract 64 d'.size, n' + 1 + 1, rfl, by go_num, by omega, by omega, ⟨fun h => ?_⟩, ⟨by have := HNj.out; omega⟩, ⟨π.ext _ _ _ HPj.out⟩, ⟨?_⟩, ⟨(HG3.out.andThen HG6.out fun j hj => .inr hj).andThen HGw.out fun j hj => .inr hj⟩⟩
        ·rw [ByteArray.size_extract]
         have := HSZ.out
         omega
        ·have h9 := HMw.out
         rw [setT_twice] at h9
         rw [ZcZ]
         simp only [decide_true]
         exact h9
      ·subst hk
       as_aux_lemma =>
        have hc1 : decide ((2 : Int) = 1) = false := rfl
        rw [hc1] at hm3
        go_wp2_with (at_mapUpdate; go_loud (refine wp_putD rfl _ _ _ rfl hm3 (by omega) (x0 + (j : Int)) hk60 ⟨#[]⟩ false π.sec_nil rfl rfl rfl ?_); intro w6 hM6 hg6; have HX6 := Aside0.mk (Zay HX3.out hg6 (by intro e; exact hne (Option.some.inj e))); have q6 := (Zaa HX6.out 2).trans (rfl : _ = some (Value.int .i64 2)))
        go_roundg (gk - 1)
        case measure => omega
        case rel =>
         refine ⟨j + 1, d', n' + 1, rfl, by go_num, by omega, by omega, ⟨fun h => by omega⟩, ⟨by have := HNj.out; omega⟩, HPj, ⟨?_⟩, ⟨HG3.out.andThen hg6 fun j hj => .inr hj⟩⟩
         rw [ZcZ, hc1]
         exact hM6
     ·have hjl2 : (j : Int) = x1 := by omega
      as_aux_lemma =>
       go_wp2_with (fail)
       refine (hE _).mono ?_
       rintro e w3 ⟨rfl, hb3⟩
       have HM3 := Aside0.mk (HMj.out.below hb3)
       have HG3 := Aside0.mk ((HG2.out.andThen (Zbt HGj.out (hb3.mono HGj.out.size)) fun j hj => .inr hj))
       clear hb3
       go_wp2_with (fail)
       go_roundg (gq - 1)
       case measure => omega
       case rel =>
        refine ⟨i + 1, d', n', rfl, by go_num, hi1, by omega, ⟨fun h => ?_⟩, ⟨?_⟩, HPj, ⟨?_⟩, HG3⟩
        ·have h1 := HDj.out h
         have h2 := HTk.out
         omega
        ·have h1 := HNj.out
         have h2 := HTk.out
         omega
        ·rw [HFk.out]
         have h1 := HM3.out
         rw [show j = x1.toNat by omega] at h1
         exact h1
  ·have hil : i = S.length := by omega
   subst hil
   as_aux_lemma =>
    go_wp2_with (fail)
    go_end0
    have h1 := HMi.out
    rw [List.take_length] at h1
    have h2 := HNn.out
    rw [List.take_length] at h2
    have h3 := HTo.out
    exact ⟨rfl, h1.mono (by omega), (Zax HBA.out (some b)).andThen HG.out fun j hj => .inr hj⟩
def BAt (π : Bp) (w : World) (g b N : Nat) (most upto n : Int) (T : Int → Option Bool) : Prop := w.heap[g]? = some (.cells #[.int .i64 most, .map (some b), .int .i64 upto, .int .i64 n] 127 (0, 0)) ∧ DMap π w b N T
set_option maxRecDepth 100000 in
theorem newB_calls (π : Bp) (n : Int) (hn : 1 ≤ n ∧ n ≤ 960) (w : World) : Calls Tryz.prog 25 #[.int .i64 n] w fun e w' => ∃ g b, e = .returned (.tuple #[.pointer (some ⟨g, 0, none⟩), .int .i64 0]) ∧ w.heap.size ≤ g ∧ w.heap.size ≤ b ∧ BAt π w' g b 0 n 0 0 (fun _ => none) ∧ Below w.heap.size w w' := by
 have hmm := @run_makeMap Tryz.prog
 have hu77 := Tryz.underlying77
 have hu125 := Tryz.underlying125
 have hu127 := Tryz.underlying127
 have hu43 := Tryz.underlying43
 have h1 : decide (n < 1) = false := decide_eq_false (by omega)
 have h2 : decide (n > 960) = false := decide_eq_false (by omega)
 go_enter Tryz.func25, Tryz.ntmps25
 go_wp2_with (fail)
 go_ret2
 refine ⟨w.heap.size + 1, w.heap.size, rfl, by omega, Nat.le_refl _, ⟨?_, ?_⟩, Zab (Zab (Below.refl _ w) _) _⟩
 ·have h := Zas (w.alloc (.map #[] 0)) (.cells #[.int .i64 n, .map (some w.heap.size), .int .i64 0, .int .i64 0] 127)
  rwa [World.size_alloc] at h
 ·exact DMap.below (w := w.alloc (.map #[] 0)) ⟨_, World.ownsMap_made w Tryz.prog 3 strR, SecOf.nil π⟩ (Zab (Below.refl _ _) _)
set_option maxRecDepth 100000 in
theorem is105_calls (s : ByteArray) (c v : Bool) (q : Nat) (hs : s.size = secLen c) (w : World) (hc : w.cell? ⟨q, 0, none⟩ = some (.bool v)) :
  Calls Tryz.prog 105 #[.string s, .pointer (some ⟨q, 0, none⟩)] w fun e w' => e = .returned (.bool ((!c) == v)) ∧ w' = w := by
 have hu129 := Tryz.underlying129
 have hu4 := Tryz.underlying4
 have he : s.toList.isEmpty = !c := by
  have hl : s.data.toList.length = secLen c := hs
  rw [ByteArray.toList_eq]
  cases c with
  | true =>
   cases h : s.data.toList with
   | nil => rw [h] at hl; cases hl
   | cons _ _ => rfl
  | false => rw [List.length_eq_zero_iff.1 hl]; rfl
 go_enter Tryz.func105, Tryz.ntmps105
 go_wp2_with (fail)
 go_ret
 exact ⟨rfl, rfl⟩
end Go.Proofs.YtpfnaknmalojkaaGreat.PTopRows
namespace Go.Proofs.YtpfnaknmalojkaaGreat.PTopRows
open Go.Shelf Go.RowKit Go.Maps Go.Sort Go.Proofs.YtpfnaknmalojkaaGreatW.PrintWords Go.Proofs.YtpfnaknmalojkaaGreatW.PrintLast Go.Proofs.YtpfnaknmalojkaaGreatW.PrintMore
set_option linter.unusedVariables false
set_option linter.unusedSimpArgs false
theorem sortsI (m : Nat) : AnyZI.SortsIn Tryz.prog ZdJ Fence.wide m :=
 ⟨fun blk off cap ss W hH hblk hsz => callsIn_wide.2 (AnyM.slices_Sort_int sortI blk off cap ss W hH hblk hsz),
  fun p cap W => callsIn_wide.2 (AnyM.slices_Sort_int_none sortI p cap W)⟩
theorem keysI_calls (mb : Option Nat) (W : World) : Calls Tryz.prog 141 #[.map mb] W fun e w' => e = .returned (.func (.func 173) #[] #[.pointer (some ⟨W.heap.size, 0, none⟩)]) ∧ w' = W.alloc (.cells #[.map mb] 125) :=
 (callsIn_wide (n := 5)).1 (AnyZI.keys_in keysS Fence.wide 5 trivial rfl mb W)
theorem sortedK_calls (b nn : Nat) (D0 : DataW Unit) (R : Value → Option (DataW Unit × List MemPlace)) (w : World) (hown : w.ownsMap Tryz.prog 3 R b nn D0) (hmax : Maps.size D0 ≤ 1000000) :
  Calls Tryz.prog 140 #[.func (.func 173) #[] #[.pointer (some ⟨w.heap.size, 0, none⟩)]] (w.alloc (.cells #[.map (some b)] 125)) fun e w' => ∃ (v : Value) (ss : List Int), e = .returned v ∧ ss.Perm (intKeys D0) ∧
   w'.ownsRow w.heap.size 3 1 v ss.length ((ss.mergeSort (fun x y => decide (x ≤ y))).map encZ) ∧ (v = .slice none 0 0 ↔ ss = []) ∧ Below w.heap.size w w' := by
 have hbl := hown.lt
 have hseq : SeqGives Fence.wide 2 Tryz.prog 173 #[.pointer (some ⟨w.heap.size, 0, none⟩)] encZ (fun ss => ss.Perm (intKeys D0)) (Maps.size D0) (w.alloc (.cells #[.map (some b)] 125)) :=
  AnyZI.keys_gives (ρ := keysS_ren) { keysS with } Fence.wide _ trivial rfl (by omega) w.heap.size b nn D0 _ (by simp) (by simp) (by
   obtain ⟨es, clock, hb, Ft, hs, hD⟩ := hown
   exact ⟨es, clock, (Below.heap_alloc _ _ b hbl).trans hb, Ft, hs, hD⟩)
 have cS := AnyZI.sorted_in sortedI Fence.wide 5 trivial trivial trivial trivial rfl (by omega) (sortsI _) (enters_of Tryz.func172 (by kernel_rfl) rfl) 173 #[.pointer (some ⟨w.heap.size, 0, none⟩)] trivial (enters_of Tryz.func173 (by kernel_rfl) rfl) _ _ (show Maps.size D0 ≤ maxLen by unfold maxLen; omega) (by omega) _ hseq
 change CallsIn _ _ Tryz.prog 140 _ _ _ at cS
 refine ((callsIn_wide (n := 5)).1 cS).mono ?_
 rintro e w' ⟨v, ss, rfl, hS, hrow, hnil, hb⟩
 exact ⟨v, ss, rfl, hS, ownsRow_base_a hrow (by simp), hnil, ((Below.refl _ w).alloc (Nat.le_refl _) _).trans (hb.mono (by simp))⟩
end Go.Proofs.YtpfnaknmalojkaaGreat.PTopRows
namespace Go.Proofs.YtpfnaknmalojkaaGreat.PTopRows
open Go.RowKit Go.Maps Go.Sort Go.Proofs.YtpfnaknmalojkaaGreatW.PrintWords Go.Proofs.YtpfnaknmalojkaaGreatW.PrintLast Go.Proofs.YtpfnaknmalojkaaGreatW.PrintMore
set_option linter.unusedVariables false
set_option linter.unusedSimpArgs false
structure KeysT (T : Int → Option Bool) (K : List Int) : Prop where
 rise : K.Pairwise (· < ·)
 mem : ∀ k, k ∈ K ↔ (T k).isSome = true
 inn : ∀ k ∈ K, 0 ≤ k ∧ k < 60
theorem keysT_of {π : Bp} {w : World} {b N : Nat} {T : Int → Option Bool} {D : DataW Unit} (hown : w.ownsMap Tryz.prog 3 strR b N D) (hD : SecOf π D T) {ss : List Int} (hp : ss.Perm (intKeys D)) :
  KeysT T (ss.mergeSort (fun x y => decide (x ≤ y))) := by
 obtain ⟨es, rfl, hpw, _⟩ := hown.entries keyed3
 obtain ⟨es', e, hko⟩ := hown.keysOf
 obtain rfl : es = es' := by simpa using e
 have hk : ∀ p ∈ es, ∃ x, p.1 = .int .i64 x := fun p hp => by
  obtain ⟨v, hv⟩ := hko p hp
  obtain ⟨x, _, hx, _⟩ := Maps.keyOf_i64 Tryz.underlying3 hv
  exact ⟨x, hx⟩
 have hnd : (intKeys (.map es : DataW Unit)).Nodup := by
  show (es.map fun p => Go.intOf p.1).Nodup
  refine List.pairwise_map.2 (hpw.imp_of_mem fun {p q} hp' hq' hne e => hne ?_)
  obtain ⟨a, ha⟩ := hk p hp'
  obtain ⟨b, hb⟩ := hk q hq'
  rw [ha, hb] at e ⊢
  exact congrArg _ e
 have hmem : ∀ x, x ∈ intKeys (.map es : DataW Unit) ↔ (T x).isSome = true := fun x => by
  have h1 := hD.has (.int .i64 x)
  have h2 : (∃ k, (Lit.int .i64 x) = .int .i64 k ∧ (T k).isSome = true) ↔ (T x).isSome = true := ⟨fun ⟨k, e, h⟩ => by injection e with _ e; rw [e]; exact h, fun h => ⟨x, rfl, h⟩⟩
  rw [← h2, ← h1, Go.Maps.has_eq, List.any_eq_true]
  show x ∈ es.map (fun p => Go.intOf p.1) ↔ _
  rw [List.mem_map]
  constructor
  ·rintro ⟨p, hp', rfl⟩
   obtain ⟨a, ha⟩ := hk p hp'
   exact ⟨p, hp', by rw [ha]; simp [Lit.sameKey, Go.intOf]⟩
  ·rintro ⟨p, hp', hs⟩
   obtain ⟨a, ha⟩ := hk p hp'
   rw [ha] at hs
   exact ⟨p, hp', by rw [ha]; simpa [Lit.sameKey, Go.intOf] using hs⟩
 have hsp := (List.mergeSort_perm ss (fun x y => decide (x ≤ y))).trans hp
 have tr : ∀ a b c : Int, decide (a ≤ b) = true → decide (b ≤ c) = true → decide (a ≤ c) = true := fun a b c h1 h2 => by simp only [decide_eq_true_eq] at *; omega
 have tot2 : ∀ a b : Int, (decide (a ≤ b) || decide (b ≤ a)) = true := fun a b => by simp only [Bool.or_eq_true, decide_eq_true_eq]; omega
 have hs := List.pairwise_mergeSort (le := fun x y : Int => decide (x ≤ y)) tr tot2 ss
 have hm : ∀ k, k ∈ ss.mergeSort (fun x y => decide (x ≤ y)) ↔ (T k).isSome = true := fun k => by rw [hsp.mem_iff, hmem]
 refine ⟨?_, hm, fun k hk => hD.inn k ((hm k).1 hk)⟩
 have hnd2 : (ss.mergeSort (fun x y => decide (x ≤ y))).Nodup := hsp.nodup_iff.2 hnd
 refine (hs.and hnd2).imp fun {a b} h => ?_
 have h1 := of_decide_eq_true h.1
 have h2 := h.2
 omega
structure SetOf (T : Int → Option Bool) (c : Bool) (X : List S70) : Prop where
 set : SetS X 60
 mem : ∀ i, X.any (covers · i) = true ↔ T i = some c
theorem setOf_runs {T : Int → Option Bool} {K : List Int} (h : KeysT T K) (c : Bool) : SetOf T c (runs (K.filter fun k => T k == some c)) := by
 obtain ⟨h1, h2, _, _⟩ := runs_ok 60 (by omega) (K.filter fun k => T k == some c) (h.rise.filter _) (fun k hk => h.inn k ((List.mem_filter.1 hk).1))
 refine ⟨h1, fun i => ?_⟩
 rw [h2 i, List.mem_filter, h.mem, beq_iff_eq]
 exact ⟨fun h => h.2, fun h => ⟨by rw [h]; rfl, h⟩⟩
theorem runs_len (K : List Int) : (runs K).length ≤ K.length := by
 refine ZbR (P := fun K => (runs K).length ≤ K.length) (Nat.le_refl _) (fun K a ih => ?_) K
 rw [ZdN]
 rcases List.eq_nil_or_concat (runs K) with e | ⟨l, y, e⟩
 ·rw [e] at ih ⊢
  rw [Zde]
  simp
 ·rw [List.concat_eq_append] at e
  rw [e] at ih ⊢
  rw [Zcz]
  simp only [List.length_append, List.length_cons, List.length_nil] at ih ⊢
  split <;> simp only [List.length_append, List.length_cons, List.length_nil] <;> omega
theorem filter_take (p : Int → Bool) {K : List Int} {i : Nat} (h : i < K.length) : (K.take (i + 1)).filter p = (K.take i).filter p ++ if p K[i] then [K[i]] else [] := by
 rw [← ZaM h, List.filter_append, List.filter_cons]
 rfl
theorem rowIK {w : World} {base : Nat} {v : Value} {K : List Int} (h : w.ownsRow base 3 1 v K.length (K.map encZ)) : ∃ A c, v = .slice A K.length c ∧ ∀ i (h : i < K.length), ∃ g, A = some ⟨g, 0, none⟩ ∧ w.cell? ⟨g, i, none⟩ = some (.int .i64 K[i]) := by
 obtain ⟨_, ⟨rfl, h0⟩ | ⟨g, cap, cur, rfl, _, hg, _, _, hsz, ht⟩⟩ := h
 ·exact ⟨none, 0, by rw [h0], fun i hi => by omega⟩
 ·refine ⟨_, cap, rfl, fun i hi => ⟨g, rfl, (Zaa hg i).trans ?_⟩⟩
  have h1 : (cur.toList.take (K.length * 1))[i]? = some (encZ K[i]) := by
   rw [ht, List.getElem?_map, List.getElem?_eq_getElem hi]
   rfl
  rw [List.getElem?_take, if_pos (by omega), Array.getElem?_toList] at h1
  exact h1
set_option maxRecDepth 100000 in
set_option maxHeartbeats 8000000 in
theorem sets_calls (π : Bp) (b N q : Nat) (v : Bool) (T : Int → Option Bool) (w : World) (hM : DMap π w b N T) (hN : N ≤ 900000) (hq : w.cell? ⟨q, 0, none⟩ = some (.bool v)) :
  Calls Tryz.prog 106 #[.map (some b), .func (.func 105) #[] #[.pointer (some ⟨q, 0, none⟩)]] w fun e w' => ∃ val X, e = .returned val ∧ k70.R 70 w' w.heap.size (fun _ => True) val X ∧ SetOf T (!v) X ∧ Below w.heap.size w w' := by
 have hu125 := Tryz.underlying125
 have hu191 := Tryz.underlying191
 have hu38 := Tryz.underlying38
 have hu70 := Tryz.underlying70
 have hu3 := Tryz.underlying3
 have hu4 := Tryz.underlying4
 have hu129 := Tryz.underlying129
 have HM := Aside0.mk hM
 have HQ := Aside0.mk hq
 obtain ⟨D, hown, hD⟩ := hM
 have hmax : Maps.size D ≤ 1000000 := by have := hown.size_le; omega
 have HC := Aside0.mk (sortedK_calls b N D strR w hown hmax)
 have HKy := Aside0.mk (fun ss hp => keysT_of (ss := ss) hown hD hp)
 clear hown hD hq hmax
 go_enter Tryz.func106, Tryz.ntmps106
 go_wp2_with (fail)
 refine (keysI_calls (some b) w).mono ?_
 rintro e w1 ⟨rfl, rfl⟩
 go_wp2_with (fail)
 refine HC.out.mono ?_
 rintro e w2 ⟨vk, ss, rfl, hp, hrow, _, hb⟩
 have HT := Aside0.mk (HKy.out ss hp)
 have hKl : (ss.mergeSort (fun x y => decide (x ≤ y))).length = ss.length := List.length_mergeSort _
 rw [← hKl] at hrow
 generalize ss.mergeSort (fun x y => decide (x ≤ y)) = K at HT hrow
 obtain ⟨A, c, rfl, hK⟩ := rowIK hrow
 have HKc := Aside0.mk hK
 have HB2 := Aside0.mk hb
 have HM2 := Aside0.mk (HM.out.below hb)
 have HQ2 := Aside0.mk (Zam hb HQ.out)
 have HS0 := Aside0.mk (setOf_runs HT.out (!v))
 have hKn : K.length ≤ 64 := by
  have h1 := runs_ok 60 (by omega) K HT.out.rise HT.out.inn
  have h3 : SetS (runs K) 64 := ⟨h1.1.may, h1.1.sep, fun x hx => by have := h1.1.ends x hx; omega⟩
  have h2 := ZcT (fun i => (runs K).any (covers · i)) 64
  rw [Zcn h3, h1.2.2.1] at h2
  omega
 clear hp hrow hKl hK hb HC HKy HM HQ
 go_wp2_with (fail)
 go_loopg [5, 13] K.length (fun kx v5 v13 wr => ∃ i : Nat, v13 = .int .i64 (i : Int) ∧ i ≤ K.length ∧ K.length - i ≤ kx ∧ Aside0 (k70.R 70 wr w2.heap.size (fun _ => True) v5 (runs ((K.take i).filter fun k => T k == some (!v)))) ∧ Aside0 (Below w2.heap.size w2 wr))
 case atStart => exact ⟨0, rfl, Nat.zero_le _, by omega, ⟨Kd.R_nil _ _ _ _ _⟩, ⟨Below.refl _ _⟩⟩
 case round =>
  obtain ⟨i, rfl, hi, hik, HO, HB⟩ := hrel
  by_cases hlt : i < K.length
  ·have hi1 : i + 1 ≤ K.length := hlt
   obtain ⟨g, rfl, c0'⟩ := HKc.out i hlt
   have c0 := Zam HB.out c0'
   have hft := Aside0.mk (filter_take (fun k => T k == some (!v)) hlt)
   have hkin := HT.out.inn K[i] (List.getElem_mem hlt)
   obtain ⟨cc, hTk⟩ := Option.isSome_iff_exists.1 ((HT.out.mem K[i]).1 (List.getElem_mem hlt))
   obtain ⟨s, hs, hlk⟩ := (HM2.out.below HB.out).look hTk
   have hXl : (runs ((K.take i).filter fun k => T k == some (!v))).length ≤ i := by
    refine Nat.le_trans (runs_len _) (Nat.le_trans (List.length_filter_le _ _) ?_)
    rw [List.length_take]; omega
   have HTk := Aside0.mk hTk
   have hqr := Zam HB.out HQ2.out
   have HI := fun W hc => is105_calls s cc v q hs.1 W hc
   clear c0' hTk
   generalize hk : K[i] = k at c0 hft hkin HTk hlk
   have Hnx : (if (T k == some (!v)) = true then [k] else []) = (if cc = !v then [k] else []) := by
    rw [HTk.out]
    by_cases h : cc = !v
    ·rw [if_pos h, if_pos (by rw [h]; simp)]
    ·rw [if_neg h, if_neg (by simpa using h)]
   have HNx : Aside0 ((K.take (i + 1)).filter (fun k => T k == some (!v)) = (K.take i).filter (fun k => T k == some (!v)) ++ (if cc = !v then [k] else [])) := ⟨by rw [hft.out, Hnx]⟩
   clear hk Hnx hft
   generalize hX : (K.take i).filter (fun k => T k == some (!v)) = F at HO hXl HNx
   by_cases hcv : cc = !v
   ·rw [if_pos hcv] at HNx
    have hbv : ((!cc) == v) = true := by rw [hcv]; simp
    have HNy : Aside0 (runs ((K.take (i + 1)).filter (fun k => T k == some (!v))) = addRun (runs F) k) := ⟨by rw [HNx.out, ZdN]⟩
    rw [hbv] at HI
    clear hbv hcv HNx
    rcases List.eq_nil_or_concat (runs F) with he | ⟨l, y, he⟩
    ·rw [he] at HO HNy hXl
     rw [Zde] at HNy
     obtain ⟨A5, c5, rfl⟩ := Kd.R_slice HO.out
     simp only [List.length_nil] at HO ⊢
     as_aux_lemma =>
      go_wp2_with (fail)
      refine (HI _ hqr).mono ?_
      rintro e w3 ⟨rfl, rfl⟩
      have HBS := Aside0.mk (HB.out.size)
      go_wp2_with (at_builtin; refine app70 rfl _ _ rfl _ [] ⟨k, 1⟩ rfl rfl HO.out HBS.out (by simp) ?_; intro v1 w6 ho hb hg)
      go_roundg (gk - 1)
      case measure => omega
      case rel => exact ⟨i + 1, by go_num, hi1, by omega, ⟨by rw [HNy.out]; exact ho⟩, ⟨HB.out.trans hb⟩⟩
    ·rw [List.concat_eq_append] at he
     rw [he] at HO HNy hXl
     have hyS : MayS y ∧ endS y ≤ 60 := by
      have h1 := (runs_ok 60 (by omega) F (by rw [← hX]; exact (HT.out.rise.sublist (List.take_sublist _ _)).filter _) (fun k hk => by rw [← hX] at hk; exact HT.out.inn k (List.mem_of_mem_take ((List.mem_filter.1 hk).1)))).1
      rw [he] at h1
      exact ⟨h1.may y (by simp), h1.ends y (by simp)⟩
     rw [Zcz] at HNy
     clear he hX
     obtain ⟨g5, cap5, rfl, hgb, hgl, cellsg, hgc⟩ := Kd.R_form HO.out (by simp)
     obtain ⟨ad, e, y0c, y1c⟩ := cells70 (Kd.R_reads' HO.out).2.2 l.length (by simp)
     cases e
     simp only [Za9, Nat.zero_add] at y0c y1c
     have hll : (l ++ [y]).length = l.length + 1 := by simp
     have hgt : (l ++ [y])[l.length]'(by simp) = y := by simp
     rw [hgt] at y0c y1c
     rw [hll] at HO hXl ⊢
     obtain ⟨y0, y1⟩ := y
     obtain ⟨⟨m1, m2, m3⟩, m4⟩ := hyS
     unfold endS at m4
     simp only at y0c y1c m1 m2 m3 m4
     have hE := fun W => ZaN y0 y1 ⟨m1, m2, m3⟩ W
     have hw1 : IntKind.i64.wrap (((l.length + 1 : Nat) : Int) - 1) = (l.length : Int) := (IntWalk.i64_in _ (by omega)).trans (by omega)
     have hd1 : decide ((l.length : Int) ≥ 0) = true := decide_eq_true (by omega)
     have HGB := Aside0.mk hgb
     have HGC := Aside0.mk hgc
     clear hgb hgc hgt hll
     by_cases hend : y0 + y1 = k
     ·rw [if_pos (show endS ⟨y0, y1⟩ = k from hend)] at HNy
      have hdk : decide (y0 + y1 = k) = true := decide_eq_true hend
      as_aux_lemma =>
       go_wp2_with (fail)
       refine (HI _ hqr).mono ?_
       rintro e w3 ⟨rfl, rfl⟩
       go_wp2_with (fail)
       refine (hE _).mono ?_
       rintro e w4 ⟨rfl, hb4⟩
       have HB4 := Aside0.mk (Zae HB.out hb4)
       have HO4 := Aside0.mk (Kd.R_below HO.out hb4)
       have q0 := Zam hb4 y0c
       have q1 := Zam hb4 y1c
       have fz := Zad (Zag HGC.out hb4) (l.length * 2 + 1)
       have hw2 : IntKind.i64.wrap (y1 + 1) = y1 + 1 := IntWalk.i64_in _ (by omega)
       have hseg := Kd.R_seg (d := k70) (W := w4) (c := [.int .i64 y0, .int .i64 y1]) (seg := [.int .i64 (y1 + 1)]) (j := 1) (okp := fun _ => False) (x' := ⟨y0, y1 + 1⟩) HO4.out (l.length : Int) (by omega) (by omega) rfl
        (fun j u hu => by
         rw [Int.toNat_natCast]
         match j, hu with
         | 0, hu => cases hu; exact q0
         | 1, hu => cases hu; exact q1) (by show 1 + 1 ≤ 2; omega) (Zc9 _ _ _ _) (fun _ h => h.elim)
       rw [Int.toNat_natCast] at hseg
       have HSEG := Aside0.mk hseg
       have HLT := Aside0.mk (blk_lt (Zag HGC.out hb4))
       clear hseg hb4 y0c y1c
       go_wp2_with (fail)
       go_roundg (gk - 1)
       case measure => omega
       case rel =>
        have hset : (l ++ [(⟨y0, y1⟩ : S70)]).set l.length ⟨y0, y1 + 1⟩ = l ++ [⟨y0, y1 + 1⟩] := by
         rw [List.set_append_right _ _ (Nat.le_refl _)]
         simp
        obtain ⟨hr, hg⟩ := HSEG.out
        rw [hset] at hr
        exact ⟨i + 1, by go_num, hi1, by omega, ⟨by rw [HNy.out]; exact hr⟩, ⟨HB4.out.grown hg HB4.out.size (fun k hk => by obtain rfl := Option.some.inj hk; exact HGB.out)⟩⟩
     ·rw [if_neg (show ¬ endS ⟨y0, y1⟩ = k from hend)] at HNy
      have hdk : decide (y0 + y1 = k) = false := decide_eq_false hend
      as_aux_lemma =>
       go_wp2_with (fail)
       refine (HI _ hqr).mono ?_
       rintro e w3 ⟨rfl, rfl⟩
       go_wp2_with (fail)
       refine (hE _).mono ?_
       rintro e w4 ⟨rfl, hb4⟩
       have HB4 := Aside0.mk (Zae HB.out hb4)
       have HO4 := Aside0.mk (Kd.R_below HO.out hb4)
       have HBS := Aside0.mk (HB4.out.size)
       have hln : (l ++ [(⟨y0, y1⟩ : S70)]).length ≤ 1000000 := by simp; omega
       clear hb4 y0c y1c
       go_wp2_with (at_builtin; refine app70 rfl _ _ rfl _ _ ⟨k, 1⟩ rfl rfl HO4.out HBS.out hln ?_; intro v1 w6 ho hb hg)
       go_roundg (gk - 1)
       case measure => omega
       case rel => exact ⟨i + 1, by go_num, hi1, by omega, ⟨by rw [HNy.out]; exact ho⟩, ⟨HB4.out.trans hb⟩⟩
   ·rw [if_neg hcv, List.append_nil] at HNx
    have hbv : ((!cc) == v) = false := by cases cc <;> cases v <;> simp_all
    rw [hbv] at HI
    have HNy : Aside0 (runs ((K.take (i + 1)).filter (fun k => T k == some (!v))) = runs F) := ⟨by rw [HNx.out]⟩
    clear hcv hbv HNx hX
    generalize runs F = X at HO hXl HNy
    obtain ⟨A5, c5, rfl⟩ := Kd.R_slice HO.out
    as_aux_lemma =>
     go_wp2_with (fail)
     refine (HI _ hqr).mono ?_
     rintro e w3 ⟨rfl, rfl⟩
     go_wp2_with (fail)
     go_roundg (gk - 1)
     case measure => omega
     case rel => exact ⟨i + 1, by go_num, hi1, by omega, ⟨by rw [HNy.out]; exact HO.out⟩, HB⟩
  ·as_aux_lemma =>
    have hil : i = K.length := by omega
    subst hil
    have ho := HO.out
    rw [List.take_length] at ho
    have HO' := Aside0.mk ho
    clear ho HO
    go_wp2_with (fail)
    go_ret
    exact ⟨_, _, rfl, Kd.R_lower HO'.out HB2.out.size, HS0.out, Zae HB2.out HB.out⟩
end Go.Proofs.YtpfnaknmalojkaaGreat.PTopRows
namespace Go.Proofs.YtpfnaknmalojkaaGreat.PTopRows
open Go.Shelf Go.RowKit Go.Maps Go.Sort Go.Proofs.YtpfnaknmalojkaaGreatW.PrintWords Go.Proofs.YtpfnaknmalojkaaGreatW.PrintLast Go.Proofs.YtpfnaknmalojkaaGreatW.PrintMore
set_option linter.unusedVariables false
set_option linter.unusedSimpArgs false
def Zb3 : Go.Shelf.Ren := ⟨fun | 240 => 107 | 276 => 142 | 166 => 63 | n => n, fun | 70 => 133 | 9 => 9 | 0 => 0 | 72 => 135 | 37 => 76 | 164 => 206 | 3 => 3 | 5 => 5 | 20 => 20 | 4 => 4 | 75 => 137 | 80 => 100 | n => n, fun | n => n⟩
theorem lays166 : Go.Proofs.Lays.n166 Tryz.prog Zb3 := {
 mixed := by kernel_rfl
 f166 := Tryz.func63.trans (congrArg some (by kernel_rfl))
 f240 := Tryz.func107.trans (congrArg some (by kernel_rfl))
 f276 := Tryz.func142.trans (congrArg some (by kernel_rfl))
 t0 := Tryz.underlying0
 a0 := Tryz.isAgg0
 z0 := Tryz.sizeOf0
 v0 := Tryz.zeroValue0
 t3 := Tryz.underlying3
 a3 := Tryz.isAgg3
 z3 := Tryz.sizeOf3
 v3 := Tryz.zeroValue3
 t4 := Tryz.underlying4
 a4 := Tryz.isAgg4
 z4 := Tryz.sizeOf4
 v4 := Tryz.zeroValue4
 t9 := Tryz.underlying9
 a9 := Tryz.isAgg9
 z9 := Tryz.sizeOf9
 v9 := Tryz.zeroValue9
 t20 := Tryz.underlying20
 a20 := Tryz.isAgg20
 z20 := Tryz.sizeOf20
 v20 := Tryz.zeroValue20
 t37 := Tryz.underlying76
 a37 := Tryz.isAgg76
 z37 := Tryz.sizeOf76
 v37 := Tryz.zeroValue76
 t70 := Tryz.underlying133
 a70 := Tryz.isAgg133
 z70 := Tryz.sizeOf133
 v70 := Tryz.zeroValue133
 t72 := Tryz.underlying135
 a72 := Tryz.isAgg135
 z72 := Tryz.sizeOf135
 v72 := Tryz.zeroValue135
 t75 := Tryz.underlying137
 a75 := Tryz.isAgg137
 z75 := Tryz.sizeOf137
 v75 := Tryz.zeroValue137
 t164 := Tryz.underlying206
 a164 := Tryz.isAgg206
 z164 := Tryz.sizeOf206
 v164 := Tryz.zeroValue206
 }
theorem ZbC : Builder.Extra Tryz.prog Zb3 := {
 sizeBuilder := by kernel_rfl
 liesBuilder := by kernel_rfl
 t5 := Tryz.underlying5
 a5 := Tryz.isAgg5
 z5 := Tryz.sizeOf5
 v5 := Tryz.zeroValue5
 infoByte := by kernel_rfl
 cellsByte := by kernel_rfl
 sizeByte := by kernel_rfl
 neB5 := by decide }
def Bld (base b : Nat) (l : List UInt8) (w : World) : Prop := ∃ p, Lib.BuilderAt 135 5 base b p (Lib.byteCells l) w ∧ (p = .pointer none ∨ p = .pointer (some ⟨b, 0, none⟩))
structure BS (base : Nat) (w w' : World) : Prop where
 bel : Below base w w'
 kept : ∀ (k : Nat) (cs : Array Value) (t : Nat), t ≠ 135 → t ≠ 5 → w.heap[k]? = some (Obj.cells cs t (0, 0)) → w'.heap[k]? = some (Obj.cells cs t (0, 0))
theorem BS.of_below {base : Nat} {w w' : World} (h : Below w.heap.size w w') (hb : base ≤ w.heap.size) : BS base w w' := ⟨h.mono hb, fun _ _ _ _ _ hk => Zag hk h⟩
theorem BS.trans {base : Nat} {a b c : World} (h : BS base a b) (k : BS base b c) : BS base a c := ⟨h.bel.trans k.bel, fun j cells t h1 h2 h3 => k.kept j cells t h1 h2 (h.kept j cells t h1 h2 h3)⟩
theorem Bld.new (base : Nat) (w : World) (hB : base ≤ w.heap.size) : Bld base w.heap.size [] (w.alloc (.cells #[.pointer none, .slice none 0 0] 135)) :=
 ⟨.pointer none, ⟨hB, .slice none 0 0, Zas w _, ⟨rfl, .inl ⟨rfl, rfl⟩⟩, by simp [Value.ownBlock]⟩, .inl rfl⟩
theorem Zec (base b : Nat) (l : List UInt8) (w : World) (h : Bld base b l w) (hb : base ≤ w.heap.size) :
  Calls Tryz.prog 107 #[.pointer (some ⟨b, 0, none⟩)] w fun e w' => e = .returned (.tuple #[]) ∧ Lib.BuilderAt 135 5 base b (.pointer (some ⟨b, 0, none⟩)) (Lib.byteCells l) w' ∧ BS base w w' := by
 obtain ⟨p, h1, rfl | rfl⟩ := h
 ·refine (Any.Builder_copyCheck_fresh (ρ := Zb3) { lays166 with } ZbC.toX72 b w h1.cell0 h1.shape h1.frozen0).mono ?_
  rintro e w' ⟨rfl, rfl⟩
  refine ⟨rfl, h1.used _, (Below.refl base w).setCell (p := ⟨b, 0, none⟩) h1.1 _, fun k cs t t1 t2 hk => ?_⟩
  obtain ⟨_, v, hbk, _⟩ := h1
  refine Zbc hk (fun e => ?_) _
  have e' : k = b := e
  rw [e', hbk] at hk
  injection hk with hk
  injection hk with _ ht _
  exact t1 ht.symm
 ·refine (Any.Builder_copyCheck_used (ρ := Zb3) { lays166 with } ZbC.toX72 b w h1.cell0).mono ?_
  rintro e w' ⟨rfl, rfl⟩
  exact ⟨rfl, h1, Below.refl _ _, fun _ _ _ _ _ h => h⟩
theorem info5p : ∃ i0, Tryz.prog.info? 5 = some i0 ∧ i0.zero = some (.int .u8 0) ∧ i0.size = 1 ∧ i0.bytes = 1 := info_parts ZbC.infoByte
set_option maxRecDepth 100000 in
set_option maxHeartbeats 4000000 in
theorem Zeh (base b : Nat) (l : List UInt8) (s : ByteArray) (w : World) (h : Bld base b l w) (hlen : l.length + s.size ≤ 1000000) (hBw : base ≤ w.heap.size) :
  Calls Tryz.prog 63 #[.pointer (some ⟨b, 0, none⟩), .string s] w fun e w' => (∃ v, e = .returned v) ∧ Bld base b (l ++ s.data.toList) w' ∧ BS base w w' := by
 have hu135 := Tryz.underlying135
 have hu76 := Tryz.underlying76
 have hu9 := Tryz.underlying9
 have hu3 := Tryz.underlying3
 have hu137 := Tryz.underlying137
 obtain ⟨i0, hi, hz0, hz1, hz2⟩ := info5p
 have HC := Aside0.mk (Zec base b l w h hBw)
 clear h
 go_enter Tryz.func63, Tryz.ntmps63
 go_wp2_with (fail)
 refine HC.out.mono ?_
 rintro e w1 ⟨rfl, ⟨hB, v, hbk, hown, hne⟩, hb1⟩
 have c1 := (Zaa hbk 1).trans (rfl : _ = some v)
 have HB1 := Aside0.mk hb1
 have hbs := Nat.le_trans hBw hb1.bel.size
 clear HC hb1
 go_wp2_with (at_builtin; refine Lib.wpList_append_own_string _ rfl _ _ 76 9 rfl base 5 i0 hu76 hu9 hi hz0 hz1 hz2 _ _ _ rfl hown s rfl ?c3 ?c4 ?c5 ?_)
 case c3 => unfold maxLen; rw [Lib.byteCells_length]; omega
 case c4 => rw [Lib.byteCells_length]; omega
 case c5 => exact hbs
 intro v' w2 hown' hgrow _
 have hb2 := Zay hbk hgrow (fun e => hne e.symm)
 have f1 := Zad hb2 1
 have d1 := (Zaa hb2 1).trans (rfl : _ = some v)
 have HB2 : Aside0 (BS base w1 w2) := ⟨⟨(Below.refl base w1).grown hgrow hbs (fun k hk => (hown.lt k hk).1), fun k cs t t1 t2 hk => Zay hk hgrow (fun e => by
  obtain ⟨cs', h'⟩ := ZbW hown k e.symm
  rw [h'] at hk
  injection hk with hk
  injection hk with _ ht _
  exact t2 ht.symm)⟩⟩
 obtain ⟨ao, n', cap, rfl⟩ : ∃ ao n' cap, v' = .slice ao n' cap := by
  rcases hown'.2 with ⟨hv, _⟩ | ⟨g, cap, cur, hv, _⟩
  ·exact ⟨_, _, _, hv⟩
  ·exact ⟨_, _, _, hv⟩
 go_wp2_with (fail)
 go_ret2
 have e : Lib.byteCells (l ++ s.data.toList) = Lib.byteCells l ++ Lib.strCells s := by simp [Lib.byteCells, Lib.strCells]
 refine ⟨⟨_, rfl⟩, ⟨_, Lib.BuilderAt.put (T := 135) (e := 5) hB hb2 (bs' := Lib.byteCells (l ++ s.data.toList)) (by rw [e]; simpa [Lib.strCells_length] using hown') (by decide), .inr rfl⟩, (HB1.out.trans HB2.out).trans ⟨(Below.refl base w2).setCell (p := ⟨b, 1, none⟩) hB _, fun k cs t t1 t2 hk => Zbc hk (fun e => ?_) _⟩⟩
 have e' : k = b := e
 rw [e', hb2] at hk
 injection hk with hk
 injection hk with _ ht _
 exact t1 ht.symm
theorem Bld.bs {base b : Nat} {l : List UInt8} {w w' : World} (h : Bld base b l w) (hb : Below w.heap.size w w') : Bld base b l w' := by
 obtain ⟨p, ⟨h1, v, h2, h3, h4⟩, h5⟩ := h
 exact ⟨p, ⟨h1, v, Zag h2 hb, own_move h3 (fun k hk => hb.block k (h3.lt k hk).2), h4⟩, h5⟩
theorem Bld.far {base b : Nat} {l : List UInt8} {w w' : World} {row : Option Nat} (h : Bld base b l w) (hg : w.grownBy w' row) (hr : ∀ k, row = some k → ∃ cs t, t ≠ 135 ∧ t ≠ 5 ∧ w.heap[k]? = some (Obj.cells cs t (0, 0))) : Bld base b l w' := by
 obtain ⟨p, ⟨h1, v, h2, h3, h4⟩, h5⟩ := h
 have hf : ∀ k o, w.heap[k]? = some o → (∃ cs, o = Obj.cells cs 135 (0, 0) ∨ o = Obj.cells cs 5 (0, 0)) → some k ≠ row := fun k o hk ho e => by
  obtain ⟨cs, t, t1, t2, h⟩ := hr k e.symm
  rw [h] at hk
  injection hk with hk
  obtain ⟨cs', rfl | rfl⟩ := ho
  ·injection hk with _ ht _
   exact t1 ht
  ·injection hk with _ ht _
   exact t2 ht
 refine ⟨p, ⟨h1, v, Zay h2 hg (hf _ _ h2 ⟨_, .inl rfl⟩), own_move h3 (fun k hk => ?_), h4⟩, h5⟩
 obtain ⟨cs, h'⟩ := ZbW h3 k hk
 rw [Zay h' hg (hf _ _ h' ⟨_, .inr rfl⟩), h']
theorem strB_nil (base b : Nat) (w : World) (h : Bld base b [] w) : Calls Tryz.prog 64 #[.pointer (some ⟨b, 0, none⟩)] w fun e w' => e = .returned (.string ⟨#[]⟩) ∧ Below w.heap.size w w' := by
 obtain ⟨p, ⟨hB, v, hbk, hown, hne⟩, _⟩ := h
 rcases hown.2 with ⟨rfl, _⟩ | ⟨g, cap, cur, rfl, hbg, hg, _, _, _, _⟩
 ·exact Any.Builder_String_nil lays169 Zbn w.heap.size b p w hbk
 ·by_cases hc0 : cap = 0
  ·subst hc0
   exact Any.Builder_String_noroom lays169 Zbn w.heap.size b g p cur w (Nat.le_refl _) hbk hg
  ·exact Any.Builder_String_room lays169 Zbn w.heap.size b g cap p w hc0 hbk
set_option maxRecDepth 100000 in
set_option maxHeartbeats 4000000 in
theorem strB_some (base b : Nat) (l : List UInt8) (w : World) (h : Bld base b l w) (h0 : l ≠ []) (hBw : base ≤ w.heap.size) :
  Calls Tryz.prog 64 #[.pointer (some ⟨b, 0, none⟩)] w fun e w' => e = .returned (.string ⟨l.toArray⟩) ∧ BS base w w' := by
 have hu135 := Tryz.underlying135
 have hu76 := Tryz.underlying76
 have hu177 := Tryz.underlying177
 have hu9 := Tryz.underlying9
 have hu3 := Tryz.underlying3
 have hu133 := Tryz.underlying133
 obtain ⟨p, ⟨hB, v, hbk, hown, hne⟩, _⟩ := h
 have hl0 : l.length ≠ 0 := by simpa using h0
 rw [Lib.byteCells_length] at hown
 obtain ⟨g, cap, cur, rfl, hbg, hg, hnc, hcm, hcs, htake⟩ : ∃ g cap cur, v = .slice (some ⟨g, 0, none⟩) l.length cap ∧ base ≤ g ∧ w.heap[g]? = some (.cells cur 5 (0, 0)) ∧ l.length ≤ cap ∧ cap ≤ maxLen ∧ cur.size = cap * 1 ∧ cur.toList.take (l.length * 1) = Lib.byteCells l := by
  rcases hown.2 with ⟨_, hz⟩ | ⟨g, cap, cur, hv, r⟩
  ·exact absurd hz hl0
  ·exact ⟨g, cap, cur, hv, r⟩
 have hbd : w.drew.heap[b]? = some (.cells #[p, .slice (some ⟨g, 0, none⟩) l.length cap] 135 (0, 0)) := hbk
 have c1 : w.drew.cell? ⟨b, 1, none⟩ = some (.slice (some ⟨g, 0, none⟩) l.length cap) := (Zaa hbd 1).trans rfl
 have hSD : (Builtin.unsafeSliceData_ #[76] 177 #[.slice (some ⟨g, 0, none⟩) l.length cap]).run Tryz.prog w.drew = .ok (.pointer (some ⟨g, 0, none⟩)) w.drew :=
  Lib.run_unsafeSliceData_row _ _ _ _ _ _ (by omega)
 have hUS : (Builtin.unsafeString_ #[177, 3] 9 #[.pointer (some ⟨g, 0, none⟩), .int .i64 l.length]).run Tryz.prog w.drew = .ok (.string ⟨l.toArray⟩) (w.drew.freeze ⟨g, 0, none⟩ l.length) := by
  refine Lib.run_unsafeString_row w.drew 177 3 9 5 Tryz.underlying177 Zbn.cellsByte g cur.size (by have hg' : w.drew.heap[g]? = some (.cells cur 5 (0, 0)) := hg; simp [World.shape?, hg']) l h0 (by omega) (by unfold maxLen at hcm; omega) ?_
  intro j x hx
  exact hown.cells (g := g) rfl j (.int .u8 x.toNat) (by simp [Lib.byteCells, hx])
 have hkp : BS base w (w.drew.freeze ⟨g, 0, none⟩ l.length) := ⟨Lib.below_freeze (Below.drew (Below.refl base w)) (p := ⟨g, 0, none⟩) hbg _, fun k cs t t1 t2 hk => by
  have hkg : g ≠ k := by
   rintro rfl
   rw [hg] at hk
   injection hk with hk
   injection hk with _ ht _
   exact t2 ht.symm
  unfold World.freeze
  rw [if_neg hl0]
  show (w.heap.modify g _)[k]? = _
  rw [Array.getElem?_modify, if_neg hkg]
  exact hk⟩
 have HK := Aside0.mk hkp
 have mixed : Tryz.prog.follows .mixedOrders = true := by kernel_rfl
 clear hkp
 go_enter Tryz.func64, Tryz.ntmps64
 go_wp2
 go_region_o
 all_goals (go_wp2; go_ret; exact ⟨rfl, HK.out⟩)
theorem strB_calls (base b : Nat) (l : List UInt8) (w : World) (h : Bld base b l w) (hBw : base ≤ w.heap.size) :
  Calls Tryz.prog 64 #[.pointer (some ⟨b, 0, none⟩)] w fun e w' => e = .returned (.string ⟨l.toArray⟩) ∧ BS base w w' := by
 cases l with
 | nil => exact (strB_nil base b w h).mono fun e w' ⟨h1, h2⟩ => ⟨h1, BS.of_below h2 hBw⟩
 | cons x r => exact strB_some base b (x :: r) w h (by simp) hBw
end Go.Proofs.YtpfnaknmalojkaaGreat.PTopRows
namespace Go.Proofs.YtpfnaknmalojkaaGreat.PTopRows
open Go.RowKit Go.Maps Go.Sort Go.Proofs.YtpfnaknmalojkaaGreatW.PrintWords Go.Proofs.YtpfnaknmalojkaaGreatW.PrintLast Go.Proofs.YtpfnaknmalojkaaGreatW.PrintMore
set_option linter.unusedVariables false
set_option linter.unusedSimpArgs false
theorem cntP_one (k : Int) (n : Nat) : cntP (fun i => decide (i = k)) n ≤ 1 ∧ ((n : Int) ≤ k → cntP (fun i => decide (i = k)) n = 0) := by
 induction n with
 | zero => exact ⟨by show (0 : Int) ≤ 1; omega, fun _ => rfl⟩
 | succ n ih =>
  show cntP _ n + (if decide ((n : Int) = k) = true then (1 : Int) else 0) ≤ 1 ∧ _
  by_cases h : (n : Int) = k
  ·rw [if_pos (decide_eq_true h), ih.2 (by omega)]
   exact ⟨by omega, fun h2 => by omega⟩
  ·have e : (if decide ((n : Int) = k) = true then (1 : Int) else 0) = 0 := if_neg (by simpa using h)
   refine ⟨by rw [e]; have := ih.1; omega, fun h2 => ?_⟩
   show cntP _ n + (if decide ((n : Int) = k) = true then (1 : Int) else 0) = 0
   rw [e, ih.2 (by omega)]
   rfl
theorem cntP_add {p q r : Int → Bool} (h : ∀ i, p i = true → q i = true ∨ r i = true) (n : Nat) : cntP p n ≤ cntP q n + cntP r n := by
 induction n with
 | zero => exact Int.le_refl _
 | succ n ih =>
  show cntP p n + (if p n = true then (1 : Int) else 0) ≤ (cntP q n + (if q n = true then (1 : Int) else 0)) + (cntP r n + (if r n = true then (1 : Int) else 0))
  by_cases hp : p n = true
  ·rcases h n hp with hq | hr
   ·rw [if_pos hp, if_pos hq]
    split <;> omega
   ·rw [if_pos hp, if_pos hr]
    split <;> omega
  ·rw [if_neg hp]
   split <;> split <;> omega
def saidP (T : Int → Option Bool) : Int → Bool := fun i => (T i).isSome
theorem saidP_set (T : Int → Option Bool) (k : Int) (c : Bool) (n : Nat) : cntP (saidP (setT T k c)) n ≤ cntP (saidP T) n + 1 := by
 have h1 := cntP_add (p := saidP (setT T k c)) (q := saidP T) (r := fun i => decide (i = k)) (fun i hi => by
  by_cases e : i = k
  ·exact .inr (decide_eq_true e)
  ·left
   unfold saidP setT at hi
   rw [if_neg e] at hi
   exact hi) n
 have h2 := (cntP_one k n).1
 omega
theorem saidP_says (T : Int → Option Bool) (a : Int) (c : Bool) (n j : Nat) : cntP (saidP (saysN T a j c)) n ≤ cntP (saidP T) n + j := by
 induction j with
 | zero => rw [saysN_zero]; omega
 | succ j ih =>
  rw [ZcZ]
  have := saidP_set (saysN T a j c) (a + j) c n
  omega
theorem ZdM (c : Bool) (n : Nat) : ∀ (S : List S70) (T : Int → Option Bool), (∀ x ∈ S, MayS x) → cntP (saidP (saysF T S c)) n ≤ cntP (saidP T) n + totS S
 | [], T, _ => by show cntP (saidP T) n ≤ cntP (saidP T) n + 0; omega
 | s :: S, T, h => by
  have h1 := ZdM c n S (saysN T s.f0 s.f1.toNat c) (fun x hx => h x (by simp [hx]))
  have h2 := saidP_says T s.f0 c n s.f1.toNat
  have h3 := (h s (by simp)).2.1
  show cntP (saidP (saysF (saysN T s.f0 s.f1.toNat c) S c)) n ≤ _
  rw [Zby]
  omega
theorem saysF_one (c : Bool) (i : Int) (b : Bool) : ∀ (S : List S70) (T : Int → Option Bool), saysF T S c i = some b → T i = some b ∨ b = c
 | [], T, h => .inl h
 | s :: S, T, h => by
  rcases saysF_one c i b S (saysN T s.f0 s.f1.toNat c) h with h1 | h1
  ·unfold saysN at h1
   split at h1
   ·exact .inr (Option.some.inj h1).symm
   ·exact .inl h1
  ·exact .inr h1
theorem SetOf.none {T : Int → Option Bool} {c : Bool} {X : List S70} (h : SetOf T c X) (hn : ∀ i, T i ≠ some c) : X = [] := by
 cases X with
 | nil => rfl
 | cons x l =>
  have h1 := (h.set.may x (by simp)).2.1
  refine absurd ((h.mem x.f0).1 ?_) (hn _)
  rw [List.any_cons, Bool.or_eq_true]
  left
  rw [Za0]
  unfold endS
  omega
theorem SetOf.tot {T : Int → Option Bool} {c : Bool} {X : List S70} (h : SetOf T c X) : totS X ≤ cntP (saidP T) 64 := by
 have h3 : SetS X 64 := ⟨h.set.may, h.set.sep, fun x hx => by have := h.set.ends x hx; omega⟩
 rw [← Zcn h3]
 exact cntP_le fun i _ _ hi => by
  unfold saidP
  rw [(h.mem i).1 hi]
  rfl
abbrev noneT : Int → Option Bool := fun _ => none
theorem said_one {S : List S70} {c : Bool} {X Y : List S70} (hm : ∀ x ∈ S, MayS x) (hX : SetOf (saysF noneT S c) c X) (hY : SetOf (saysF noneT S c) (!c) Y) : totS X ≤ totS S ∧ Y = [] := by
 refine ⟨?_, hY.none fun i h => ?_⟩
 ·have h1 := hX.tot
  have h2 := ZdM c 64 S noneT hm
  have h3 : cntP (saidP noneT) 64 = 0 := ZbK fun _ _ _ => rfl
  omega
 ·rcases saysF_one c i _ S noneT h with h1 | h1
  ·cases h1
  ·cases c <;> simp at h1
theorem R_offG {α : Type} {k : Kd α} {e : Nat} {w w' : World} {base g : Nat} {v : Value} {xs : List α} (h : k.R e w base (fun _ => True) v xs) (hgb : g < base) (hg : w.grownBy w' (some g)) : k.R e w' base (fun _ => True) v xs :=
 Kd.R_mono (Kd.R_grown (Kd.R_bound h) hg (fun k hk e => by have := hk.2.1; cases e; omega)) (fun _ _ => trivial)
set_option maxRecDepth 100000 in
theorem Zdj (π : Bp) (b N : Nat) (T : Int → Option Bool) (w : World) (hM : DMap π w b N T) (hN : N ≤ 900000) :
  Calls Tryz.prog 61 #[.map (some b)] w fun e w' => ∃ v1 X1 v2 X2, e = .returned (.tuple #[v1, v2]) ∧ k70.R 70 w' w.heap.size (fun _ => True) v1 X1 ∧ k70.R 70 w' w.heap.size (fun _ => True) v2 X2 ∧ SetOf T true X1 ∧ SetOf T false X2 ∧ Below w.heap.size w w' := by
 have hu4 := Tryz.underlying4
 have hu175 := Tryz.underlying175
 have hbl := hM.lt
 have ba := Zab (Below.refl _ w) (.cells #[.bool false] 4)
 have hbx := Zas w (.cells #[.bool false] 4)
 have HS1 := Aside0.mk (sets_calls π b N w.heap.size false T _ (hM.below ba) hN ((Zaa hbx 0).trans rfl))
 have HSx := Aside0.mk (fun W (hb : DMap π W b N T) (hc : W.cell? ⟨w.heap.size, 0, none⟩ = some (.bool true)) => sets_calls π b N w.heap.size true T W hb hN hc)
 have HM := Aside0.mk (hM.below ba)
 have HB := Aside0.mk ba
 have HX := Aside0.mk hbx
 have hsz : (w.alloc (.cells #[.bool false] 4)).heap.size = w.heap.size + 1 := by simp
 have HZ := Aside0.mk hsz
 have Hbl := Aside0.mk hbl
 clear ba hbx hM hN hsz
 go_enter Tryz.func61, Tryz.ntmps61
 go_wp2_with (fail)
 generalize w.alloc (.cells #[.bool false] 4) = w1 at HS1 HM HB HX HZ ⊢
 refine HS1.out.mono ?_
 rintro e w2 ⟨v1, X1, rfl, hR1, hS1, hb2⟩
 have HB2 := Aside0.mk (Zae HB.out hb2)
 have HX2 := Aside0.mk (Zag HX.out hb2)
 have HM2 := Aside0.mk (HM.out.below hb2)
 have hR1 := Aside0.mk hR1
 have fz := Zad HX2.out 0
 have c0 := (Zaa HX2.out 0).trans (rfl : _ = some (Value.bool false))
 obtain ⟨A1, c1, rfl⟩ := Kd.R_slice hR1.out
 clear hb2
 go_wp2_with (fail)
 have hg3 := Za1 w2 w.heap.size 0 (.bool true)
 have hx3 := ZaG HX2.out 0 (.bool true)
 have HX3 : Aside0 ((w2.setCell ⟨w.heap.size, 0, none⟩ (.bool true)).heap[w.heap.size]? = some (.cells #[.bool true] 4)) := ⟨hx3⟩
 have HM3 := Aside0.mk (HM2.out.kept hg3 (by intro e; have := Option.some.inj e; have := Hbl.out; omega))
 have HB3 := Aside0.mk (HB2.out.grown hg3 HB2.out.size (fun j hj => by obtain rfl := Option.some.inj hj; exact Nat.le_refl _))
 have HR3 := Aside0.mk (R_offG hR1.out (by rw [HZ.out]; omega) hg3)
 clear hg3 hx3 fz c0 HS1 HX2 HM2 HB2 hR1
 generalize w2.setCell ⟨w.heap.size, 0, none⟩ (.bool true) = w3 at HX3 HM3 HB3 HR3 ⊢
 refine (HSx.out w3 HM3.out ((Zaa HX3.out 0).trans rfl)).mono ?_
 rintro e w4 ⟨v2, X2, rfl, hR2, hS2, hb4⟩
 obtain ⟨A2, c2, rfl⟩ := Kd.R_slice hR2
 have HB4 := Aside0.mk (Zae HB3.out hb4)
 have HR4 := Aside0.mk (Kd.R_lower (Kd.R_below HR3.out hb4) (show w.heap.size ≤ w1.heap.size by rw [HZ.out]; omega))
 have HR5 := Aside0.mk (Kd.R_lower hR2 HB3.out.size)
 clear hb4 hR2
 go_wp2_with (fail)
 go_ret2
 exact ⟨_, X1, _, X2, rfl, HR4.out, HR5.out, hS1, hS2, HB4.out⟩
set_option maxRecDepth 100000 in
theorem cloneD_run (b : Nat) (es : Array MapEntry) (clock : Nat) (w : World) (hb : w.heap[b]? = some (.map es clock)) :
  Calls Tryz.prog 59 #[.map (some b)] w fun e w' => e = .returned (.map (some w.heap.size)) ∧ w' = w.alloc (.map es clock) := by
 have hq := fun w => run_eql_map_nil_sl (P := Tryz.prog) w 125 _ _ (some b) Tryz.underlying125
 go_enter Tryz.func59, Tryz.ntmps59
 go_wp2
 rw [run_callFunc_extern Tryz.func95 (by kernel_rfl) (by kernel_rfl) (by kernel_rfl) (e := Extern.MapsClone.clone) (by kernel_rfl), run_maps_clone_sl w 125 hb]
 simp only [Result.andThen]
 rw [Oper.upon_value]
 go_wp2
 rw [run_typeAssert_map_sl _ 125 20 _ _ _ Tryz.underlying125]
 simp only [Result.andThen]
 rw [Oper.upon_value]
 go_wp2
 go_ret
 exact ⟨rfl, rfl⟩
theorem cloneD_calls (π : Bp) (b N : Nat) (T : Int → Option Bool) (w : World) (h : DMap π w b N T) :
  Calls Tryz.prog 59 #[.map (some b)] w fun e w' => e = .returned (.map (some w.heap.size)) ∧ DMap π w' w.heap.size N T ∧ Below w.heap.size w w' := by
 obtain ⟨D, ⟨es, clock, hb, F, hs, hD⟩, h1⟩ := h
 refine (cloneD_run b es clock w hb).mono fun e w' ⟨he, hw⟩ => ?_
 subst hw
 exact ⟨he, ⟨D, ⟨es, clock, (MapKept.heap_alloc w _).1, F, hs, hD⟩, h1⟩, (Below.refl _ w).alloc (Nat.le_refl _) _⟩
theorem Zcf (S : List S70) (hm : ∀ x ∈ S, MayS x) (hl : S.length ≤ 1000) : ∀ (d k i : Nat) (acc : Int), i + d = S.length → d < k → 0 ≤ acc ∧ acc ≤ 65536 * (i : Int) → ZaT.l0 k acc S (S.length : Int) (i : Int) = some (acc + totS (S.drop i))
 | 0, k, i, acc, h, hk, hb => by
  obtain ⟨q, rfl⟩ : ∃ q, k = q + 1 := ⟨k - 1, by omega⟩
  unfold ZaT.l0
  rw [if_neg (by omega), List.drop_of_length_le (by omega)]
  show _ = some (acc + 0)
  rw [Int.add_zero]
 | d + 1, k, i, acc, h, hk, hb => by
  obtain ⟨q, rfl⟩ : ∃ q, k = q + 1 := ⟨k - 1, by omega⟩
  have hi : i < S.length := by omega
  have hx := hm S[i] (List.getElem_mem hi)
  have hxs : 1 ≤ S[i].f1 ∧ S[i].f1 ≤ 65536 := ⟨hx.2.1, by have := hx.1; have := hx.2.2; omega⟩
  unfold ZaT.l0
  rw [if_pos (by omega), if_pos (by omega), if_pos (by omega), Zcj hi, ZaH (i + 1) (by omega), ZaH (acc + S[i].f1) (by omega)]
  have := Zcf S hm hl d q (i + 1) (acc + S[i].f1) (by omega) (by omega) (by omega)
  rw [ZcQ hi, ← Int.add_assoc]
  exact this
theorem rtotal_calls (A : Option Addr) (c : Nat) (S : List S70) (w : World) (hr : Kd.C k70 w A S.length S) (hc : S.length ≤ c) (hm : ∀ x ∈ S, MayS x) (hl : S.length ≤ 1000) :
  Calls Tryz.prog 164 #[.slice A S.length c] w fun e w' => e = .returned (.int .i64 (totS S)) ∧ Below w.heap.size w w' :=
 ZaT.calls 1100 A c S (totS S) w hr hc (by
  have h := Zcf S hm hl S.length 1100 0 0 (by omega) (by omega) (by omega)
  rw [List.drop_zero, Int.zero_add] at h
  exact h)
theorem Zcu (S : List S70) (hm : ∀ x ∈ S, MayS x) (hl : S.length ≤ 1000) : ∀ (d k i : Nat) (acc : Int), i + d = S.length → d < k → 0 ≤ acc ∧ acc ≤ 65536 * (i : Int) → ZaW.l0 k acc S (S.length : Int) (i : Int) = some (acc + totS (S.drop i))
 | 0, k, i, acc, h, hk, hb => by
  obtain ⟨q, rfl⟩ : ∃ q, k = q + 1 := ⟨k - 1, by omega⟩
  unfold ZaW.l0
  rw [if_neg (by omega), List.drop_of_length_le (by omega)]
  show _ = some (acc + 0)
  rw [Int.add_zero]
 | d + 1, k, i, acc, h, hk, hb => by
  obtain ⟨q, rfl⟩ : ∃ q, k = q + 1 := ⟨k - 1, by omega⟩
  have hi : i < S.length := by omega
  have hx := hm S[i] (List.getElem_mem hi)
  have hxs : 1 ≤ S[i].f1 ∧ S[i].f1 ≤ 65536 := ⟨hx.2.1, by have := hx.1; have := hx.2.2; omega⟩
  unfold ZaW.l0
  rw [if_pos (by omega), if_pos (by omega), if_pos (by omega), Zcj hi, ZaH (i + 1) (by omega), ZaH (acc + S[i].f1) (by omega)]
  have := Zcu S hm hl d q (i + 1) (acc + S[i].f1) (by omega) (by omega) (by omega)
  rw [ZcQ hi, ← Int.add_assoc]
  exact this
theorem btotal_calls (A : Option Addr) (c : Nat) (S : List S70) (w : World) (hr : Kd.C k70 w A S.length S) (hc : S.length ≤ c) (hm : ∀ x ∈ S, MayS x) (hl : S.length ≤ 1000) :
  Calls Tryz.prog 62 #[.slice A S.length c] w fun e w' => e = .returned (.int .i64 (totS S)) ∧ Below w.heap.size w w' :=
 ZaW.calls 1100 A c S (totS S) w hr hc (by
  have h := Zcu S hm hl S.length 1100 0 0 (by omega) (by omega) (by omega)
  rw [List.drop_zero, Int.zero_add] at h
  exact h)
theorem wrong2_calls (x0 x1 : Int) (hm : MayS ⟨x0, x1⟩) (w : World) : Calls Tryz.prog 186 #[.agg #[.int .i64 x0, .int .i64 x1]] w fun e w' => e = .returned (.bool (!decide (MayS ⟨x0, x1⟩))) ∧ Below w.heap.size w w' := by
 have H := fun W => ZbY x0 x1 W
 have z0 := Zas w (.cells #[.int .i64 x0, .int .i64 x1] 70)
 rw [if_pos hm] at H
 rw [decide_eq_true hm]
 go_enter Tryz.func186, Tryz.ntmps186
 go_wp2_with (go_at_call 70; refine (H _).mono ?_; rintro e w' ⟨rfl, hb⟩)
 go_ret
 exact ⟨rfl, Zae (Zab (Below.refl _ _) _) hb⟩
theorem any_wrong {S : List S70} (h : ∀ x ∈ S, MayS x) : S.any (fun x => !decide (MayS x)) = false := by
 rw [List.any_eq_false]
 intro x hx
 simp [h x hx]
theorem rcells {W : World} {g : Nat} {v0 v1 v2 v3 v4 v5 : Value} (h : W.heap[g]? = some (.cells #[v0, v1, v2, v3, v4, v5] 63 (0, 0))) :
  W.cell? ⟨g, 0, none⟩ = some v0 ∧ W.cell? ⟨g, 1, none⟩ = some v1 ∧ W.cell? ⟨g, 2, none⟩ = some v2 ∧ W.cell? ⟨g, 3, none⟩ = some v3 ∧ W.cell? ⟨g, 4, none⟩ = some v4 ∧ W.cell? ⟨g, 5, none⟩ = some v5 :=
 ⟨(Zaa h 0).trans rfl, (Zaa h 1).trans rfl, (Zaa h 2).trans rfl, (Zaa h 3).trans rfl, (Zaa h 4).trans rfl, (Zaa h 5).trans rfl⟩
theorem Rb.Ok.lens {r : Rb} (h : r.Ok) : r.S.length ≤ 12 ∧ 0 ≤ totS r.S := by
 have h1 := ZcK r.S h.set.may
 have h2 := h.tot
 exact ⟨by omega, by omega⟩
set_option maxRecDepth 100000 in
set_option maxHeartbeats 4000000 in
theorem Zdh (r : Rb) (w : World) (hr : r.Reads w) (ho : r.Ok) : Calls Tryz.prog 163 #[r.val] w fun e w' => e = .returned (.int .i64 0) ∧ Below w.heap.size w w' := by
 have hu63 := Tryz.underlying63
 have hu9 := Tryz.underlying9
 have hu38 := Tryz.underlying38
 have hu143 := Tryz.underlying143
 have hln := ho.lens.1
 have hl1 := ho.some
 have htx := ho.text
 have hWr := Aside0.mk (fun W (hb : Below w.heap.size w W) => by
  have h := Zbr 186 #[] (fun x => !decide (MayS x)) r.sa r.sc r.S W (Kd.C_below hr.s hb) (enters_of Tryz.func186 (by kernel_rfl) rfl) (fun W x hx _ => wrong2_calls x.f0 x.f1 (ho.set.may x hx) W)
  rw [any_wrong ho.set.may] at h
  exact h)
 obtain ⟨ep, nb, kd, sa, sc, S, dt, tx⟩ := r
 simp only at hln hl1 htx hWr
 subst htx
 unfold Rb.val
 simp only
 have ba := Zab (Below.refl _ w) (.cells #[.int .i64 ep, .int .i64 nb, .int .i64 kd, .slice sa S.length sc, .string dt, .string ⟨#[]⟩] 63)
 have hbx := Zas w (.cells #[.int .i64 ep, .int .i64 nb, .int .i64 kd, .slice sa S.length sc, .string dt, .string ⟨#[]⟩] 63)
 obtain ⟨q0, q1, q2, q3, q4, q5⟩ := rcells hbx
 have HBA := Aside0.mk ba
 have h1 : decide ((S.length : Int) < 1) = false := decide_eq_false (by omega)
 have h2 : decide ((S.length : Int) > 64) = false := decide_eq_false (by omega)
 clear ba hbx hr ho
 go_enter Tryz.func163, Tryz.ntmps163
 go_wp2_with (fail)
 refine (hWr.out _ HBA.out).mono ?_
 rintro e w2 ⟨rfl, hb⟩
 have HB2 := Aside0.mk (Zae HBA.out hb)
 clear hb
 go_wp2_with (fail)
 go_ret
 exact ⟨rfl, HB2.out⟩
set_option maxRecDepth 100000 in
set_option maxHeartbeats 4000000 in
theorem written_calls (r : Rb) (w : World) (hr : r.Reads w) (ho : r.Ok) (hk : r.kind = 1) : Calls Tryz.prog 129 #[r.val] w fun e w' => e = .returned (.int .i64 0) ∧ Below w.heap.size w w' := by
 have hu63 := Tryz.underlying63
 have hu9 := Tryz.underlying9
 have hu38 := Tryz.underlying38
 have hln := ho.lens
 have hto := ho.tot
 have hdt := ho.data hk
 have hSp := Aside0.mk (fun W (hb : Below w.heap.size w W) => Zdh r W (hr.below hb) ho)
 have hTt := Aside0.mk (fun W (hb : Below w.heap.size w W) => rtotal_calls r.sa r.sc r.S W (Kd.C_below hr.s hb) hr.sl ho.set.may (by have := ho.lens.1; omega))
 obtain ⟨ep, nb, kd, sa, sc, S, dt, tx⟩ := r
 unfold Rb.val at hSp ⊢
 simp only at hln hto hdt hSp hTt ⊢
 generalize totS S = n at hln hto hdt hTt
 have ba := Zab (Below.refl _ w) (.cells #[.int .i64 ep, .int .i64 nb, .int .i64 kd, .slice sa S.length sc, .string dt, .string tx] 63)
 have hbx := Zas w (.cells #[.int .i64 ep, .int .i64 nb, .int .i64 kd, .slice sa S.length sc, .string dt, .string tx] 63)
 obtain ⟨q0, q1, q2, q3, q4, q5⟩ := rcells hbx
 have HBA := Aside0.mk ba
 have HBX := Aside0.mk hbx
 have h1 : decide (n > 512) = false := decide_eq_false (by omega)
 have h3 : decide ((dt.size : Int) ≠ n * 64) = false := decide_eq_false (by omega)
 have hwn : IntKind.i64.wrap (n * 64) = n * 64 := IntWalk.i64_in _ (by omega)
 clear ba hbx hr ho hk
 go_enter Tryz.func129, Tryz.ntmps129
 go_wp2_with (fail)
 refine (hSp.out _ HBA.out).mono ?_
 rintro e w2 ⟨rfl, hb⟩
 have HB2 := Aside0.mk (Zae HBA.out hb)
 have HX2 := Aside0.mk (Zag HBX.out hb)
 have p3 := (rcells HX2.out).2.2.2.1
 clear hb q0 q1 q2 q3 q4 q5
 go_wp2_with (fail)
 refine (hTt.out _ HB2.out).mono ?_
 rintro e w3 ⟨rfl, hb⟩
 have HB3 := Aside0.mk (Zae HB2.out hb)
 have HX3 := Aside0.mk (Zag HX2.out hb)
 clear hb p3
 go_wp2_with (fail)
 have p3 := Zap (rcells HX3.out).2.2.2.1
 have p4 := Zap (rcells HX3.out).2.2.2.2.1
 have HT3 := Aside0.mk (fun p : Abv w3 => hTt.out p.out (Zae HB3.out p.bel))
 refine Zav (by kernel_rfl) (by kernel_rfl) ?_
 repeat (refine WQ.step (fun K hK => ?_); go_simp; first | (refine hK _ ?_; clear hK K) | (apply Exists.intro; refine ⟨fun _ => ?_, hK _ ?_⟩; (go_at_call 164; exact abv_of (HT3.out _)); clear hK K))
 refine WQ.nil ?_
 rintro w5 ⟨⟨w5', hb5⟩, rfl⟩
 have HB5 := Aside0.mk (Zae HB3.out hb5)
 clear hb5
 go_wp2_with (fail)
 go_ret
 exact ⟨rfl, HB5.out⟩
set_option maxRecDepth 100000 in
set_option maxHeartbeats 4000000 in
theorem trimmed_calls (r : Rb) (w : World) (hr : r.Reads w) (ho : r.Ok) (hk : r.kind = 2) : Calls Tryz.prog 135 #[r.val] w fun e w' => e = .returned (.int .i64 0) ∧ Below w.heap.size w w' := by
 have hu63 := Tryz.underlying63
 have hu9 := Tryz.underlying9
 have hdt := ho.cut hk
 have hSp := Aside0.mk (fun W (hb : Below w.heap.size w W) => Zdh r W (hr.below hb) ho)
 obtain ⟨ep, nb, kd, sa, sc, S, dt, tx⟩ := r
 unfold Rb.val at hSp ⊢
 simp only at hdt hSp ⊢
 subst hdt
 have ba := Zab (Below.refl _ w) (.cells #[.int .i64 ep, .int .i64 nb, .int .i64 kd, .slice sa S.length sc, .string ⟨#[]⟩, .string tx] 63)
 have hbx := Zas w (.cells #[.int .i64 ep, .int .i64 nb, .int .i64 kd, .slice sa S.length sc, .string ⟨#[]⟩, .string tx] 63)
 obtain ⟨q0, q1, q2, q3, q4, q5⟩ := rcells hbx
 have HBA := Aside0.mk ba
 have HBX := Aside0.mk hbx
 clear ba hbx hr ho hk
 go_enter Tryz.func135, Tryz.ntmps135
 go_wp2_with (fail)
 refine (hSp.out _ HBA.out).mono ?_
 rintro e w2 ⟨rfl, hb⟩
 have HB2 := Aside0.mk (Zae HBA.out hb)
 have p4 := (rcells (Zag HBX.out hb)).2.2.2.2.1
 clear hb q0 q1 q2 q3 q4 q5
 go_wp2_with (fail)
 go_ret
 exact ⟨rfl, HB2.out⟩
theorem results_c1 {fn : Func} {p : Tmp} {ty : TypeId} (h : fn.results = #[.cell p ty]) (tmps : Array Value) (w : World) (g : Nat) (t : TypeId) (cs : Array Value) (fr : Nat × Nat) (d : TypeDesc)
  (hp : tmps.getD p undef = .pointer (some ⟨g, 0, none⟩)) (hg : w.heap[g]? = some (.cells cs t fr))
  (hd : (match d with | .struct _ | .array _ _ => true | _ => false) = true) (hu : Tryz.prog.underlying ty = some d) (hi : (Tryz.prog.info? ty).map (·.size) = some cs.size) :
  (results fn tmps).run Tryz.prog w = .ok (.agg cs) w := by
 have hp' : tmps[p]?.getD undef = .pointer (some ⟨g, 0, none⟩) := by simpa using hp
 simp [results, h, hp', asAddr, run_loadVar_row w g t ty cs fr d hg hu (by cases d <;> first | rfl | cases hd) hi]
set_option maxRecDepth 100000 in
set_option maxHeartbeats 4000000 in
theorem Zd0 (w : World) : Calls Tryz.prog 104 #[] w fun e w' => e = .returned (.agg #[.nilFunc, .nilFunc, .nilFunc, .func (.func 129) #[] #[], .func (.func 130) #[] #[], .func (.func 132) #[] #[], .func (.func 135) #[] #[], .func (.func 131) #[] #[], .func (.func 133) #[] #[], .func (.func 136) #[] #[], .func (.func 137) #[] #[], .func (.func 138) #[] #[]]) ∧ Below w.heap.size w w' := by
 have hu173 := Tryz.underlying173
 have hu172 := Tryz.underlying172
 have h1 := Zas w (.cells #[.nilFunc, .nilFunc, .nilFunc, .func (.func 129) #[] #[], .func (.func 130) #[] #[], .func (.func 132) #[] #[], .func (.func 135) #[] #[], .func (.func 131) #[] #[], .func (.func 133) #[] #[], .func (.func 136) #[] #[], .func (.func 137) #[] #[], .func (.func 138) #[] #[]] 173)
 have H1 := Aside0.mk (Zag h1 (Zab (Below.refl _ _) (.cells #[.nilFunc, .nilFunc, .nilFunc, .func (.func 129) #[] #[], .func (.func 130) #[] #[], .func (.func 132) #[] #[], .func (.func 135) #[] #[], .func (.func 131) #[] #[], .func (.func 133) #[] #[], .func (.func 136) #[] #[], .func (.func 137) #[] #[], .func (.func 138) #[] #[]] 173)))
 clear h1
 go_enter Tryz.func104, Tryz.ntmps104
 go_wp2_with (fail)
 refine bodyPost_ret (results_c1 rfl _ _ _ _ _ _ _ rfl H1.out (by rfl) hu173 (by kernel_rfl)) rfl ?_
 exact ⟨rfl, Zab (Zab (Below.refl _ w) _) _⟩
theorem fx1 (a b c : Value) (W : World) : (Instr.field 172 (.agg #[a, b, c]) 0).run Tryz.prog W = .ok a W := by
 have hu := Tryz.underlying172
 simp [Instr.field, run_underlying hu, asAgg, part, Tryz.isAgg80, Result.andThen]
theorem ix1 (W : World) : (Instr.index 173 (.agg #[.nilFunc, .nilFunc, .nilFunc, .func (.func 129) #[] #[], .func (.func 130) #[] #[], .func (.func 132) #[] #[], .func (.func 135) #[] #[], .func (.func 131) #[] #[], .func (.func 133) #[] #[], .func (.func 136) #[] #[], .func (.func 137) #[] #[], .func (.func 138) #[] #[]]) (.int .i64 1)).run Tryz.prog W = .ok (.agg #[.func (.func 129) #[] #[], .func (.func 130) #[] #[], .func (.func 132) #[] #[]]) W := by
 have hu := Tryz.underlying173
 simp [Instr.index, run_underlying hu, asIntOf, part, Tryz.sizeOf172, Tryz.isAgg172, Result.andThen]
theorem ix2 (W : World) : (Instr.index 173 (.agg #[.nilFunc, .nilFunc, .nilFunc, .func (.func 129) #[] #[], .func (.func 130) #[] #[], .func (.func 132) #[] #[], .func (.func 135) #[] #[], .func (.func 131) #[] #[], .func (.func 133) #[] #[], .func (.func 136) #[] #[], .func (.func 137) #[] #[], .func (.func 138) #[] #[]]) (.int .i64 2)).run Tryz.prog W = .ok (.agg #[.func (.func 135) #[] #[], .func (.func 131) #[] #[], .func (.func 133) #[] #[]]) W := by
 have hu := Tryz.underlying173
 simp [Instr.index, run_underlying hu, asIntOf, part, Tryz.sizeOf172, Tryz.isAgg172, Result.andThen]
set_option maxRecDepth 100000 in
set_option maxHeartbeats 4000000 in
theorem rcheck_calls (r : Rb) (w : World) (hr : r.Reads w) (ho : r.Ok) : Calls Tryz.prog 58 #[r.val] w fun e w' => e = .returned (.int .i64 0) ∧ Below w.heap.size w w' := by
 have hu63 := Tryz.underlying63
 have hu43 := Tryz.underlying43
 have hu173 := Tryz.underlying173
 have hu172 := Tryz.underlying172
 have hu80 := Tryz.underlying80
 have hnb := ho.number
 have hep := ho.epoch
 have HWr := Aside0.mk (fun W (hb : Below w.heap.size w W) (hk : r.kind = 1) => written_calls r W (hr.below hb) ho hk)
 have HTr := Aside0.mk (fun W (hb : Below w.heap.size w W) (hk : r.kind = 2) => trimmed_calls r W (hr.below hb) ho hk)
 have hkd := ho.kind
 obtain ⟨ep, nb, kd, sa, sc, S, dt, tx⟩ := r
 unfold Rb.val at HWr HTr ⊢
 simp only at hnb hep HWr HTr hkd ⊢
 have h1 : decide (ep < 0) = false := decide_eq_false (by omega)
 have h2 : decide (ep ≥ 4294967296) = false := decide_eq_false (by omega)
 have h3 : decide (nb < 0) = false := decide_eq_false (by omega)
 have h4 : decide (nb ≥ 1099511627776) = false := decide_eq_false (by omega)
 rcases hkd with rfl | rfl
 ·have ba := Zab (Below.refl _ w) (.cells #[.int .i64 ep, .int .i64 nb, .int .i64 1, .slice sa S.length sc, .string dt, .string tx] 63)
  have hbx := Zas w (.cells #[.int .i64 ep, .int .i64 nb, .int .i64 1, .slice sa S.length sc, .string dt, .string tx] 63)
  obtain ⟨q0, q1, q2, q3, q4, q5⟩ := rcells hbx
  have HBA := Aside0.mk ba
  have HBX := Aside0.mk hbx
  have hix := ix1
  have hfx := fx1
  have HI := fun W => ZcH.calls 1 true W rfl
  clear ba hbx hr ho
  go_enter Tryz.func58, Tryz.ntmps58
  go_wp2_with (fail)
  refine (HI _).mono ?_
  rintro e w2 ⟨rfl, hb0⟩
  have hb := hb0.below
  clear hb0
  have HB2 := Aside0.mk (Zae HBA.out hb)
  have HX2 := Aside0.mk (Zag HBX.out hb)
  clear hb HI q0 q1 q2 q3 q4 q5
  obtain ⟨q0, q1, q2, q3, q4, q5⟩ := rcells HX2.out
  have p0 := Zap q0
  have p1 := Zap q1
  have p2 := Zap q2
  have p3 := Zap q3
  have p4 := Zap q4
  have p5 := Zap q5
  clear q0 q1 q2 q3 q4 q5
  have HW2 := Aside0.mk (fun p : Abv w2 => HWr.out p.out (Zae HB2.out p.bel) (by trivial))
  go_wp2_with (fail)
  refine Zav (by kernel_rfl) (by kernel_rfl) ?_
  repeat (refine WQ.step (fun K hK => ?_); go_simp; first | (refine hK _ ?_; clear hK K) | (apply Exists.intro; refine ⟨fun _ => ?_, hK _ ?_⟩; ((first | (go_at_call 104; exact abv_of (Zd0 _)) | (go_at_call 129; exact abv_of (HW2.out _)))); clear hK K))
  refine WQ.nil ?_
  rintro w5 ⟨⟨w5', hb5⟩, rfl⟩
  go_wp2_with (fail)
  go_ret
  exact ⟨rfl, Zae HB2.out hb5⟩
 ·have ba := Zab (Below.refl _ w) (.cells #[.int .i64 ep, .int .i64 nb, .int .i64 2, .slice sa S.length sc, .string dt, .string tx] 63)
  have hbx := Zas w (.cells #[.int .i64 ep, .int .i64 nb, .int .i64 2, .slice sa S.length sc, .string dt, .string tx] 63)
  obtain ⟨q0, q1, q2, q3, q4, q5⟩ := rcells hbx
  have HBA := Aside0.mk ba
  have HBX := Aside0.mk hbx
  have hix := ix2
  have hfx := fx1
  have HI := fun W => ZcH.calls 2 true W rfl
  clear ba hbx hr ho
  go_enter Tryz.func58, Tryz.ntmps58
  go_wp2_with (fail)
  refine (HI _).mono ?_
  rintro e w2 ⟨rfl, hb0⟩
  have hb := hb0.below
  clear hb0
  have HB2 := Aside0.mk (Zae HBA.out hb)
  have HX2 := Aside0.mk (Zag HBX.out hb)
  clear hb HI q0 q1 q2 q3 q4 q5
  obtain ⟨q0, q1, q2, q3, q4, q5⟩ := rcells HX2.out
  have p0 := Zap q0
  have p1 := Zap q1
  have p2 := Zap q2
  have p3 := Zap q3
  have p4 := Zap q4
  have p5 := Zap q5
  clear q0 q1 q2 q3 q4 q5
  have HW2 := Aside0.mk (fun p : Abv w2 => HTr.out p.out (Zae HB2.out p.bel) (by trivial))
  go_wp2_with (fail)
  refine Zav (by kernel_rfl) (by kernel_rfl) ?_
  repeat (refine WQ.step (fun K hK => ?_); go_simp; first | (refine hK _ ?_; clear hK K) | (apply Exists.intro; refine ⟨fun _ => ?_, hK _ ?_⟩; ((first | (go_at_call 104; exact abv_of (Zd0 _)) | (go_at_call 135; exact abv_of (HW2.out _)))); clear hK K))
  refine WQ.nil ?_
  rintro w5 ⟨⟨w5', hb5⟩, rfl⟩
  go_wp2_with (fail)
  go_ret
  exact ⟨rfl, Zae HB2.out hb5⟩
theorem said_two {r : Rb} (ho : r.Ok) {X Y : List S70} (h1 : SetOf (saysF noneT r.S (decide (r.kind = 1))) true X) (h2 : SetOf (saysF noneT r.S (decide (r.kind = 1))) false Y) : ObjOk X Y ∧ totS X ≤ totS r.S ∧ X.length ≤ 12 ∧ Y.length ≤ 12 := by
 have hT := ho.tot
 have h0 := ho.lens.2
 suffices h : ObjOk X Y ∧ totS X ≤ totS r.S by
  have := h.1.lens
  exact ⟨h.1, h.2, by omega, by omega⟩
 rcases ho.kind with hk | hk
 ·rw [decide_eq_true hk] at h1 h2
  obtain ⟨h3, rfl⟩ := said_one ho.set.may h1 h2
  exact ⟨⟨h1.set, SetS.nil 60, .inr rfl, by show totS X + 0 ≤ 12; omega⟩, h3⟩
 ·rw [decide_eq_false (by omega)] at h1 h2
  obtain ⟨h3, rfl⟩ := said_one ho.set.may h2 h1
  exact ⟨⟨SetS.nil 60, h2.set, .inl rfl, by show 0 + totS Y ≤ 12; omega⟩, h0⟩
theorem bcells {W : World} {g : Nat} {v0 v1 v2 v3 : Value} (h : W.heap[g]? = some (.cells #[v0, v1, v2, v3] 127 (0, 0))) :
  W.cell? ⟨g, 0, none⟩ = some v0 ∧ W.cell? ⟨g, 1, none⟩ = some v1 ∧ W.cell? ⟨g, 2, none⟩ = some v2 ∧ W.cell? ⟨g, 3, none⟩ = some v3 :=
 ⟨(Zaa h 0).trans rfl, (Zaa h 1).trans rfl, (Zaa h 2).trans rfl, (Zaa h 3).trans rfl⟩
set_option maxRecDepth 100000 in
set_option maxHeartbeats 8000000 in
theorem Zeg (π : Bp) (g b N : Nat) (most : Int) (r : Rb) (w : World) (hB : BAt π w g b N most 0 0 noneT) (hr : r.Reads w) (ho : r.Ok) (hp : π.p r.data) (hN : N ≤ 800000) (hm : totS r.S ≤ most) :
  Calls Tryz.prog 26 #[.pointer (some ⟨g, 0, none⟩), r.val] w fun e w' => ∃ b', e = .returned (.int .i64 0) ∧ BAt π w' g b' (N + 24) most r.number 1 (saysF noneT r.S (decide (r.kind = 1))) ∧ w.grownBy w' (some g) := by
 have hu77 := Tryz.underlying77
 have hu43 := Tryz.underlying43
 have hu63 := Tryz.underlying63
 have hu127 := Tryz.underlying127
 have hu125 := Tryz.underlying125
 have hu131 := Tryz.underlying131
 have hu38 := Tryz.underlying38
 have hu3 := Tryz.underlying3
 obtain ⟨hG, hMp⟩ := hB
 have HCk := Aside0.mk (fun W (hb : Below w.heap.size w W) => rcheck_calls r W (hr.below hb) ho)
 have HCl := Aside0.mk (fun W (hb : Below w.heap.size w W) => cloneD_calls π b N noneT W (hMp.below hb))
 have HSy := Aside0.mk (fun W b2 (hb : Below w.heap.size w W) (h : DMap π W b2 N noneT) => says_calls π r b2 N noneT W (hr.below hb) ho hp h (by omega))
 have HTw := Aside0.mk (fun X Y => said_two (X := X) (Y := Y) ho)
 have hnb := ho.number
 have HM := Aside0.mk hm
 obtain ⟨ep, nb, kd, sa, sc, S, dt, tx⟩ := r
 unfold Rb.val at HCk HSy ⊢
 simp only at HCk HSy HTw hnb HM ⊢
 generalize saysF noneT S (decide (kd = 1)) = T1 at HSy HTw ⊢
 have ba := Zab (Below.refl _ w) (.cells #[.int .i64 ep, .int .i64 nb, .int .i64 kd, .slice sa S.length sc, .string dt, .string tx] 63)
 have hbx := Zas w (.cells #[.int .i64 ep, .int .i64 nb, .int .i64 kd, .slice sa S.length sc, .string dt, .string tx] 63)
 have HG := Aside0.mk hG
 have Hgl := Aside0.mk (blk_lt hG)
 have HBA := Aside0.mk ba
 have HBX := Aside0.mk hbx
 obtain ⟨q0, q1, q2, q3, q4, q5⟩ := rcells hbx
 have h1 : decide (nb ≤ 0) = false := decide_eq_false (by omega)
 clear hr ho hp hm hG hMp ba hbx
 go_enter Tryz.func26, Tryz.ntmps26
 go_wp2_with (fail)
 clear q0 q1 q2 q3 q4 q5
 refine (HCk.out _ HBA.out).mono ?_
 rintro e w2 ⟨rfl, hb⟩
 have HB2 := Aside0.mk (Zae HBA.out hb)
 have HX2 := Aside0.mk (Zag HBX.out hb)
 clear hb HBX
 go_wp2_with (fail)
 have p1 := Zap (rcells HX2.out).2.1
 have p2 := Zap (bcells (Zag HG.out HB2.out)).2.2.1
 refine Zav (by kernel_rfl) (by kernel_rfl) ?_
 repeat (refine WQ.step (fun K hK => ?_); go_simp; first | (refine hK _ ?_; clear hK K) | (apply Exists.intro; refine ⟨fun _ => ?_, hK _ ?_⟩; (fail); clear hK K))
 refine WQ.nil ?_
 rintro w3 ⟨⟨w3', hb3⟩, rfl⟩
 have HB3 := Aside0.mk (Zae HB2.out hb3)
 have HX3 := Aside0.mk (Zag HX2.out hb3)
 have c1 := (bcells (Zag HG.out HB3.out)).2.1
 clear hb3 p1 p2
 go_wp2_with (fail)
 refine (HCl.out _ HB3.out).mono ?_
 rintro e w4 ⟨rfl, hM4, hb⟩
 have HB4 := Aside0.mk (Zae HB3.out hb)
 have HX4 := Aside0.mk (Zag HX3.out hb)
 have HM4 := Aside0.mk hM4
 have hb2 : w.heap.size < w3.heap.size := blk_lt HX3.out
 generalize w3.heap.size = b2 at HM4 hb2 ⊢
 obtain ⟨q0, q1, q2, q3, q4, q5⟩ := rcells HX4.out
 clear hb hM4 c1
 go_wp2_with (fail)
 refine (HSy.out _ b2 HB4.out HM4.out).mono ?_
 rintro e w5 ⟨rfl, hM5, hg5⟩
 have HB5 := Aside0.mk (HB4.out.grown hg5 HB4.out.size (fun j hj => by obtain rfl := Option.some.inj hj; omega))
 have HX5 := Aside0.mk (Zay HX4.out hg5 (by intro e; have := Option.some.inj e; omega))
 have HP5 := Aside0.mk (Zdj π b2 (N + 24) T1 w5 hM5 (by omega))
 have HM5 := Aside0.mk hM5
 clear hM5 hg5 q0 q1 q2 q3 q4 q5 HCl HSy HCk
 go_wp2_with (fail)
 refine HP5.out.mono ?_
 rintro e w6 ⟨v1, X, v2, Y, rfl, hR1, hR2, hS1, hS2, hb⟩
 obtain ⟨hOb, hTX, hlX, hlY⟩ := HTw.out X Y hS1 hS2
 have HB6 := Aside0.mk (Zae HB5.out hb)
 have HX6 := Aside0.mk (Zag HX5.out hb)
 have HM6 := Aside0.mk (HM5.out.below hb)
 obtain ⟨A1, c1, rfl, hc1, hr1⟩ := Kd.R_reads hR1
 obtain ⟨A2, c2, rfl⟩ := Kd.R_slice hR2
 have h2 : decide (totS X > most) = false := decide_eq_false (by have := HM.out; omega)
 have h3 : decide ((X.length : Int) > 240) = false := decide_eq_false (by omega)
 have h4 : decide ((Y.length : Int) > 240) = false := decide_eq_false (by omega)
 have HTt := Aside0.mk (fun p : Abv w6 => btotal_calls A1 c1 X p.out (Kd.C_below hr1 p.bel) hc1 hOb.p.may (by omega))
 have c0 := Zap (bcells (Zag HG.out HB6.out)).1
 clear hb hR1 hR2 hS1 hS2 hr1 hc1 hTX hOb HP5 HTw
 go_wp2_with (fail)
 refine Zav (by kernel_rfl) (by kernel_rfl) ?_
 repeat (refine WQ.step (fun K hK => ?_); go_simp; first | (refine hK _ ?_; clear hK K) | (apply Exists.intro; refine ⟨fun _ => ?_, hK _ ?_⟩; (go_at_call 62; exact abv_of (HTt.out _)); clear hK K))
 refine WQ.nil ?_
 rintro w7 ⟨⟨w7', hb7⟩, rfl⟩
 have HB7 := Aside0.mk (Zae HB6.out hb7)
 have HX7 := Aside0.mk (Zag HX6.out hb7)
 have HM7 := Aside0.mk (HM6.out.below hb7)
 have HG7 := Aside0.mk (Zag HG.out HB7.out)
 clear hb7 c0 HTt h2 h3 h4 HX6 HM6 HM5 HX5
 go_wp2_with (fail)
 have hx7 := show w7.drew.heap[w.heap.size]? = _ from HX7.out
 have hg7 := show w7.drew.heap[g]? = _ from HG7.out
 have p1 := (rcells hx7).2.1
 have q1 := (bcells hg7).2.1
 have fr := fun i => Zad hg7 i
 have q2s := fun v => (Zaa (show (w7.setCell ⟨g, 1, none⟩ v).drew.heap[g]? = _ from ZaG HG7.out 1 v) 2).trans (rfl : _ = some (Value.int .i64 0))
 have fr2 := fun v i => Zad (show (w7.setCell ⟨g, 1, none⟩ v).drew.heap[g]? = _ from ZaG HG7.out 1 v) i
 have hne : g ≠ w.heap.size := by have := Hgl.out; omega
 have P1 := Aside0.mk (show w7.cell? ⟨w.heap.size, 1, none⟩ = some (.int .i64 nb) from p1)
 clear hx7 hg7
 go_region_held3 (fun W => W.cell? ⟨w.heap.size, 1, none⟩ = some (.int .i64 nb)) ((simp only [Zd8, Zbu hne]; exact P1.out)) ((first | fail))
 clear p1 P1 fr fr2 q1 q2s
 have hgw := (Za1 w7 g 1 (.map (some b2))).trans (Za1 _ g 2 (.int .i64 nb))
 have hxw := ZaG (ZaG HG7.out 1 (.map (some b2))) 2 (.int .i64 nb)
 generalize (w7.setCell ⟨g, 1, none⟩ (.map (some b2))).setCell ⟨g, 2, none⟩ (.int .i64 nb) = wz at hgw hxw ⊢
 have hgz : w7.grownBy wz.drew (some g) := ⟨hgw.os, hgw.tape, hgw.output, hgw.size, hgw.block⟩
 have hx8 : wz.drew.heap[g]? = some (.cells #[.int .i64 most, .map (some b2), .int .i64 nb, .int .i64 0] 127 (0, 0)) := hxw
 generalize wz.drew = w8 at hgz hx8 ⊢
 have HX8 := Aside0.mk hx8
 have c3 := (bcells hx8).2.2.2
 have fz := Zad hx8 3
 have hgb : some b2 ≠ some g := by intro e; have := Option.some.inj e; have := Hgl.out; omega
 have HM8 := Aside0.mk (HM7.out.kept hgz hgb)
 have HG8 := Aside0.mk ((Zax HB7.out (some g)).andThen hgz fun j hj => .inr hj)
 clear hgw hxw hgz hx8
 go_wp2_with (fail)
 go_ret
 have hg9 := Za1 w8 g 3 (.int .i64 1)
 exact ⟨b2, rfl, ⟨ZaG HX8.out 3 (.int .i64 1), HM8.out.kept hg9 hgb⟩, HG8.out.andThen hg9 fun j hj => .inr hj⟩
theorem R_bs {α : Type} {k : Kd α} {e : Nat} {w w' : World} {base : Nat} {v : Value} {xs : List α} (h : k.R e w base (fun _ => True) v xs) (hb : BS base w w') (hE : ∀ q, q ∈ e :: k.E → q ≠ 135 ∧ q ≠ 5) : k.R e w' base (fun _ => True) v xs :=
 Kd.R_mono (Kd.R_move (Kd.R_bound h) (fun j hj => by
  obtain ⟨_, _, _, q, hq, cs, hc⟩ := hj
  rw [hb.kept j cs q (hE q hq).1 (hE q hq).2 hc, hc])) (fun _ _ => trivial)
theorem not135 : ∀ q, q ∈ 92 :: k92.E → q ≠ 135 ∧ q ≠ 5 := by
 intro q hq
 have : k92.E = [] := rfl
 rw [this] at hq
 simp at hq
 omega
theorem R_types92 {w : World} {base : Nat} {v : Value} {xs : List S92} (h : k92.R 92 w base (fun _ => True) v xs) (j : Nat) (hj : v.ownBlock = some j) : ∃ cs t, t ≠ 135 ∧ t ≠ 5 ∧ w.heap[j]? = some (Obj.cells cs t (0, 0)) := by
 obtain ⟨_, inner, ho, _⟩ := h
 obtain ⟨cs, hc⟩ := ZbW ho j hj
 exact ⟨cs, 92, by decide, by decide, hc⟩
structure Ob.Owns (o : Ob) (w : World) (base : Nat) : Prop where
 p : k92.R 92 w base (fun _ => True) (.slice o.pa (o.P.map part0).length o.pc) (o.P.map part0)
 c : k70.R 70 w base (fun _ => True) (.slice o.ca o.C.length o.cc) o.C
theorem Ob.Owns.reads {o : Ob} {w : World} {base : Nat} (h : o.Owns w base) : o.Reads w := by
 have h1 := Kd.R_reads' h.p
 have h2 := Kd.R_reads' h.c
 exact ⟨h1.2.2, h1.2.1, h2.2.2, h2.2.1⟩
theorem Ob.Owns.below {o : Ob} {w w' : World} {base : Nat} (h : o.Owns w base) (hb : Below w.heap.size w w') : o.Owns w' base := ⟨Kd.R_below h.p hb, Kd.R_below h.c hb⟩
theorem Ob.Owns.off {o : Ob} {w w' : World} {base g : Nat} (h : o.Owns w base) (hg : g < base) (hb : w.grownBy w' (some g)) : o.Owns w' base := ⟨R_offG h.p hg hb, R_offG h.c hg hb⟩
theorem Bld.lt {base b : Nat} {l : List UInt8} {w : World} (h : Bld base b l w) : b < w.heap.size := by
 obtain ⟨p, ⟨h1, v, h2, _⟩, _⟩ := h
 exact blk_lt h2
theorem set7 {w : World} {g : Nat} {t : TypeId} {z0 z1 z2 z3 z4 z5 z6 v0 v1 v2 v3 v4 v5 v6 : Value} (h : w.heap[g]? = some (.cells #[z0, z1, z2, z3, z4, z5, z6] t (0, 0))) :
  (w.setCells g 0 [v0, v1, v2, v3, v4, v5, v6]).heap[g]? = some (.cells #[v0, v1, v2, v3, v4, v5, v6] t (0, 0)) := by
 have h0 : (w.setCell ⟨g, 0, none⟩ v0).heap[g]? = some (.cells #[v0, z1, z2, z3, z4, z5, z6] t (0, 0)) := ZaG h 0 v0
 have h1 : ((w.setCell ⟨g, 0, none⟩ v0).setCell ⟨g, 1, none⟩ v1).heap[g]? = some (.cells #[v0, v1, z2, z3, z4, z5, z6] t (0, 0)) := ZaG h0 1 v1
 have h2 : (((w.setCell ⟨g, 0, none⟩ v0).setCell ⟨g, 1, none⟩ v1).setCell ⟨g, 2, none⟩ v2).heap[g]? = some (.cells #[v0, v1, v2, z3, z4, z5, z6] t (0, 0)) := ZaG h1 2 v2
 have h3 : ((((w.setCell ⟨g, 0, none⟩ v0).setCell ⟨g, 1, none⟩ v1).setCell ⟨g, 2, none⟩ v2).setCell ⟨g, 3, none⟩ v3).heap[g]? = some (.cells #[v0, v1, v2, v3, z4, z5, z6] t (0, 0)) := ZaG h2 3 v3
 have h4 : (((((w.setCell ⟨g, 0, none⟩ v0).setCell ⟨g, 1, none⟩ v1).setCell ⟨g, 2, none⟩ v2).setCell ⟨g, 3, none⟩ v3).setCell ⟨g, 4, none⟩ v4).heap[g]? = some (.cells #[v0, v1, v2, v3, v4, z5, z6] t (0, 0)) := ZaG h3 4 v4
 have h5 : ((((((w.setCell ⟨g, 0, none⟩ v0).setCell ⟨g, 1, none⟩ v1).setCell ⟨g, 2, none⟩ v2).setCell ⟨g, 3, none⟩ v3).setCell ⟨g, 4, none⟩ v4).setCell ⟨g, 5, none⟩ v5).heap[g]? = some (.cells #[v0, v1, v2, v3, v4, v5, z6] t (0, 0)) := ZaG h4 5 v5
 have h6 : (((((((w.setCell ⟨g, 0, none⟩ v0).setCell ⟨g, 1, none⟩ v1).setCell ⟨g, 2, none⟩ v2).setCell ⟨g, 3, none⟩ v3).setCell ⟨g, 4, none⟩ v4).setCell ⟨g, 5, none⟩ v5).setCell ⟨g, 6, none⟩ v6).heap[g]? = some (.cells #[v0, v1, v2, v3, v4, v5, v6] t (0, 0)) := ZaG h5 6 v6
 exact h6
theorem SetOf.get {T : Int → Option Bool} {c : Bool} {X : List S70} (h : SetOf T c X) {x : S70} (hx : x ∈ X) (i : Int) (h1 : x.f0 ≤ i) (h2 : i < endS x) : T i = some c :=
 (h.mem i).1 (List.any_eq_true.2 ⟨x, hx, Za0.2 ⟨h1, h2⟩⟩)
theorem bytes_append (l : List UInt8) (s : ByteArray) : (⟨(l ++ s.data.toList).toArray⟩ : ByteArray) = ⟨l.toArray⟩ ++ s := by
 apply ByteArray.ext
 simp
theorem app92n {ops : Array Oper} {o : Oper} {rest : List Oper} {a : Act} {Q : Exit → Act → World → Prop} {W : World} {base : Nat} (m : Nat) (hm : W.heap.size = m) (hg : o.guard = none) (s x : Operand)
  (ho : o.op = .call { callee := .builtin .append, args := #[s, x], argTypes := #[37, 37] }) (v : Value) (xs : List S92) (p : S92) (hs : a.eval s = v) (hx : a.eval x = .slice (some ⟨m, 0, none⟩) 1 1)
  (HO : k92.R 92 W base (fun _ => True) v xs) (hbase : base ≤ W.heap.size) (hl : xs.length ≤ 1000000)
  (h : ∀ v1 w1, k92.R 92 w1 base (fun _ => True) v1 (xs ++ [p]) → RowKit.Below base W w1 → W.grownBy w1 v.ownBlock → wpList Tryz.prog ops Q rest (a.put o.dst v1) w1) :
  wpList Tryz.prog ops Q (o :: rest) a (W.alloc (.cells #[.int .i64 p.f0.f0, .int .i64 p.f0.f1, .int .i64 p.f1.f0, .int .i64 p.f1.f1] 92)) := by
 subst hm
 exact app92 hg s x ho v xs p hs hx HO hbase hl h
set_option maxRecDepth 100000 in
set_option maxHeartbeats 16000000 in
theorem ZdL (π : Bp) (g b N : Nat) (most nb q : Int) (T : Int → Option Bool) (w : World) (hB : BAt π w g b N most nb 1 T) (hN : N ≤ 800000) (hq : 1 ≤ q ∧ q < 1099511627776) (hnb : 0 ≤ nb ∧ nb < 1099511627776)
  (hO : ∀ X Y, SetOf T true X → SetOf T false Y → ObjOk X Y) :
  Calls Tryz.prog 27 #[.pointer (some ⟨g, 0, none⟩), .int .u64 7, .int .i64 1, .int .i64 q] w fun e w' => ∃ o : Ob, e = .returned (.tuple #[o.val, .int .i64 0]) ∧ o.Owns w' w.heap.size ∧ o.Ok ∧
   (o.key = 7 ∧ o.epoch = 1 ∧ o.seq = q ∧ o.upto = nb ∧ π.p o.data ∧ SetOf T true o.P ∧ SetOf T false o.C) ∧ Below w.heap.size w w' := by
 have hu77 := Tryz.underlying77
 have hu43 := Tryz.underlying43
 have hu40 := Tryz.underlying40
 have hu127 := Tryz.underlying127
 have hu125 := Tryz.underlying125
 have hu131 := Tryz.underlying131
 have hu135 := Tryz.underlying135
 have hu38 := Tryz.underlying38
 have hu37 := Tryz.underlying37
 have hu70 := Tryz.underlying70
 have hu92 := Tryz.underlying92
 have hu9 := Tryz.underlying9
 have hu3 := Tryz.underlying3
 have hu30 := Tryz.underlying30
 obtain ⟨hG, hMp⟩ := hB
 have HG := Aside0.mk hG
 have HM := Aside0.mk hMp
 have HOb := Aside0.mk hO
 have ba := Zab (Below.refl _ w) (.cells #[.int .u64 0, .int .i64 0, .int .i64 0, .int .i64 0, .slice none 0 0, .slice none 0 0, .string ⟨#[]⟩] 40)
 have HZX := Aside0.mk (Zas w (.cells #[.int .u64 0, .int .i64 0, .int .i64 0, .int .i64 0, .slice none 0 0, .slice none 0 0, .string ⟨#[]⟩] 40))
 have HBA := Aside0.mk ba
 have HW0 := Aside0.mk (show (w.alloc (.cells #[.int .u64 0, .int .i64 0, .int .i64 0, .int .i64 0, .slice none 0 0, .slice none 0 0, .string ⟨#[]⟩] 40)).heap.size = w.heap.size + 1 by simp)
 have HP := Aside0.mk (Zdj π b N T _ (hMp.below ba) (by omega))
 obtain ⟨c0, c1, c2, c3⟩ := bcells (Zag hG ba)
 clear hG hMp hO ba
 go_enter Tryz.func27, Tryz.ntmps27
 go_wp2_with (fail)
 clear c0 c1 c2 c3
 generalize w.alloc (.cells #[.int .u64 0, .int .i64 0, .int .i64 0, .int .i64 0, .slice none 0 0, .slice none 0 0, .string ⟨#[]⟩] 40) = W0 at HZX HBA HW0 HP ⊢
 refine HP.out.mono ?_
 rintro e w1 ⟨v1, X, v2, Y, rfl, hR1, hR2, hS1, hS2, hb⟩
 obtain ⟨A1, c1, rfl, hc1, hr1⟩ := Kd.R_reads hR1
 obtain ⟨A2, c2, rfl, hc2, hr2⟩ := Kd.R_reads hR2
 have HB1 := Aside0.mk (Zae HBA.out hb)
 have HZ1 := Aside0.mk (Zag HZX.out hb)
 have HX := Aside0.mk hr1
 have HS1 := Aside0.mk hS1
 have HS2 := Aside0.mk hS2
 have HOk := Aside0.mk (HOb.out X Y hS1 hS2)
 have HRY := Aside0.mk hR2
 have Hc2 := Aside0.mk hc2
 have c4 := (bcells (Zag HG.out HB1.out)).2.2.1
 clear hb hR1 hR2 hr1 hr2 hS1 hS2 HP HOb hc2 HZX
 go_wp2_with (fail)
 clear c4
 have hgo := Zas w1 (.cells #[.int .u64 7, .int .i64 1, .int .i64 q, .int .i64 nb, .slice none 0 0, .slice A2 Y.length c2, .string ⟨#[]⟩] 40)
 have hb2 := Zab (Below.refl _ w1) (.cells #[.int .u64 7, .int .i64 1, .int .i64 q, .int .i64 nb, .slice none 0 0, .slice A2 Y.length c2, .string ⟨#[]⟩] 40)
 have hs2 : (w1.alloc (.cells #[.int .u64 7, .int .i64 1, .int .i64 q, .int .i64 nb, .slice none 0 0, .slice A2 Y.length c2, .string ⟨#[]⟩] 40)).heap.size = w1.heap.size + 1 := by simp
 generalize w1.alloc (.cells #[.int .u64 7, .int .i64 1, .int .i64 q, .int .i64 nb, .slice none 0 0, .slice A2 Y.length c2, .string ⟨#[]⟩] 40) = w2 at hgo hb2 hs2 ⊢
 have hgb := Bld.new (w1.heap.size + 1) w2 (by omega)
 have hb3 := Zab (Below.refl _ w2) (.cells #[.pointer none, .slice none 0 0] 135)
 rw [hs2] at hgb
 have hs3 : (w2.alloc (.cells #[.pointer none, .slice none 0 0] 135)).heap.size = w1.heap.size + 2 := by simp [hs2]
 have HGO := Aside0.mk (Zag hgo hb3)
 have HB3 := Aside0.mk (Zae hb2 hb3)
 generalize w2.alloc (.cells #[.pointer none, .slice none 0 0] 135) = w3 at hgb HGO HB3 hs3 ⊢
 have HBl := Aside0.mk hgb
 have HZ3 := Aside0.mk (show w.heap.size < w1.heap.size from blk_lt HZ1.out)
 have Hgl := Aside0.mk (show g < w1.heap.size from blk_lt (Zag HG.out HB1.out))
 obtain ⟨go, hgoe⟩ : ∃ go, w1.heap.size = go := ⟨_, rfl⟩
 rw [hgoe] at HBl HGO hs3 ⊢
 clear hgo hb2 hs2 hgb hb3
 have HS3 := Aside0.mk hs3
 have hle := HOk.out.lens
 clear hs3
 go_loopg [48] X.length (fun kx v48 wr => ∃ (i : Nat) (Ap : Option Addr) (cp : Nat) (l : List UInt8), v48 = .int .i64 (i : Int) ∧ i ≤ X.length ∧ X.length - i ≤ kx ∧ Aside0 (Below w1.heap.size w1 wr) ∧ Aside0 (wr.heap[go]? = some (.cells #[.int .u64 7, .int .i64 1, .int .i64 q, .int .i64 nb, .slice Ap i cp, .slice A2 Y.length c2, .string ⟨#[]⟩] 40)) ∧
  Aside0 (k92.R 92 wr (go + 1) (fun _ => True) (.slice Ap i cp) ((X.take i).map part0)) ∧ Aside0 (Bld (go + 1) (go + 1) l wr) ∧ Aside0 ((l.length : Int) = 64 * totS (X.take i)) ∧ Aside0 (π.p ⟨l.toArray⟩))
 case atStart => exact ⟨0, none, 0, [], rfl, Nat.zero_le _, by omega, HB3, HGO, ⟨Kd.R_nil _ _ _ _ _⟩, HBl, ⟨by simp [totS]⟩, ⟨π.nil⟩⟩
 case round =>
  obtain ⟨i, Ap, cp, l, rfl, hi, hik, HB, HGo, HR, HBd, HLl, HPl⟩ := hrel
  by_cases hlt : i < X.length
  ·have hi1 : i + 1 ≤ X.length := hlt
   obtain ⟨ad, rfl, y0, y1⟩ := cells70 (Kd.C_below HX.out HB.out) i hlt
   have hmay := HOk.out.p.may X[i] (List.getElem_mem hlt)
   have hend := HOk.out.p.ends X[i] (List.getElem_mem hlt)
   have HTg := Aside0.mk (fun k => HS1.out.get (List.getElem_mem hlt) k)
   have HTk := Aside0.mk (totS_take X i hlt)
   have HTl := Aside0.mk (show totS (X.take (i + 1)) ≤ totS X by
    have h1 := ZbM (X.take (i + 1)) (X.drop (i + 1))
    rw [List.take_append_drop] at h1
    have h2 := Zbg (S := X.drop (i + 1)) (fun x hx => HOk.out.p.may x (List.mem_of_mem_drop hx))
    omega)
   have HSn := Aside0.mk (show (X.take i).map part0 ++ [part0 X[i]] = (X.take (i + 1)).map part0 by rw [← ZaM hlt, List.map_append]; rfl)
   have hxl : ((X.take i).map part0).length = i := by rw [List.length_map, List.length_take]; omega
   have HXl := Aside0.mk hxl
   have hln : ((X.take i).map part0).length ≤ 1000000 := by omega
   have Hg1 := Aside0.mk (show go < wr.heap.size from blk_lt HGo.out)
   have Hgb := Aside0.mk (show go + 1 < wr.heap.size from HBd.out.lt)
   clear hxl
   as_aux_lemma =>
    generalize X[i] = x at y0 y1 hmay hend HTk HTg HSn
    generalize (X.take i).map part0 = F at HR HSn HXl hln
    obtain ⟨x0, x1⟩ := x
    obtain ⟨m1, m2, m3⟩ := hmay
    simp only [endS] at y0 y1 hend m1 m2 m3 HTg
    have ba := Zab (Below.refl _ wr) (.cells #[.int .i64 x0, .int .i64 x1] 70)
    have hsb := Zas wr (.cells #[.int .i64 x0, .int .i64 x1] 70)
    have hsz : (wr.alloc (.cells #[.int .i64 x0, .int .i64 x1] 70)).heap.size = wr.heap.size + 1 := by simp
    have HSB := Aside0.mk hsb
    have HB2 := Aside0.mk (Zae HB.out ba)
    have HGo2 := Aside0.mk (Zag HGo.out ba)
    have HR2 := Aside0.mk (Kd.R_below HR.out ba)
    have HBd2 := Aside0.mk (HBd.out.bs ba)
    have s0 := (Zaa hsb 0).trans (rfl : _ = some (Value.int .i64 x0))
    have s1 := (Zaa hsb 1).trans (rfl : _ = some (Value.int .i64 x1))
    have g4 := (Zaa HGo2.out 4).trans (rfl : _ = some (Value.slice Ap i cp))
    have hE := fun W => ZaN x0 x1 ⟨m1, m2, m3⟩ W
    have HSZ := Aside0.mk hsz
    have HBS := Aside0.mk (show go + 1 ≤ (wr.alloc (.cells #[.int .i64 x0, .int .i64 x1] 70)).heap.size by rw [hsz]; have := Hgb.out; omega)
    have hne : go ≠ wr.heap.size := by have := Hg1.out; omega
    clear ba hsb hsz HR HGo HBd HB
    go_wp2_with (at_builtin; refine app92n _ HSZ.out rfl _ _ rfl _ F ⟨⟨x0, x1⟩, ⟨0, 0⟩⟩ rfl rfl HR2.out HBS.out hln ?_; intro v4 w4 hR4 hb4 hg4; have hl4 : (F ++ [(⟨⟨x0, x1⟩, ⟨0, 0⟩⟩ : S92)]).length = i + 1 := (by rw [List.length_append, HXl.out]; rfl); obtain ⟨A4, c4, rfl⟩ := Kd.R_slice hR4; rw [hl4] at hR4 ⊢; have HR4 := Aside0.mk hR4; have HBb4 := Aside0.mk hb4; have HG4 := Aside0.mk hg4; have hgo4 := (hb4.block go (Nat.lt_succ_self go)).trans HGo2.out; have HGo4 := Aside0.mk hgo4; have d4 := (Zaa hgo4 4).trans (rfl : _ = some (Value.slice Ap i cp)); have fz4 := Zad hgo4 4; have hsb4 := Zay HSB.out hg4 (Kd.R_ne HR2.out HSB.out (by decide)); have HSB4 := Aside0.mk hsb4; have s0' := (Zbu hne 4 0 (.slice A4 (i + 1) c4)).trans ((Zaa hsb4 0).trans (rfl : _ = some (Value.int .i64 x0))); clear hR4 hb4 hg4 hl4 hgo4 hsb4 s0 s1 g4 y0 y1)
    have hx5 := ZaG HGo4.out 4 (.slice A4 (i + 1) c4)
    have hg5 := Za1 w4 go 4 (.slice A4 (i + 1) c4)
    have hgo1 : w1.heap.size ≤ go := by omega
    have HB5 := Aside0.mk ((HB2.out.trans (HBb4.out.mono (show w1.heap.size ≤ go + 1 by omega))).grown hg5 (HB2.out.trans (HBb4.out.mono (show w1.heap.size ≤ go + 1 by omega))).size (fun j hj => by obtain rfl := Option.some.inj hj; exact hgo1))
    have HR5 := Aside0.mk (R_offG HR4.out (Nat.lt_succ_self go) hg5)
    have HBd5 := Aside0.mk ((HBd2.out.far HG4.out (R_types92 HR2.out)).far hg5 (fun k e => by obtain rfl := Option.some.inj e; exact ⟨_, 40, by decide, by decide, HGo4.out⟩))
    have HSB5 := Aside0.mk (Zay HSB4.out hg5 (by intro e; exact hne (Option.some.inj e).symm))
    have HGo5 : Aside0 ((w4.setCell ⟨go, 4, none⟩ (.slice A4 (i + 1) c4)).heap[go]? = some (.cells #[.int .u64 7, .int .i64 1, .int .i64 q, .int .i64 nb, .slice A4 (i + 1) c4, .slice A2 Y.length c2, .string ⟨#[]⟩] 40 (0, 0))) := ⟨hx5⟩
    have HBS5 := Aside0.mk (show go + 1 ≤ (w4.setCell ⟨go, 4, none⟩ (.slice A4 (i + 1) c4)).heap.size from Nat.le_trans (Nat.le_trans HBS.out HBb4.out.size) hg5.size)
    clear hx5 hg5 s0' d4 fz4 HR4 HGo4 HSB4 HR2 HGo2 HSB HBd2
    generalize w4.setCell ⟨go, 4, none⟩ (.slice A4 (i + 1) c4) = w5 at HB5 HR5 HBd5 HSB5 HGo5 HBS5 ⊢
    obtain ⟨sb, hsbe⟩ : ∃ sb, wr.heap.size = sb := ⟨_, rfl⟩
    rw [hsbe] at HSB5 Hg1 Hgb hne ⊢
    obtain ⟨gq, hgq⟩ : ∃ gq, gq = gk := ⟨_, rfl⟩
    subst hgq
    go_loopg [16] x1.toNat (fun ky v16 wq => ∃ (j : Nat) (l' : List UInt8), v16 = .int .i64 (x0 + (j : Int)) ∧ (j : Int) ≤ x1 ∧ x1.toNat - j ≤ ky ∧ Aside0 (BS (go + 1) w5 wq) ∧ Aside0 (Bld (go + 1) (go + 1) l' wq) ∧ Aside0 ((l'.length : Int) = 64 * totS (X.take i) + 64 * (j : Int)) ∧ Aside0 (π.p ⟨l'.toArray⟩))
    case atStart => exact ⟨0, l, by simp, by omega, by omega, ⟨BS.of_below (Below.refl _ _) HBS5.out⟩, HBd5, ⟨by have := HLl.out; omega⟩, HPl⟩
    case round =>
     obtain ⟨j, l', rfl, hj, hjk, HBq, HBdq, HLq, HPq⟩ := hrel
     have HSBq := Aside0.mk (HBq.out.kept sb _ 70 (by decide) (by decide) HSB5.out)
     have t0 := (Zaa HSBq.out 0).trans (rfl : _ = some (Value.int .i64 x0))
     have t1 := (Zaa HSBq.out 1).trans (rfl : _ = some (Value.int .i64 x1))
     have HBw := Aside0.mk (HB5.out.trans (HBq.out.bel.mono (show w1.heap.size ≤ go + 1 by omega)))
     have HBSq := Aside0.mk (Nat.le_trans HBS5.out HBq.out.bel.size)
     have HTT := Aside0.mk (show 64 * totS (X.take i) + 64 * x1 ≤ 800 by have := HTk.out; have := HTl.out; have := hle.2.2.2; omega)
     by_cases hjl : (j : Int) < x1
     ·as_aux_lemma =>
       go_wp2_with (fail)
       refine (hE _).mono ?_
       rintro e w6 ⟨rfl, hb6⟩
       have HB6 := Aside0.mk (Zae HBw.out hb6)
       have HBd6 := Aside0.mk (HBdq.out.bs hb6)
       have HBS6 := Aside0.mk (HBq.out.trans (BS.of_below hb6 HBSq.out))
       have HZ6 := Aside0.mk (Nat.le_trans HBSq.out hb6.size)
       have hM6 := HM.out.below (Zae HB1.out HB6.out)
       obtain ⟨s, hs, hlk⟩ := hM6.look (HTg.out (x0 + (j : Int)) (by omega) (by omega))
       have g1 := (bcells (Zag HG.out (Zae HB1.out HB6.out))).2.1
       have hs64 : s.size = 64 := hs.1
       have HW := Aside0.mk (Zeh (go + 1) (go + 1) l' s w6 HBd6.out (by have := HLq.out; have := HTT.out; omega) HZ6.out)
       have HPs := Aside0.mk hs.2
       have HS64 := Aside0.mk hs64
       clear hb6 t0 t1 hM6 hs hs64
       go_wp2_with (fail)
       refine HW.out.mono ?_
       rintro e w7 ⟨⟨v7, rfl⟩, hbd7, hbs7⟩
       clear hlk g1
       go_wp2_with (fail)
       go_roundg (gk - 1)
       case measure => omega
       case rel =>
        refine ⟨j + 1, l' ++ s.data.toList, by go_num, by omega, by omega, ⟨HBS6.out.trans hbs7⟩, ⟨hbd7⟩, ⟨?_⟩, ⟨by rw [bytes_append]; exact π.app _ _ HPq.out HPs.out⟩⟩
        have h1 := HLq.out
        have h2 : s.data.toList.length = 64 := HS64.out
        rw [List.length_append, h2]
        omega
     ·have hjl2 : (j : Int) = x1 := by omega
      have HR6 := Aside0.mk (R_bs HR5.out HBq.out not135)
      have HGo6 := Aside0.mk (HBq.out.kept go _ 40 (by decide) (by decide) HGo5.out)
      as_aux_lemma =>
       go_wp2_with (fail)
       refine (hE _).mono ?_
       rintro e w6 ⟨rfl, hb6⟩
       have HB6 := Aside0.mk (Zae HBw.out hb6)
       have HBd6 := Aside0.mk (HBdq.out.bs hb6)
       have HR7 := Aside0.mk (Kd.R_below HR6.out hb6)
       have HGo7 := Aside0.mk (Zag HGo6.out hb6)
       clear hb6 t0 t1
       go_wp2_with (fail)
       go_roundg (gq - 1)
       case measure => omega
       case rel =>
        refine ⟨i + 1, A4, c4, l', by go_num, hi1, by omega, HB6, HGo7, ⟨by rw [← HSn.out]; exact HR7.out⟩, HBd6, ⟨?_⟩, HPq⟩
        have h1 := HLq.out
        have h2 := HTk.out
        omega
  ·have hil : i = X.length := by omega
   subst hil
   have hr0 := HR.out
   have hl0 := HLl.out
   rw [List.take_length] at hr0 hl0
   have HR0 := Aside0.mk hr0
   have HL0 := Aside0.mk hl0
   have HBS0 := Aside0.mk (show go + 1 ≤ wr.heap.size by have := HBd.out.lt; omega)
   have hgo1 : w1.heap.size ≤ go := by omega
   clear hr0 hl0 HR HLl
   as_aux_lemma =>
    go_wp2_with (fail)
    refine (strB_calls (go + 1) (go + 1) l wr HBd.out HBS0.out).mono ?_
    rintro e w4 ⟨rfl, hbs⟩
    have HGo4 := Aside0.mk (hbs.kept go _ 40 (by decide) (by decide) HGo.out)
    have HR4 := Aside0.mk (R_bs HR0.out hbs not135)
    have HB4 := Aside0.mk (HB.out.trans (hbs.bel.mono (show w1.heap.size ≤ go + 1 by omega)))
    have d6 := (Zaa HGo4.out 6).trans (rfl : _ = some (Value.string ⟨#[]⟩))
    have fz := Zad HGo4.out 6
    have hx5 : (w4.setCell ⟨go, 6, none⟩ (.string ⟨l.toArray⟩)).heap[go]? = some (.cells #[.int .u64 7, .int .i64 1, .int .i64 q, .int .i64 nb, .slice Ap X.length cp, .slice A2 Y.length c2, .string ⟨l.toArray⟩] 40 (0, 0)) := ZaG HGo4.out 6 (.string ⟨l.toArray⟩)
    have hg5 := Za1 w4 go 6 (.string ⟨l.toArray⟩)
    have HX5 := Aside0.mk hx5
    have HB5 := Aside0.mk (HB4.out.grown hg5 HB4.out.size (fun j hj => by obtain rfl := Option.some.inj hj; exact hgo1))
    have HR5 := Aside0.mk (R_offG HR4.out (Nat.lt_succ_self go) hg5)
    obtain ⟨p0, p1, p2, p3, p4, p5, p6⟩ := ocells hx5
    clear hbs hx5 hg5
    go_wp2_with (fail)
    clear p0 p1 p2 p3 p4 p5 p6 d6 fz
    generalize w4.setCell ⟨go, 6, none⟩ (.string ⟨l.toArray⟩) = w5 at HX5 HB5 HR5 ⊢
    have HOo : Aside0 ((⟨7, 1, q, nb, Ap, cp, X, A2, c2, Y, ⟨l.toArray⟩⟩ : Ob).Ok) := ⟨⟨HOk.out, (show (0 : Int) ≤ 7 ∧ (7 : Int) ≤ 18446744073709551615 by omega), (show (1 : Int) ≤ 1 ∧ (1 : Int) < 1099511627776 by omega), hq, hnb, by
     have h1 := HL0.out
     show ((l.toArray.size : Nat) : Int) = 64 * totS X
     rw [List.size_toArray]
     exact h1⟩⟩
    have HRd : Aside0 (∀ W, Below w5.heap.size w5 W → (⟨7, 1, q, nb, Ap, cp, X, A2, c2, Y, ⟨l.toArray⟩⟩ : Ob).Reads W) := ⟨fun W hb => by
     have h1 := Kd.R_reads' (Kd.R_below HR5.out hb)
     have h2 := Kd.R_reads' (Kd.R_below HRY.out (Zae HB5.out hb))
     exact ⟨h1.2.2, by rw [← h1.1]; exact h1.2.1, h2.2.2, h2.2.1⟩⟩
    have hck := Zch (⟨7, 1, q, nb, Ap, cp, X, A2, c2, Y, ⟨l.toArray⟩⟩ : Ob) w5 (HRd.out w5 (Below.refl _ _)) HOo.out
    unfold Ob.val at hck
    simp only [List.length_map] at hck
    refine hck.mono ?_
    rintro e w6 ⟨rfl, hb6⟩
    have HB6 := Aside0.mk (Zae HB5.out hb6)
    have HR6 := Aside0.mk (Kd.R_below HR5.out hb6)
    have HZ6 := Aside0.mk (Zag HZ1.out HB6.out)
    have HY6 := Aside0.mk (Kd.R_below HRY.out HB6.out)
    obtain ⟨p0, p1, p2, p3, p4, p5, p6⟩ := ocells (Zag HX5.out hb6)
    clear hck hb6
    go_wp2_with ((with_reducible refine gate_ (.store 40 (.tmp 8) (.tmp 83)) rfl ?_); refine ZaX 40 (.tmp 8) (.tmp 83) rfl rfl rfl (.agg #[.int .u64 7, .int .i64 1, .int .i64 q, .int .i64 nb, .slice Ap X.length cp, .slice A2 Y.length c2, .string ⟨l.toArray⟩]) [.int .u64 7, .int .i64 1, .int .i64 q, .int .i64 nb, .slice Ap X.length cp, .slice A2 Y.length c2, .string ⟨l.toArray⟩] rfl rfl rfl (by kernel_rfl) HZ6.out (Nat.le_refl 7) (by intro q hq; simp only [List.mem_cons, List.not_mem_nil, or_false] at hq; rcases hq with rfl | rfl | rfl | rfl | rfl | rfl | rfl <;> rfl) ?_; have hz7 := set7 (v0 := .int .u64 7) (v1 := .int .i64 1) (v2 := .int .i64 q) (v3 := .int .i64 nb) (v4 := .slice Ap X.length cp) (v5 := .slice A2 Y.length c2) (v6 := .string ⟨l.toArray⟩) HZ6.out; have hgx := ZaJ (w.heap.size) [.int .u64 7, .int .i64 1, .int .i64 q, .int .i64 nb, .slice Ap X.length cp, .slice A2 Y.length c2, .string ⟨l.toArray⟩] 0 w6; have HZ7 := Aside0.mk hz7; have HGX := Aside0.mk hgx; clear hz7 hgx; generalize w6.setCells w.heap.size 0 [.int .u64 7, .int .i64 1, .int .i64 q, .int .i64 nb, .slice Ap X.length cp, .slice A2 Y.length c2, .string ⟨l.toArray⟩] = w7 at HZ7 HGX ⊢)
    (try simp only [Exit.inBlock, Exit.then])
    refine bodyPost_ret (Zc1 rfl _ _ _ _ _ _ _ rfl HZ7.out hu40 rfl (by kernel_rfl)) rfl ?_
    have h1 := Kd.R_lower (R_offG HR6.out (show w.heap.size < go + 1 by have := HZ3.out; omega) HGX.out) (show w.heap.size ≤ go + 1 by have := HZ3.out; omega)
    have h2 := Kd.R_lower (R_offG HY6.out (show w.heap.size < W0.heap.size by have := HW0.out; omega) HGX.out) (show w.heap.size ≤ W0.heap.size by have := HW0.out; omega)
    refine ⟨⟨7, 1, q, nb, Ap, cp, X, A2, c2, Y, ⟨l.toArray⟩⟩, ?_, ⟨by rw [List.length_map]; exact h1, h2⟩, HOo.out, ⟨rfl, rfl, rfl, rfl, HPl.out, HS1.out, HS2.out⟩, (Zae HB1.out HB6.out).grown HGX.out (Zae HB1.out HB6.out).size (fun j hj => by obtain rfl := Option.some.inj hj; exact Nat.le_refl _)⟩
    unfold Ob.val
    simp only [List.length_map]
    rfl
end Go.Proofs.YtpfnaknmalojkaaGreat.PTopRows
