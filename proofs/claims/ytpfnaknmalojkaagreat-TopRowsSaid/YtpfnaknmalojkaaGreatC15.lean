/- YtpfnaknmalojkaaGreatC15: what this claim rests on. Words and contracts are those of the kit's print (print.sh wrote them, those that nothing here reaches are left out); all else is own work. Conditions: what each theorem says. -/
import Derived.Test.YtpfnaknmalojkaaGreatC14
import Derived.Deep.OwnRows
import Derived.Deep.RegionHeld3
namespace Go.Proofs.YtpfnaknmalojkaaGreat.PTopRows
open Go.RowKit Go.Maps Go.Sort Go.Proofs.YtpfnaknmalojkaaGreatW.PrintWords Go.Proofs.YtpfnaknmalojkaaGreatW.PrintLast Go.Proofs.YtpfnaknmalojkaaGreatW.PrintMore
set_option linter.unusedVariables false
set_option linter.unusedSimpArgs false
structure Lv (w : World) (base gl n i : Nat) (G sz : Nat → Nat) (M : Nat → Nat → Bool) : Prop where
 top : w.rowIs gl 116 n (fun k => if k < i then .slice (some ⟨G k, 0, none⟩) (sz k) (sz k) else .slice none 0 0)
 row : ∀ k, k < i → w.rowIs (G k) 4 (sz k) (fun j => .bool (M k j))
 inj : ∀ k k', k < i → k' < i → G k = G k' → k = k'
 base : base ≤ gl ∧ ∀ k, k < i → base ≤ G k
theorem Lv.move {w w' : World} {base gl n i : Nat} {G sz : Nat → Nat} {M : Nat → Nat → Bool} (h : Lv w base gl n i G sz M) (hm : ∀ (b : Nat) (cs : Array Value) (t : Nat), t = 116 ∨ t = 4 → w.heap[b]? = some (Obj.cells cs t (0, 0)) → w'.heap[b]? = w.heap[b]?) : Lv w' base gl n i G sz M := by
 refine ⟨h.top.of_block ?_, fun k hk => (h.row k hk).of_block ?_, h.inj, h.base⟩
 ·obtain ⟨c, hb, _⟩ := h.top
  exact hm _ _ _ (.inl rfl) hb
 ·obtain ⟨c, hb, _⟩ := h.row k hk
  exact hm _ _ _ (.inr rfl) hb
theorem Lv.below {w w' : World} {base gl n i : Nat} {G sz : Nat → Nat} {M : Nat → Nat → Bool} (h : Lv w base gl n i G sz M) (hb : Below w.heap.size w w') : Lv w' base gl n i G sz M :=
 h.move fun b cs t _ hc => hb.block b (blk_lt hc)
theorem Lv.made (w : World) (base n : Nat) (G sz : Nat → Nat) (M : Nat → Nat → Bool) (hb : base ≤ w.heap.size) : Lv (w.alloc (.cells (madeCells #[.slice none 0 0] n) 116)) base w.heap.size n 0 G sz M :=
 ⟨(World.rowIs_made w (.slice none 0 0) n 116).congr fun k _ => by rw [if_neg (Nat.not_lt_zero _)], fun k hk => absurd hk (Nat.not_lt_zero _), fun k _ hk => absurd hk (Nat.not_lt_zero _), hb, fun k hk => absurd hk (Nat.not_lt_zero _)⟩
theorem Lv.push {w : World} {base gl n i : Nat} {G sz : Nat → Nat} (h : Lv w base gl n i G sz (fun _ _ => false)) (hb : base ≤ w.heap.size) :
  Lv ((w.alloc (.cells (madeCells #[.bool false] (sz i)) 4)).setCell ⟨gl, i, none⟩ (.slice (some ⟨w.heap.size, 0, none⟩) (sz i) (sz i))) base gl n (i + 1) (fun k => if k = i then w.heap.size else G k) sz (fun _ _ => false) := by
 have hlt : ∀ k, k < i → G k < w.heap.size := fun k hk => (h.row k hk).lt
 refine ⟨?_, fun k hk => ?_, fun k k' hk hk' e => ?_, h.base.1, fun k hk => ?_⟩
 ·refine ((h.top.alloc _).set i _).congr fun k hk => ?_
  by_cases e : k = i
  ·subst e
   rw [if_pos rfl, if_pos (by omega)]
   simp
  ·rw [if_neg e]
   by_cases h2 : k < i
   ·rw [if_pos h2, if_pos (by omega)]
    simp [e]
   ·rw [if_neg h2, if_neg (by omega)]
 ·by_cases e : k = i
  ·subst e
   simp only [if_true]
   exact (World.rowIs_made w (.bool false) (sz k) 4).setOther (show w.heap.size ≠ gl by have := h.top.lt; omega) _
  ·simp only [if_neg e]
   refine ((h.row k (by omega)).alloc _).setOther (show G k ≠ gl from fun e2 => ?_) _
   obtain ⟨c, hb1, _⟩ := h.row k (by omega)
   obtain ⟨c', hb2, _⟩ := h.top
   rw [e2, hb2] at hb1
   injection hb1 with hb1
   injection hb1 with _ ht _
   exact absurd ht (by decide)
 ·by_cases e1 : k = i
  ·by_cases e2 : k' = i
   ·omega
   ·rw [if_pos e1, if_neg e2] at e
    have := hlt k' (by omega)
    omega
  ·by_cases e2 : k' = i
   ·rw [if_neg e1, if_pos e2] at e
    have := hlt k (by omega)
    omega
   ·rw [if_neg e1, if_neg e2] at e
    exact h.inj k k' (by omega) (by omega) e
 ·by_cases e1 : k = i
  ·rw [if_pos e1]; exact hb
  ·rw [if_neg e1]; exact h.base.2 k (by omega)
theorem Lv.mark {w : World} {base gl n i : Nat} {G sz : Nat → Nat} {M : Nat → Nat → Bool} (h : Lv w base gl n i G sz M) {k : Nat} (hk : k < i) (j : Nat) :
  Lv (w.setCell ⟨G k, j, none⟩ (.bool true)) base gl n i G sz (fun k' j' => if k' = k ∧ j' = j then true else M k' j') := by
 have hne : gl ≠ G k := fun e => by
  obtain ⟨c, hb1, _⟩ := h.row k hk
  obtain ⟨c', hb2, _⟩ := h.top
  rw [← e, hb2] at hb1
  injection hb1 with hb1
  injection hb1 with _ ht _
  exact absurd ht (by decide)
 refine ⟨h.top.setOther hne _, fun k' hk' => ?_, h.inj, h.base⟩
 by_cases e : k' = k
 ·subst e
  refine ((h.row k' hk').set j _).congr fun j' _ => ?_
  by_cases e2 : j' = j
  ·simp [e2]
  ·simp [e2]
 ·refine ((h.row k' hk').setOther (show G k' ≠ G k from fun e2 => e (h.inj k' k hk' hk e2)) _).congr fun j' _ => ?_
  simp [e]
theorem Lv.congr {w : World} {base gl n i : Nat} {G sz : Nat → Nat} {M M' : Nat → Nat → Bool} (h : Lv w base gl n i G sz M) (e : ∀ k j, M k j = M' k j) : Lv w base gl n i G sz M' := by
 have : M = M' := funext fun k => funext fun j => e k j
 rw [← this]; exact h
theorem marked_snoc (q : Int) (l : List S86) (x : S86) (k : Int) : marked q (l ++ [x]) k = (marked q l k || (decide (x.f1.f0 = q) && (decide (x.f1.f1 ≤ k) && decide (k < x.f1.f1 + x.f0.f1)))) := by
 unfold marked
 rw [List.any_append, List.any_cons, List.any_nil, Bool.or_false]
def use0 (ns : List Int) : List S54 := ns.mapIdx fun j n => ⟨(j : Int) + 1, n, 0⟩
def useOf (L : List S86) (ns : List Int) : List S54 := ns.mapIdx fun j n => ⟨(j : Int) + 1, n, lenQ ((j : Int) + 1) L⟩
def outL (L : List S86) (ns : List Int) (i : Nat) (c : Int) : List S54 := ns.mapIdx fun j n => ⟨(j : Int) + 1, n, if j < i then lenQ ((j : Int) + 1) L else if j = i then c else 0⟩
theorem ZbF (ns : List Int) : (use0 ns).length = ns.length := List.length_mapIdx
theorem Zbd (L : List S86) (ns : List Int) (i : Nat) (c : Int) : (outL L ns i c).length = ns.length := List.length_mapIdx
theorem Zci (ns : List Int) (j : Nat) (h : j < ns.length) : (use0 ns)[j]'(by rw [ZbF]; exact h) = ⟨(j : Int) + 1, ns[j], 0⟩ := by
 unfold use0
 rw [List.getElem_mapIdx]
theorem ZbS (L : List S86) (ns : List Int) (i : Nat) (c : Int) (j : Nat) (h : j < ns.length) : (outL L ns i c)[j]'(by rw [Zbd]; exact h) = ⟨(j : Int) + 1, ns[j], if j < i then lenQ ((j : Int) + 1) L else if j = i then c else 0⟩ := by
 unfold outL
 rw [List.getElem_mapIdx]
theorem Zcb (L : List S86) (ns : List Int) : (useOf L ns).length = ns.length := List.length_mapIdx
theorem useOf_get (L : List S86) (ns : List Int) (j : Nat) (h : j < ns.length) : (useOf L ns)[j]'(by rw [Zcb]; exact h) = ⟨(j : Int) + 1, ns[j], lenQ ((j : Int) + 1) L⟩ := by
 unfold useOf
 rw [List.getElem_mapIdx]
theorem outL_set (L : List S86) (ns : List Int) (i : Nat) (c c' : Int) (h : i < ns.length) : (outL L ns i c).set i ⟨(i : Int) + 1, ns[i], c'⟩ = outL L ns i c' := by
 refine List.ext_getElem (by rw [List.length_set, Zbd, Zbd]) fun j h1 h2 => ?_
 have hj : j < ns.length := by rw [Zbd] at h2; exact h2
 rw [List.getElem_set, ZbS L ns i c' j hj]
 by_cases e : i = j
 ·subst e
  rw [if_pos rfl, if_neg (by omega), if_pos rfl]
 ·rw [if_neg e, ZbS L ns i c j hj]
  simp only [if_neg (show ¬ j = i from fun h => e h.symm)]
theorem outL_next (L : List S86) (ns : List Int) (i : Nat) : outL L ns i (lenQ ((i : Int) + 1) L) = outL L ns (i + 1) 0 := by
 refine List.ext_getElem (by rw [Zbd, Zbd]) fun j h1 h2 => ?_
 have hj : j < ns.length := by rw [Zbd] at h2; exact h2
 rw [ZbS _ _ _ _ j hj, ZbS _ _ _ _ j hj]
 by_cases h : j < i
 ·rw [if_pos h, if_pos (by omega)]
 ·by_cases e : j = i
  ·subst e
   rw [if_neg h, if_pos rfl, if_pos (by omega)]
  ·rw [if_neg h, if_neg e, if_neg (by omega)]
   split <;> rfl
theorem outL_zero (L : List S86) (ns : List Int) : outL L ns 0 0 = use0 ns := by
 refine List.ext_getElem (by rw [Zbd, ZbF]) fun j h1 h2 => ?_
 have hj : j < ns.length := by rw [ZbF] at h2; exact h2
 rw [ZbS _ _ _ _ j hj, Zci _ j hj, if_neg (by omega)]
 split <;> rfl
theorem outL_all (L : List S86) (ns : List Int) : outL L ns ns.length 0 = useOf L ns := by
 refine List.ext_getElem (by rw [Zbd, Zcb]) fun j h1 h2 => ?_
 have hj : j < ns.length := by rw [Zbd] at h1; exact h1
 rw [ZbS _ _ _ _ j hj, if_pos hj, useOf_get _ _ j hj]
theorem sizes_of {ns : List Int} {L : List S86} (h : Ivt ns L) (hl : ns.length ≤ 12) : Sizes (use0 ns) :=
 ⟨by rw [ZbF]; exact hl, fun i hi => by rw [Zci _ _ (by rw [ZbF] at hi; exact hi)], fun i hi => by rw [Zci _ _ (by rw [ZbF] at hi; exact hi)]; exact h.ns _ (List.getElem_mem _), fun i hi => by rw [Zci _ _ (by rw [ZbF] at hi; exact hi)]⟩
theorem ivt_count {ns : List Int} {L : List S86} (h : Ivt ns L) (j : Nat) (hj : j < ns.length) {m : Nat} (hm : ns[j] = (m : Int)) : cntP (marked ((j : Int) + 1) L) m = lenQ ((j : Int) + 1) L :=
 Zdc ((j : Int) + 1) m L (once_of h.ok.canon.rise h.ok.canon.1 h.once) h.ok.canon.1 fun x hx hq => by
  obtain ⟨j', hj', h1, h2, h3⟩ := h.mem hx
  have e : j = j' := by omega
  subst e
  omega
theorem info116 : (Tryz.prog.info? 116).map (fun i => (i.zero, i.size, i.bytes)) = some (some (.slice none 0 0), 1, 24) := by kernel_rfl
theorem info4b : (Tryz.prog.info? 4).map (fun i => (i.zero, i.size, i.bytes)) = some (some (.bool false), 1, 1) := by kernel_rfl
theorem right_f (x : S86) (hx : MayE x) (h : 1 ≤ x.f1.f0) (h2 : x.f1.f1 ≤ 65536) : ZcN.f x.f0.f0 x.f0.f1 x.f1.f0 x.f1.f1 = some true := by
 unfold MayE at hx
 unfold ZcN.f gc_seq.f
 rw [if_pos (by omega), if_pos (by omega), if_pos (by omega), if_pos (by rw [ZaH _ (by omega)]; omega), if_pos (by omega), decide_eq_true (by omega), Option.bind_some, if_pos rfl, if_pos (by omega), decide_eq_true (by omega)]
set_option maxRecDepth 100000 in
set_option maxHeartbeats 16000000 in
theorem table_calls (ns : List Int) (L : List S86) (Au : Option Addr) (cu : Nat) (A : Option Addr) (c : Nat) (w : World) (hi : Ivt ns L) (hn : ns.length ≤ 12) (hU : Kd.C k54 w Au (use0 ns).length (use0 ns)) (hUc : (use0 ns).length ≤ cu) (hr : Kd.C k86 w A L.length L) (hrc : L.length ≤ c) :
  Calls Tryz.prog 16 #[.slice Au (use0 ns).length cu, .slice A L.length c] w fun e w' => ∃ v, e = .returned (.tuple #[v, .int .i64 0]) ∧ k54.R 54 w' w.heap.size (fun _ => True) v (useOf L ns) ∧ Below w.heap.size w w' := by
 have hu36 := Tryz.underlying36
 have hu54 := Tryz.underlying54
 have hu43 := Tryz.underlying43
 have hu115 := Tryz.underlying115
 have hu116 := Tryz.underlying116
 have hu31 := Tryz.underlying31
 have hu86 := Tryz.underlying86
 have hu84 := Tryz.underlying84
 have hu70 := Tryz.underlying70
 have hu118 := Tryz.underlying118
 have hu121 := Tryz.underlying121
 have hu3 := Tryz.underlying3
 have hu4 := Tryz.underlying4
 have HSz := Aside0.mk (sizes_of hi hn)
 have HI := Aside0.mk hi
 have HU := Aside0.mk hU
 have HL := Aside0.mk hr
 have HLm := Aside0.mk hi.ok
 have hlL : L.length ≤ 64 := hi.ok.len
 have HCk := Aside0.mk (gcCheck_calls Au cu (use0 ns) w hU hUc HSz.out)
 obtain ⟨n, hnl⟩ : ∃ n, (use0 ns).length = n := ⟨_, rfl⟩
 have hnn : ns.length = n := by rw [← hnl, ZbF]
 have hn12 : n ≤ 12 := by omega
 rw [hnl] at HU HCk hUc ⊢
 have HNl := Aside0.mk hnl
 have HNn := Aside0.mk hnn
 have hmk1 := fun W => run_make_row' (P := Tryz.prog) 115 116 (.slice none 0 0) 24 hu115 info116 rfl .i64 .i64 n (by omega) (by omega) W
 clear hi hr hU hnl hnn
 go_enter Tryz.func16, Tryz.ntmps16
 go_wp2_with (fail)
 refine HCk.out.mono ?_
 rintro e w1 ⟨rfl, hb⟩
 have HB1 := Aside0.mk hb
 clear hb HCk
 go_wp2_with (fail)
 clear hmk1
 have hlv0 := Lv.made w1 w.heap.size n (fun _ => 0) (fun k => (ns.getD k 0).toNat) (fun _ _ => false) HB1.out.size
 have HB2 := Aside0.mk (Zae HB1.out (Zab (Below.refl _ w1) (.cells (madeCells #[.slice none 0 0] n) 116)))
 obtain ⟨gl, hgl⟩ : ∃ gl, w1.heap.size = gl := ⟨_, rfl⟩
 have Hgl := Aside0.mk (show w.heap.size ≤ gl by have := HB1.out.size; omega)
 rw [hgl] at hlv0 ⊢
 have HLV0 := Aside0.mk hlv0
 clear hlv0
 generalize w1.alloc (.cells (madeCells #[.slice none 0 0] n) 116) = w2 at HLV0 HB2 ⊢
 go_loopg [29] n (fun kx v29 wr => ∃ (i : Nat) (G : Nat → Nat), v29 = .int .i64 (i : Int) ∧ i ≤ n ∧ n - i ≤ kx ∧ Aside0 (Below w.heap.size w wr) ∧ Aside0 (Lv wr w.heap.size gl n i G (fun k => (ns.getD k 0).toNat) (fun _ _ => false)))
 case atStart => exact ⟨0, fun _ => 0, rfl, Nat.zero_le _, by omega, HB2, HLV0⟩
 case round =>
  obtain ⟨i, G, rfl, hi, hik, HB, HLv⟩ := hrel
  by_cases hlt : i < n
  ·have hi1 : i + 1 ≤ n := hlt
   have hil : i < ns.length := by have := HNn.out; omega
   have hU2 : Kd.C k54 wr Au (use0 ns).length (use0 ns) := by rw [HNl.out]; exact Kd.C_below HU.out HB.out
   obtain ⟨ad, rfl, c0, c1, c2⟩ := cells54 hU2 i (by rw [HNl.out]; exact hlt)
   rw [Zci ns i hil] at c0 c1 c2
   simp only at c0 c1 c2
   obtain ⟨m, hm⟩ : ∃ m : Nat, ns[i] = (m : Int) := ⟨ns[i].toNat, by have := HI.out.ns ns[i] (List.getElem_mem hil); omega⟩
   have hm12 : m ≤ 12 := by have := HI.out.ns ns[i] (List.getElem_mem hil); omega
   have Hsz := Aside0.mk (show (ns.getD i 0).toNat = m by rw [List.getD_eq_getElem?_getD, List.getElem?_eq_getElem hil, Option.getD_some, hm]; rfl)
   rw [hm] at c1
   have hmk := fun W => run_make_row' (P := Tryz.prog) 116 4 (.bool false) 1 hu116 info4b rfl .i64 .i64 m (by omega) (by omega) W
   have ba := Zab (Below.refl _ wr) (.cells #[.int .i64 ((i : Int) + 1), .int .i64 (m : Int), .int .i64 0] 54)
   have hbx := Zas wr (.cells #[.int .i64 ((i : Int) + 1), .int .i64 (m : Int), .int .i64 0] 54)
   have q1 := (Zaa hbx 1).trans (rfl : _ = some (Value.int .i64 (m : Int)))
   have HB3 := Aside0.mk (Zae HB.out ba)
   have HLv3 := Aside0.mk (HLv.out.below ba)
   have hsz : (wr.alloc (.cells #[.int .i64 ((i : Int) + 1), .int .i64 (m : Int), .int .i64 0] 54)).heap.size = wr.heap.size + 1 := by simp
   have hlv4 := HLv3.out.below (Zab (Below.refl _ _) (.cells (madeCells #[.bool false] m) 4))
   have d0 := (hlv4.top.cell hlt).trans (by rw [if_neg (Nat.lt_irrefl _)] : _ = some (Value.slice none 0 0))
   have fz := hlv4.top.frozen i
   have HB4 := Aside0.mk (Zae HB3.out (Zab (Below.refl _ _) (.cells (madeCells #[.bool false] m) 4)))
   have hpush := HLv3.out.push HB3.out.size
   rw [Hsz.out, hsz] at hpush
   have HPush := Aside0.mk hpush
   clear ba hm hU2 hbx hsz hlv4 hpush
   as_aux_lemma =>
    go_wp2_with (fail)
    go_roundg (gk - 1)
    case measure => omega
    case rel =>
     refine ⟨i + 1, _, by go_num, hi1, by omega, ⟨?_⟩, HPush⟩
     exact HB4.out.grown (Za1 _ gl i _) HB4.out.size (fun j hj => by obtain rfl := Option.some.inj hj; exact Hgl.out)
  ·have hin : n = i := by omega
   subst hin
   clear hlt hi hik
   have HLv1 := Aside0.mk (HLv.out.congr (M' := fun k j => marked ((k : Int) + 1) (L.take 0) (j : Int)) fun k j => rfl)
   clear HLv
   obtain ⟨gp, hgp⟩ : ∃ gp, gp = gk := ⟨_, rfl⟩
   subst hgp
   as_aux_lemma =>
    go_wp2_with (fail)
    go_loopg [43] L.length (fun kx v43 wr => ∃ k : Nat, v43 = .int .i64 (k : Int) ∧ k ≤ L.length ∧ L.length - k ≤ kx ∧ Aside0 (Below w.heap.size w wr) ∧ Aside0 (Lv wr w.heap.size gl n n G (fun k => (ns.getD k 0).toNat) (fun k' j' => marked ((k' : Int) + 1) (L.take k) (j' : Int))))
    case atStart => exact ⟨0, rfl, Nat.zero_le _, by omega, HB, HLv1⟩
    case round =>
     obtain ⟨k, rfl, hk, hkk, HBr, HLr⟩ := hrel
     by_cases hkl : k < L.length
     ·have hk1 : k + 1 ≤ L.length := hkl
      obtain ⟨ad, rfl, h0, h1, h2, h3⟩ := ZaF (Kd.C_below HL.out HBr.out) k hkl
      have hxm := HLm.out.canon.1 L[k] (List.getElem_mem hkl)
      obtain ⟨j, hj, e0, e1, e2⟩ := HI.out.mem (List.getElem_mem hkl)
      have hjn : j < n := by have := HNn.out; omega
      have HTk := Aside0.mk (ZaM hkl)
      obtain ⟨m, hm⟩ : ∃ m : Nat, ns[j] = (m : Int) := ⟨ns[j].toNat, by have := HI.out.ns ns[j] (List.getElem_mem hj); omega⟩
      have hm12 : m ≤ 12 := by have := HI.out.ns ns[j] (List.getElem_mem hj); omega
      have Hsz := Aside0.mk (show (ns.getD j 0).toNat = m by rw [List.getD_eq_getElem?_getD, List.getElem?_eq_getElem hj, Option.getD_some, hm]; rfl)
      have HU2 := Aside0.mk (fun W (hb : Below w.heap.size w W) => (by rw [HNl.out]; exact Kd.C_below HU.out hb : Kd.C k54 W Au (use0 ns).length (use0 ns)))
      have HG0 := Aside0.mk (Zci ns j hj)
      have hjU : j < (use0 ns).length := by rw [HNl.out]; exact hjn
      rw [hm] at e2 HG0
      as_aux_lemma =>
       generalize L[k] = x at h0 h1 h2 h3 hxm e0 e1 e2 HTk
       have HRf := Aside0.mk (fun W => ZcN.calls x.f0.f0 x.f0.f1 x.f1.f0 x.f1.f1 true W (right_f x hxm (by omega) (by have := hxm.2.1; omega)))
       obtain ⟨⟨x0, x1⟩, ⟨x2, x3⟩⟩ := x
       simp only at h0 h1 h2 h3 e0 e1 e2 HRf
       obtain ⟨a, rfl⟩ : ∃ a : Nat, x3 = (a : Int) := ⟨x3.toNat, by omega⟩
       have hx1 : 1 ≤ x1 := hxm.2.1
       obtain ⟨ln, rfl⟩ : ∃ ln : Nat, x1 = (ln : Int) := ⟨x1.toNat, by omega⟩
       subst e0
       have hal : a + ln ≤ m := by omega
       have ba := Zab (Below.refl _ wr) (.cells #[.int .i64 x0, .int .i64 (ln : Int), .int .i64 ((j : Int) + 1), .int .i64 (a : Int)] 86)
       have hbx := Zas wr (.cells #[.int .i64 x0, .int .i64 (ln : Int), .int .i64 ((j : Int) + 1), .int .i64 (a : Int)] 86)
       have q0 := (Zaa hbx 0).trans (rfl : _ = some (Value.int .i64 x0))
       have q1 := (Zaa hbx 1).trans (rfl : _ = some (Value.int .i64 (ln : Int)))
       have q2 := (Zaa hbx 2).trans (rfl : _ = some (Value.int .i64 ((j : Int) + 1)))
       have q3 := (Zaa hbx 3).trans (rfl : _ = some (Value.int .i64 (a : Int)))
       have HBX := Aside0.mk hbx
       have HB2 := Aside0.mk (Zae HBr.out ba)
       have HLv2 := Aside0.mk (HLr.out.below ba)
       clear ba hbx hxm
       go_wp2_with (fail)
       clear h0 h1 h2 h3 q0 q1 q2 q3
       generalize wr.alloc (.cells #[.int .i64 x0, .int .i64 (ln : Int), .int .i64 ((j : Int) + 1), .int .i64 (a : Int)] 86) = w3 at HBX HB2 HLv2 ⊢
       obtain ⟨sb, hsb⟩ : ∃ sb, wr.heap.size = sb := ⟨_, rfl⟩
       rw [hsb] at HBX ⊢
       refine (HRf.out _).mono ?_
       rintro e w4 ⟨rfl, hb4⟩
       have HB4 := Aside0.mk (Zae HB2.out hb4)
       have HX4 := Aside0.mk (Zag HBX.out hb4)
       have HLv4 := Aside0.mk (HLv2.out.below hb4)
       have q2 := (Zaa HX4.out 2).trans (rfl : _ = some (Value.int .i64 ((j : Int) + 1)))
       clear hb4 HRf HLv2 HBX
       go_wp2_with (fail)
       have HBs := Aside0.mk (bs54_calls Au cu (use0 ns) j w4 (HU2.out w4 HB4.out) HSz.out hjU)
       rw [HNl.out] at HBs
       refine HBs.out.mono ?_
       rintro e w5 ⟨rfl, hb5⟩
       have HB5 := Aside0.mk (Zae HB4.out hb5)
       have HX5 := Aside0.mk (Zag HX4.out hb5)
       have HLv5 := Aside0.mk (HLv4.out.below hb5)
       obtain ⟨ad5, e5, u0, u1, u2⟩ := cells54 (HU2.out w5 HB5.out) j hjU
       subst e5
       rw [HG0.out] at u0 u1 u2
       simp only at u1
       have p1 := Zap u1
       have t1 := Zap ((Zaa HX5.out 1).trans (rfl : _ = some (Value.int .i64 (ln : Int))))
       have t3 := Zap ((Zaa HX5.out 3).trans (rfl : _ = some (Value.int .i64 (a : Int))))
       have hwa : IntKind.i64.wrap ((a : Int) + (ln : Int)) = ((a + ln : Nat) : Int) := (IntWalk.i64_in _ (by omega)).trans (by omega)
       have hd1 : decide (((a + ln : Nat) : Int) > (m : Int)) = false := decide_eq_false (by omega)
       clear hb5 u0 u1 u2 q2 HBs
       go_wp2_with (fail)
       refine Zav (by kernel_rfl) (by kernel_rfl) ?_
       repeat (refine WQ.step (fun K hK => ?_); go_simp; first | (refine hK _ ?_; clear hK K) | (apply Exists.intro; refine ⟨fun _ => ?_, hK _ ?_⟩; (fail); clear hK K))
       refine WQ.nil ?_
       rintro w6 ⟨⟨w6', hb6⟩, rfl⟩
       have HB6 := Aside0.mk (Zae HB5.out hb6)
       have HX6 := Aside0.mk (Zag HX5.out hb6)
       have HLv6 := Aside0.mk (HLv5.out.below hb6)
       have q1 := (Zaa HX6.out 1).trans (rfl : _ = some (Value.int .i64 (ln : Int)))
       clear hb6 p1 t1 t3 hwa hd1
       go_wp2_with (fail)
       clear q1
       have hne1 : G j ≠ gl := fun e => by
        obtain ⟨c1, hb1, _⟩ := HLv6.out.row j hjn
        obtain ⟨c2, hb2, _⟩ := HLv6.out.top
        rw [e, hb2] at hb1
        injection hb1 with hb1
        injection hb1 with _ ht _
        exact absurd ht (by decide)
       have hne2 : G j ≠ sb := fun e => by
        obtain ⟨c1, hb1, _⟩ := HLv6.out.row j hjn
        rw [e, HX6.out] at hb1
        injection hb1 with hb1
        injection hb1 with _ ht _
        exact absurd ht (by decide)
       have HNE := Aside0.mk (And.intro hne1 hne2)
       have HGb := Aside0.mk (HLv6.out.base.2 j hjn)
       obtain ⟨gq, hgq⟩ : ∃ gq, gq = gk := ⟨_, rfl⟩
       subst hgq
       go_loopg [78] ln (fun ky v78 wq => ∃ t : Nat, v78 = .int .i64 (t : Int) ∧ t ≤ ln ∧ ln - t ≤ ky ∧ Aside0 (Below w.heap.size w wq) ∧ Aside0 (wq.heap[sb]? = some (.cells #[.int .i64 x0, .int .i64 (ln : Int), .int .i64 ((j : Int) + 1), .int .i64 (a : Int)] 86)) ∧
        Aside0 (Lv wq w.heap.size gl n n G (fun k => (ns.getD k 0).toNat) (fun k' j' => marked ((k' : Int) + 1) (L.take k) (j' : Int) || (decide (k' = j) && (decide (a ≤ j') && decide (j' < a + t))))))
       case atStart => exact ⟨0, rfl, Nat.zero_le _, by omega, HB6, HX6, ⟨HLv6.out.congr fun k' j' => by
        have : (decide (a ≤ j') && decide (j' < a + 0)) = false := by by_cases h : a ≤ j' <;> simp <;> omega
        rw [this, Bool.and_false, Bool.or_false]⟩⟩
       case round =>
        obtain ⟨t, rfl, ht, htk, HBt, HXt, HLt⟩ := hrel
        by_cases htl : t < ln
        ·have hnl := HNE.out
         have g1 := (HLt.out.top.cell hjn).trans (by rw [if_pos hjn, Hsz.out] : _ = some (Value.slice (some ⟨G j, 0, none⟩) m m))
         have g3 := (Zaa HXt.out 3).trans (rfl : _ = some (Value.int .i64 (a : Int)))
         have hrow := HLt.out.row j hjn
         rw [Hsz.out] at hrow
         have d0 := hrow.cell (show a + t < m by omega)
         have fz := hrow.frozen (a + t)
         have hwa : IntKind.i64.wrap ((a : Int) + (t : Int)) = ((a + t : Nat) : Int) := (IntWalk.i64_in _ (by omega)).trans (by omega)
         have hat : a + t < m := by omega
         have P := Aside0.mk (show wr.cell? ⟨gl, j, none⟩ = some (Value.slice (some ⟨G j, 0, none⟩) m m) ∧ wr.cell? ⟨sb, 3, none⟩ = some (.int .i64 (a : Int)) from ⟨g1, g3⟩)
         have HMk := Aside0.mk (HLt.out.mark hjn (a + t))
         have hbi : ((a + t : Nat) : Int) < (m : Int) := by omega
         have hb0 : (0 : Int) ≤ ((a + t : Nat) : Int) := by omega
         clear hrow
         obtain ⟨b, hb⟩ : ∃ b, a + t = b := ⟨_, rfl⟩
         rw [hb] at d0 fz hwa hat hbi hb0 HMk
         have HBb := Aside0.mk hb
         clear hb
         as_aux_lemma =>
          go_wp2_with (fail)
          go_region_held3 (fun W => W.cell? ⟨gl, j, none⟩ = some (Value.slice (some ⟨G j, 0, none⟩) m m) ∧ W.cell? ⟨sb, 3, none⟩ = some (.int .i64 (a : Int))) ((simp only [Zd8, Zbu HNE.out.1, Zbu HNE.out.2]; exact P.out)) ((first | fail))
          go_wp2_with (fail)
          go_roundg (gk - 1)
          case measure => omega
          case rel =>
           have hb := HBb.out
           have hgx := Za1 wr (G j) b (.bool true)
           have hgz : wr.grownBy (wr.setCell ⟨G j, b, none⟩ (.bool true)).drew (some (G j)) := ⟨hgx.os, hgx.tape, hgx.output, hgx.size, hgx.block⟩
           refine ⟨t + 1, by go_num, htl, by omega, ⟨?_⟩, ⟨?_⟩, ⟨?_⟩⟩
           ·exact HBt.out.grown hgz HBt.out.size (fun i hi => by obtain rfl := Option.some.inj hi; exact HGb.out)
           ·exact Zay HXt.out hgz (by intro e; exact HNE.out.2 (Option.some.inj e).symm)
           ·refine Lv.congr (Lv.move HMk.out fun b cs t' _ h => rfl) fun k' j' => ?_
            by_cases hk' : k' = j
            ·by_cases hj' : j' = b
             ·subst hk' hj'
              rw [if_pos ⟨rfl, rfl⟩, decide_eq_true rfl, decide_eq_true (by omega), decide_eq_true (by omega)]
              simp
             ·rw [if_neg (fun h => hj' h.2)]
              congr 3
              show decide (j' < b) = decide (j' < a + (t + 1))
              by_cases h : j' < b
              ·rw [decide_eq_true h, decide_eq_true (show j' < a + (t + 1) by omega)]
              ·rw [decide_eq_false h, decide_eq_false (show ¬ j' < a + (t + 1) by omega)]
            ·rw [if_neg (fun h => hk' h.1), decide_eq_false hk', Bool.false_and, Bool.false_and]
        ·have htl2 : t = ln := by omega
         subst htl2
         have HLe := Aside0.mk (HLt.out.congr (M' := fun k' j' => marked ((k' : Int) + 1) (L.take (k + 1)) (j' : Int)) fun k' j' => by
          rw [← HTk.out, marked_snoc]
          show _ = (marked ((k' : Int) + 1) (L.take k) (j' : Int) || (decide ((j : Int) + 1 = (k' : Int) + 1) && (decide ((a : Int) ≤ (j' : Int)) && decide ((j' : Int) < (a : Int) + (t : Int)))))
          congr 1
          by_cases hk' : k' = j
          ·subst hk'
           rw [decide_eq_true rfl, decide_eq_true rfl, Bool.true_and, Bool.true_and]
           congr 1
           ·by_cases h : a ≤ j'
            ·rw [decide_eq_true h, decide_eq_true (by omega)]
            ·rw [decide_eq_false h, decide_eq_false (by omega)]
           ·by_cases h : j' < a + t
            ·rw [decide_eq_true h, decide_eq_true (by omega)]
            ·rw [decide_eq_false h, decide_eq_false (by omega)]
          ·rw [decide_eq_false hk', decide_eq_false (show ¬ (j : Int) + 1 = (k' : Int) + 1 by omega), Bool.false_and, Bool.false_and])
         as_aux_lemma =>
          go_wp2_with (fail)
          go_roundg (gq - 1)
          case measure => omega
          case rel => exact ⟨k + 1, by go_num, hk1, by omega, HBt, HLe⟩
     ·have hkl2 : k = L.length := by omega
      have HLe := Aside0.mk (show Lv wr w.heap.size gl n n G (fun k => (ns.getD k 0).toNat) (fun k' j' => marked ((k' : Int) + 1) L (j' : Int)) by
       have h := HLr.out
       rw [hkl2, List.take_length] at h
       exact h)
      clear HLr
      subst hkl2
      clear hk hkk
      have HCl := Aside0.mk (clone54_calls Au cu (use0 ns) wr (by rw [HNl.out]; exact Kd.C_below HU.out HBr.out) (by rw [HNl.out]; omega))
      rw [HNl.out] at HCl
      as_aux_lemma =>
       go_wp2_with (fail)
       refine HCl.out.mono ?_
       rintro e w6 ⟨v6, rfl, hR6, hb6⟩
       obtain ⟨A0, c0, rfl⟩ := Kd.R_slice hR6
       rw [HNl.out, ← outL_zero L ns] at hR6
       rw [HNl.out]
       have HR6 := Aside0.mk hR6
       have HB6 := Aside0.mk hb6
       have HBr5 := HBr
       have HLe5 := HLe
       clear hR6 hb6 HCl HBr HLe
       generalize wr = w5 at HR6 HB6 HBr5 HLe5
       go_wp2_with (fail)
       go_loopg [97] n (fun kx v97 wr => ∃ i : Nat, v97 = .int .i64 (i : Int) ∧ i ≤ n ∧ n - i ≤ kx ∧ Aside0 (Below w5.heap.size w5 wr) ∧ Aside0 (k54.R 54 wr w5.heap.size (fun _ => True) (.slice A0 n c0) (outL L ns i 0)))
       case atStart => exact ⟨0, rfl, Nat.zero_le _, by omega, HB6, HR6⟩
       case round =>
        obtain ⟨i, rfl, hi, hik, HB, HR⟩ := hrel
        by_cases hlt : i < n
        ·have hi1 : i + 1 ≤ n := hlt
         have hil : i < ns.length := by have := HNn.out; omega
         obtain ⟨g, cap, e, hgb, hgl, cellsg, hgc⟩ := Kd.R_form HR.out (by rw [Zbd]; omega)
         injection e with e1 e2 e3
         subst e1 e3
         clear e2
         have hcs := cells54 (Kd.R_reads' HR.out).2.2 i (by rw [Zbd]; exact hil)
         rw [ZbS L ns i 0 i hil] at hcs
         obtain ⟨ad, ea, u0, u1, u2⟩ := hcs
         obtain rfl := Option.some.inj ea
         rw [add0] at u0 u1 u2
         simp only [if_neg (Nat.lt_irrefl i), ite_self] at u0 u1 u2
         obtain ⟨m, hm⟩ : ∃ m : Nat, ns[i] = (m : Int) := ⟨ns[i].toNat, by have := HI.out.ns ns[i] (List.getElem_mem hil); omega⟩
         have hm12 : m ≤ 12 := by have := HI.out.ns ns[i] (List.getElem_mem hil); omega
         have Hsz := Aside0.mk (show (ns.getD i 0).toNat = m by rw [List.getD_eq_getElem?_getD, List.getElem?_eq_getElem hil, Option.getD_some, hm]; rfl)
         have HCn := Aside0.mk (ivt_count HI.out i hil hm)
         have Hgb := Aside0.mk hgb
         have hne : g ≠ gl := by have := HLe5.out.top.lt; omega
         have fz := Zad hgc (i * 3 + 2)
         have g1 := ((HLe5.out.below HB.out).top.cell hlt).trans (by rw [if_pos hlt, Hsz.out] : _ = some (Value.slice (some ⟨G i, 0, none⟩) m m))
         have g2 := (Zbu hne (i * 3 + 2) i (.int .i64 0)).trans g1
         have hseg := Kd.R_seg (d := k54) (W := wr) (c := [.int .i64 ((i : Int) + 1), .int .i64 ns[i], .int .i64 0]) (seg := [.int .i64 0]) (j := 2) (okp := fun _ => False) (x' := ⟨(i : Int) + 1, ns[i], 0⟩) HR.out (i : Int) (by omega) (by omega) rfl
          (fun j u hu => by
           rw [Int.toNat_natCast]
           match j, hu with
           | 0, hu => cases hu; exact u0
           | 1, hu => cases hu; exact u1
           | 2, hu => cases hu; exact u2) (by show 2 + 1 ≤ 3; omega) (k54_mkM _ _ _ _) (fun _ h => h.elim)
         rw [Int.toNat_natCast, outL_set L ns i 0 0 hil] at hseg
         have HR7 := Aside0.mk hseg.1
         have HG7 := Aside0.mk hseg.2
         have HB7 := Aside0.mk (HB.out.grown hseg.2 HB.out.size (fun j hj => by obtain rfl := Option.some.inj hj; exact hgb))
         have HGi := Aside0.mk (HLe5.out.row i hlt)
         clear hseg hgb hgc g1
         as_aux_lemma =>
          go_wp2_with (fail)
          clear u0 u1 u2 fz g2
          have HR8 : Aside0 (k54.R 54 (wr.setCell ⟨g, i * 3 + 2, none⟩ (.int .i64 0)) w5.heap.size (fun _ => True) (.slice (some ⟨g, 0, none⟩) n c0) (outL L ns i 0)) := ⟨HR7.out⟩
          have HB8 : Aside0 (Below w5.heap.size w5 (wr.setCell ⟨g, i * 3 + 2, none⟩ (.int .i64 0))) := ⟨HB7.out⟩
          clear HR7 HG7 HB7 HB HR
          generalize wr.setCell ⟨g, i * 3 + 2, none⟩ (.int .i64 0) = w7 at HR8 HB8 ⊢
          obtain ⟨gq, hgq⟩ : ∃ gq, gq = gk := ⟨_, rfl⟩
          subst hgq
          go_loopg [109] m (fun ky v109 wq => ∃ j : Nat, v109 = .int .i64 (j : Int) ∧ j ≤ m ∧ m - j ≤ ky ∧ Aside0 (Below w5.heap.size w5 wq) ∧ Aside0 (k54.R 54 wq w5.heap.size (fun _ => True) (.slice (some ⟨g, 0, none⟩) n c0) (outL L ns i (cntP (marked ((i : Int) + 1) L) j))))
          case atStart => exact ⟨0, rfl, Nat.zero_le _, by omega, HB8, ⟨HR8.out⟩⟩
          case round =>
           obtain ⟨j, rfl, hj, hjk, HBj, HRj⟩ := hrel
           by_cases hjl : j < m
           ·have hj1 : j + 1 ≤ m := hjl
            have hrow := (HLe5.out.below HBj.out).row i hlt
            rw [Hsz.out] at hrow
            have b0 := hrow.cell hjl
            have hcn := ZcT (marked ((i : Int) + 1) L) j
            have hcp := cntP_nonneg (marked ((i : Int) + 1) L) j
            have HSc := Aside0.mk (show cntP (marked ((i : Int) + 1) L) (j + 1) = cntP (marked ((i : Int) + 1) L) j + if marked ((i : Int) + 1) L (j : Int) = true then 1 else 0 from rfl)
            clear hrow
            generalize cntP (marked ((i : Int) + 1) L) j = cn at HRj hcn hcp HSc
            cases hmk : marked ((i : Int) + 1) L (j : Int) with
            | true =>
             rw [hmk] at b0 HSc
             rw [if_pos rfl] at HSc
             obtain ⟨g', cap', e', hgb', hgl', cellsg', hgc'⟩ := Kd.R_form HRj.out (by rw [Zbd]; omega)
             injection e' with e1 e2 e3
             injection e1 with e1
             injection e1 with e1
             subst e1
             clear e2 e3
             have hcs := cells54 (Kd.R_reads' HRj.out).2.2 i (by rw [Zbd]; exact hil)
             rw [ZbS L ns i cn i hil] at hcs
             obtain ⟨ad, ea, u0, u1, u2⟩ := hcs
             obtain rfl := Option.some.inj ea
             rw [add0] at u0 u1 u2
             simp only [if_neg (Nat.lt_irrefl i), if_true] at u0 u1 u2
             have fz := Zad hgc' (i * 3 + 2)
             have hw2 : IntKind.i64.wrap (cn + 1) = cn + 1 := IntWalk.i64_in _ (by omega)
             have hseg := Kd.R_seg (d := k54) (W := wr) (c := [.int .i64 ((i : Int) + 1), .int .i64 ns[i], .int .i64 cn]) (seg := [.int .i64 (cn + 1)]) (j := 2) (okp := fun _ => False) (x' := ⟨(i : Int) + 1, ns[i], cn + 1⟩) HRj.out (i : Int) (by omega) (by omega) rfl
              (fun j u hu => by
               rw [Int.toNat_natCast]
               match j, hu with
               | 0, hu => cases hu; exact u0
               | 1, hu => cases hu; exact u1
               | 2, hu => cases hu; exact u2) (by show 2 + 1 ≤ 3; omega) (k54_mkM _ _ _ _) (fun _ h => h.elim)
             rw [Int.toNat_natCast, outL_set L ns i cn (cn + 1) hil] at hseg
             have HR9 := Aside0.mk hseg.1
             have HB9 := Aside0.mk (HBj.out.grown hseg.2 HBj.out.size (fun j hj => by obtain rfl := Option.some.inj hj; exact hgb'))
             clear hseg hgb' hgc' hmk
             as_aux_lemma =>
              go_wp2_with (fail)
              go_roundg (gk - 1)
              case measure => omega
              case rel => exact ⟨j + 1, by go_num, hj1, by omega, ⟨HB9.out⟩, ⟨by rw [HSc.out]; exact HR9.out⟩⟩
            | false =>
             rw [hmk] at b0 HSc
             rw [if_neg (by decide), Int.add_zero] at HSc
             clear hmk
             as_aux_lemma =>
              go_wp2_with (fail)
              go_roundg (gk - 1)
              case measure => omega
              case rel => exact ⟨j + 1, by go_num, hj1, by omega, HBj, ⟨by rw [HSc.out]; exact HRj.out⟩⟩
           ·have hjm : m = j := by omega
            subst hjm
            have HR9 := Aside0.mk (show k54.R 54 wr w5.heap.size (fun _ => True) (.slice (some ⟨g, 0, none⟩) n c0) (outL L ns (i + 1) 0) by
             have h := HRj.out
             rw [HCn.out, outL_next] at h
             exact h)
            as_aux_lemma =>
             go_wp2_with (fail)
             go_roundg (gq - 1)
             case measure => omega
             case rel => exact ⟨i + 1, by go_num, hi1, by omega, HBj, HR9⟩
        ·have hin : n = i := by omega
         subst hin
         have HR9 := Aside0.mk (show k54.R 54 wr w.heap.size (fun _ => True) (.slice A0 n c0) (useOf L ns) by
          have h := HR.out
          rw [← HNn.out, outL_all] at h
          rw [← HNn.out]
          exact Kd.R_lower h HBr5.out.size)
         as_aux_lemma =>
          go_wp2_with (fail)
          go_ret2
          exact ⟨_, rfl, HR9.out, Zae HBr5.out HB.out⟩
theorem few_f (ep nb kd : Int) (S : List S70) (dt tx : ByteArray) : ∃ b, Zba.f ep nb kd S dt tx = some b ∧ (b = true → S.length ≤ 80) := by
 unfold Zba.f
 by_cases h1 : (S.length : Int) ≤ 80
 ·rw [if_pos h1]
  by_cases h2 : (dt.size : Int) ≤ 2000
  ·exact ⟨_, by rw [if_pos h2], fun _ => by omega⟩
  ·rw [if_neg h2]
   by_cases h3 : (dt.size : Int) > 32768
   ·rw [if_pos h3]
    by_cases h4 : (dt.size : Int) < 40000
    ·exact ⟨_, by rw [if_pos h4], fun _ => by omega⟩
    ·exact ⟨_, by rw [if_neg h4], fun _ => by omega⟩
   ·exact ⟨_, by rw [if_neg h3], fun _ => by omega⟩
 ·exact ⟨false, by rw [if_neg h1], fun h => by simp at h⟩
theorem empty_of (s : ByteArray) (h : s.toList = []) : s = ⟨#[]⟩ := by
 rw [ByteArray.toList_eq] at h
 cases s
 simp only at h
 congr 1
 exact Array.toList_inj.1 h
structure Gd (w : World) (B : List Rb) : Prop where
 reads : ∀ r ∈ B, r.Reads w
 ok : ∀ r ∈ B, r.Ok
 num : ∀ (i : Nat) (h : i < B.length), B[i].number = (i : Int) + 1
theorem Gd.nil (w : World) : Gd w [] := ⟨by simp, by simp, fun i h => absurd h (Nat.not_lt_zero _)⟩
theorem Gd.snoc {w : World} {B : List Rb} {r : Rb} (h : Gd w B) (h1 : r.Reads w) (h2 : r.Ok) (h3 : r.number = (B.length : Int) + 1) : Gd w (B ++ [r]) := by
 refine ⟨fun x hx => ?_, fun x hx => ?_, fun i hi => ?_⟩
 ·rcases List.mem_append.1 hx with hx | hx
  ·exact h.reads x hx
  ·rw [List.mem_singleton.1 hx]; exact h1
 ·rcases List.mem_append.1 hx with hx | hx
  ·exact h.ok x hx
  ·rw [List.mem_singleton.1 hx]; exact h2
 ·by_cases e : i < B.length
  ·rw [List.getElem_append_left e]
   exact h.num i e
  ·have e2 : i = B.length := by simp at hi; omega
   subst e2
   rw [List.getElem_append_right (Nat.le_refl _)]
   simpa using h3
theorem pass_ok {ep kd : Int} {S : List S70} {dt tx : ByteArray} {nb : Int} {sa : Option Addr} {sc : Nat} (he : 0 ≤ ep ∧ ep < 4294967296) (hn : 1 ≤ nb ∧ nb < 1099511627776) (hk : 1 ≤ kd ∧ kd ≤ 3) (h3 : kd ≠ 3) (hp : Pass kd S dt tx) (ht : totS S ≤ 12) (hs : ∀ x ∈ S, endS x ≤ 60) :
  (⟨ep, nb, kd, sa, sc, S, dt, tx⟩ : Rb).Ok :=
 ⟨⟨hp.may, hs⟩, ht, (show kd = 1 ∨ kd = 2 by omega), hp.data, hn, he, hp.some, empty_of tx hp.text, fun h => empty_of dt (hp.cut h)⟩
theorem appB2 {ops : Array Oper} {o : Oper} {rest : List Oper} {a : Act} {Q : Exit → Act → World → Prop} {W : World} {base : Nat} (hg : o.guard = none) (s x : Operand)
  (ho : o.op = .call { callee := .builtin .append, args := #[s, x], argTypes := #[22, 22] }) (v : Value) (xs : List Rb) (ep nb kd : Int) (sa : Option Addr) (n sc : Nat) (S : List S70) (dt tx : ByteArray) (hn : S.length = n) (hs : a.eval s = v) (hx : a.eval x = .slice (some ⟨W.heap.size, 0, none⟩) 1 1)
  (HO : kb.R 63 W base (fun _ => True) v xs) (hbase : base ≤ W.heap.size) (hl : 80 * (xs.length + 1) ≤ 140737488355328)
  (h : ∀ v1 w1, kb.R 63 w1 base (fun _ => True) v1 (xs ++ [⟨ep, nb, kd, sa, sc, S, dt, tx⟩]) → RowKit.Below base W w1 → W.grownBy w1 v.ownBlock → wpList Tryz.prog ops Q rest (a.put o.dst v1) w1) :
  wpList Tryz.prog ops Q (o :: rest) a (W.alloc (.cells #[.int .i64 ep, .int .i64 nb, .int .i64 kd, .slice sa n sc, .string dt, .string tx] 63)) := by
 subst hn
 exact appB _ rfl hg s x ho v xs ⟨ep, nb, kd, sa, sc, S, dt, tx⟩ hs hx HO hbase hl h
set_option maxRecDepth 100000 in
set_option maxHeartbeats 16000000 in
theorem right_calls (l : List S63) (A : Option Addr) (c : Nat) (w : World) (hr : Kd.C k63 w A l.length l) (hc : l.length ≤ c) (hlen : 80 * (l.length + 1) ≤ 140737488355328) :
  Calls Tryz.prog 4 #[.slice A l.length c] w fun e w' => ∃ v ok B, e = .returned (.tuple #[v, .bool ok]) ∧ Below w.heap.size w w' ∧ (ok = true → B.length ≤ 12 ∧ kb.R 63 w' w.heap.size (fun _ => True) v B ∧ Gd w B) := by
 have hu22 := Tryz.underlying22
 have hu63 := Tryz.underlying63
 have hu66 := Tryz.underlying66
 have hu43 := Tryz.underlying43
 have hu38 := Tryz.underlying38
 have hu70 := Tryz.underlying70
 have hu9 := Tryz.underlying9
 have hu3 := Tryz.underlying3
 have HR := Aside0.mk hr
 have HLn := Aside0.mk hlen
 clear hr hlen
 go_enter Tryz.func4, Tryz.ntmps4
 go_wp2_with (fail)
 go_loopg [4, 5] l.length (fun kx v4 v5 wr => ∃ (i : Nat) (B : List Rb), v5 = .int .i64 (i : Int) ∧ i ≤ l.length ∧ l.length - i ≤ kx ∧ Aside0 (B.length = i) ∧ Aside0 (kb.R 63 wr w.heap.size (fun _ => True) v4 B) ∧ Aside0 (Below w.heap.size w wr) ∧ Aside0 (Gd w B))
 case atStart => exact ⟨0, [], rfl, Nat.zero_le _, by omega, ⟨rfl⟩, ⟨Kd.R_nil _ _ _ _ _⟩, ⟨Below.refl _ _⟩, ⟨Gd.nil w⟩⟩
 case round =>
  obtain ⟨i, B, rfl, hi, hik, HBl, HO, HB, HGd⟩ := hrel
  by_cases hlt : i < l.length
  ·have hi1 : i + 1 ≤ l.length := hlt
   obtain ⟨ad, sa, sc, rfl, c0, c1, c2, c3, c4, c5, hsl, hsr⟩ := at_T63 HR.out (i : Int) (by omega) (by omega)
   rw [Int.toNat_natCast] at c0 c1 c2 c3 c4 c5
   generalize rd_T63 l (i : Int) = x at c0 c1 c2 c3 c4 c5 hsl hsr
   obtain ⟨ep, nb0, kd, S, dt, tx⟩ := x
   simp only at c0 c1 c2 c3 c4 c5 hsl hsr
   have d0 := Zam HB.out c0
   have d1 := Zam HB.out c1
   have d2 := Zam HB.out c2
   have d3 := Zam HB.out c3
   have d4 := Zam HB.out c4
   have d5 := Zam HB.out c5
   have hibig : (i : Int) + 1 ≤ 9000000000000000 := by have := HLn.out; omega
   have hwi : IntKind.i64.wrap ((i : Int) + 1) = (i : Int) + 1 := IntWalk.i64_in _ (by omega)
   have HIb := Aside0.mk hibig
   clear hibig
   have HSr := Aside0.mk hsr
   have HSl := Aside0.mk hsl
   have ba := Zab (Below.refl _ wr) (.cells #[.int .i64 ep, .int .i64 ((i : Int) + 1), .int .i64 kd, .slice sa S.length sc, .string dt, .string tx] 63)
   have hbx := Zas wr (.cells #[.int .i64 ep, .int .i64 ((i : Int) + 1), .int .i64 kd, .slice sa S.length sc, .string dt, .string tx] 63)
   have HBX := Aside0.mk hbx
   have HB2 := Aside0.mk (Zae HB.out ba)
   have HO2 := Aside0.mk (Kd.R_below HO.out ba)
   obtain ⟨q0, q1, q2, q3, q4, q5⟩ := rcells hbx
   obtain ⟨fw, hfw, hfl⟩ := few_f ep ((i : Int) + 1) kd S dt tx
   have HFw := Aside0.mk (fun W (hb : Below w.heap.size w W) => Zba.calls ep ((i : Int) + 1) kd sa sc S dt tx fw W (Kd.C_below HSr.out hb) HSl.out hfw)
   clear ba hbx c0 c1 c2 c3 c4 c5 hsl hsr hfw
   go_wp2_with (fail)
   clear q0 q1 q2 q3 q4 q5 d0 d1 d2 d3 d4 d5
   generalize wr.alloc (.cells #[.int .i64 ep, .int .i64 ((i : Int) + 1), .int .i64 kd, .slice sa S.length sc, .string dt, .string tx] 63) = w2 at HBX HB2 HO2 ⊢
   obtain ⟨rb, hrb⟩ : ∃ rb, wr.heap.size = rb := ⟨_, rfl⟩
   have HRB := Aside0.mk (show w.heap.size ≤ rb by have := HB.out.size; omega)
   rw [hrb] at HBX ⊢
   refine (HFw.out _ HB2.out).mono ?_
   rintro e w3 ⟨rfl, hb3⟩
   have HB3 := Aside0.mk (Zae HB2.out hb3)
   have HX3 := Aside0.mk (Zag HBX.out hb3)
   have HO3 := Aside0.mk (Kd.R_below HO2.out hb3)
   clear hb3 HFw
   cases fw with
   | false =>
    as_aux_lemma =>
     go_wp2_with (fail)
     go_ret2
     exact ⟨_, false, [], rfl, HB3.out, fun h => by cases h⟩
   | true =>
    have hS80 := hfl rfl
    have HS80 := Aside0.mk hS80
    obtain ⟨q0, q1, q2, q3, q4, q5⟩ := rcells HX3.out
    have HPl := fun W => plain_calls ep ((i : Int) + 1) kd sa S.length sc dt tx W
    go_wp2_with (fail)
    clear q0 q1 q2 q3 q4 q5
    refine (HPl _).mono ?_
    rintro e w4 ⟨rfl, hb4⟩
    have HB4 := Aside0.mk (Zae HB3.out hb4)
    have HX4 := Aside0.mk (Zag HX3.out hb4)
    have HO4 := Aside0.mk (Kd.R_below HO3.out hb4)
    obtain ⟨rr, hrr, hrm⟩ := refCheck_f ep ((i : Int) + 1) kd S dt tx hS80
    have HCk := Aside0.mk (fun W (hb : Below w.heap.size w W) => Zah.calls 200 ep ((i : Int) + 1) kd sa sc S dt tx rr W (Kd.C_below HSr.out hb) HSl.out hrr)
    have HRm := Aside0.mk hrm
    clear hb4 HPl hrr hrm HX3 HO3
    go_wp2_with (fail)
    refine (HCk.out _ HB4.out).mono ?_
    rintro e w5 ⟨rfl, hb5⟩
    have HB5 := Aside0.mk (Zae HB4.out hb5)
    have HX5 := Aside0.mk (Zag HX4.out hb5)
    have HO5 := Aside0.mk (Kd.R_below HO4.out hb5)
    clear hb5 HCk HX4 HO4
    by_cases hr0 : rr = 0
    ·have HPs := Aside0.mk (HRm.out hr0)
     subst hr0
     have q2 := (rcells HX5.out).2.2.1
     by_cases hk3 : kd = 3
     ·subst hk3
      as_aux_lemma =>
       go_wp2_with (fail)
       go_ret2
       exact ⟨_, false, [], rfl, HB5.out, fun h => by cases h⟩
     ·have hdk : (kd == 3) = false := by simpa using hk3
      have HPa := Aside0.mk (HPs.out.2.2.2 hk3)
      have HK3 := Aside0.mk hk3
      clear hk3
      have q3 := (rcells HX5.out).2.2.2.1
      obtain ⟨t, ht, htm⟩ := Zc2 S (by omega) 200 (by omega)
      have htS := htm HPa.out.may
      have HTo := Aside0.mk (fun W (hb : Below w.heap.size w W) => Zar.calls 200 sa sc S t W (Kd.C_below HSr.out hb) HSl.out ht)
      have HTS := Aside0.mk htS
      clear ht htm htS hfl hS80 hwi
      go_wp2_with (fail)
      refine (HTo.out _ HB5.out).mono ?_
      rintro e w6 ⟨rfl, hb6d⟩
      have hb6 := hb6d.below
      have HB6 := Aside0.mk (Zae HB5.out hb6)
      have HX6 := Aside0.mk (Zag HX5.out hb6)
      have HO6 := Aside0.mk (Kd.R_below HO5.out hb6)
      clear hb6d hb6 HTo q2 q3 HX5 HO5 hdk
      by_cases ht12 : t > 12
      ·have hd12 : decide (t > 12) = true := decide_eq_true ht12
       as_aux_lemma =>
        go_wp2_with (fail)
        go_ret2
        exact ⟨_, false, [], rfl, HB6.out, fun h => by cases h⟩
      ·have hd12 : decide (t > 12) = false := decide_eq_false ht12
       have HT12 := Aside0.mk (show totS S ≤ 12 by rw [← HTS.out]; omega)
       clear ht12
       go_wp2_with (fail)
       obtain ⟨gq, hgq⟩ : ∃ gq, gq = gk := ⟨_, rfl⟩
       subst hgq
       go_loopg [7] S.length (fun ky v7 wq => ∃ k : Nat, v7 = .int .i64 (k : Int) ∧ k ≤ S.length ∧ S.length - k ≤ ky ∧ Aside0 (∀ j (h : j < S.length), j < k → endS S[j] ≤ 60) ∧ Aside0 (Below w.heap.size w wq) ∧ Aside0 (wq.heap[rb]? = some (.cells #[.int .i64 ep, .int .i64 ((i : Int) + 1), .int .i64 kd, .slice sa S.length sc, .string dt, .string tx] 63)) ∧ Aside0 (kb.R 63 wq w.heap.size (fun _ => True) u4 B))
       case atStart => exact ⟨0, rfl, Nat.zero_le _, by omega, ⟨fun j h hj => absurd hj (Nat.not_lt_zero _)⟩, HB6, HX6, HO6⟩
       case round =>
        obtain ⟨k, rfl, hk, hkk, HEn, HBk, HXk, HOk⟩ := hrel
        have q3 := (rcells HXk.out).2.2.2.1
        by_cases hkl : k < S.length
        ·have hk1 : k + 1 ≤ S.length := hkl
         obtain ⟨ad2, rfl, y0, y1⟩ := cells70 (Kd.C_below HSr.out HBk.out) k hkl
         have hmay := HPa.out.may S[k] (List.getElem_mem hkl)
         have hE := fun W => ZaN S[k].f0 S[k].f1 hmay W
         have HEk := Aside0.mk (rfl : endS S[k] = S[k].f0 + S[k].f1)
         as_aux_lemma =>
          generalize hsx : S[k] = sx at y0 y1 hE HEk
          have HSX := Aside0.mk hsx
          clear hsx hmay
          obtain ⟨x0, x1⟩ := sx
          simp only at y0 y1 hE HEk
          go_wp2_with (fail)
          refine (hE _).mono ?_
          rintro e w7 ⟨rfl, hb7⟩
          have HB7 := Aside0.mk (Zae HBk.out hb7)
          have HX7 := Aside0.mk (Zag HXk.out hb7)
          have HO7 := Aside0.mk (Kd.R_below HOk.out hb7)
          clear hb7 q3 y0 y1
          by_cases h60 : x0 + x1 > 60
          ·have hd : decide (x0 + x1 > 60) = true := decide_eq_true h60
           as_aux_lemma =>
            go_wp2_with (fail)
            go_ret2
            exact ⟨_, false, [], rfl, HB7.out, fun h => by cases h⟩
          ·have hd : decide (x0 + x1 > 60) = false := decide_eq_false h60
           as_aux_lemma =>
            have hS80 := HS80.out
            go_wp2_with (fail)
            go_roundg (gk - 1)
            case measure => omega
            case rel =>
             refine ⟨k + 1, by go_num, hk1, by omega, ⟨fun j h hj => ?_⟩, HB7, HX7, HO7⟩
             by_cases e : j = k
             ·subst e
              rw [HSX.out]
              unfold endS
              simp only
              omega
             ·exact HEn.out j h (by omega)
        ·have hkl2 : k = S.length := by omega
         subst hkl2
         clear hkl hk hkk
         have HEa := Aside0.mk (show ∀ x ∈ S, endS x ≤ 60 from fun x hx => by
          obtain ⟨j, hj, rfl⟩ := List.getElem_of_mem hx
          exact HEn.out j hj hj)
         have HOkk : Aside0 ((⟨ep, (i : Int) + 1, kd, sa, sc, S, dt, tx⟩ : Rb).Ok) := ⟨pass_ok HPs.out.1 ⟨by omega, HPs.out.2.1.2⟩ HPs.out.2.2.1 HK3.out HPa.out HT12.out HEa.out⟩
         have HGn := Aside0.mk (HGd.out.snoc (r := ⟨ep, (i : Int) + 1, kd, sa, sc, S, dt, tx⟩) ⟨HSr.out, HSl.out⟩ HOkk.out (by rw [HBl.out]))
         obtain ⟨q0, q1, q2, _, q4, q5⟩ := rcells HXk.out
         have hbb := Nat.le_trans (Nat.le_refl w.heap.size) HBk.out.size
         have hln : 80 * (B.length + 1) ≤ 140737488355328 := by have := HLn.out; have := HBl.out; omega
         obtain ⟨A4, c4, rfl⟩ := Kd.R_slice HOk.out
         iterate 35 (first | go_values | go_skip | go_guarded | go_step | go_upon)
         at_builtin
         refine appB2 rfl _ _ rfl _ B _ _ _ _ _ _ S _ _ rfl rfl rfl HOk.out hbb hln ?_
         intro v1 w9 hR9 hb9 hg9
         have hibig := HIb.out
         go_wp2_with (fail)
         go_roundg (gq - 1)
         case measure => omega
         case rel => exact ⟨i + 1, B ++ [⟨ep, (i : Int) + 1, kd, sa, sc, S, dt, tx⟩], by go_num, hi1, by omega, ⟨by simp [HBl.out]⟩, ⟨hR9⟩, ⟨HBk.out.trans hb9⟩, HGn⟩
    ·have hdr : (rr == 0) = false := by simpa using hr0
     as_aux_lemma =>
      go_wp2_with (fail)
      go_ret2
      exact ⟨_, false, [], rfl, HB5.out, fun h => by cases h⟩
  ·have hil : i = l.length := by omega
   have HBL := Aside0.mk (show B.length = l.length by rw [HBl.out, hil])
   subst hil
   clear hi hik hlt HBl
   by_cases h12 : l.length ≤ 12
   ·have hd : decide (l.length ≤ 12) = true := decide_eq_true h12
    as_aux_lemma =>
     go_wp2_with (fail)
     go_ret2
     exact ⟨_, _, B, rfl, HB.out, fun _ => ⟨by rw [HBL.out]; exact h12, HO.out, HGd.out⟩⟩
   ·have hd : decide (l.length ≤ 12) = false := decide_eq_false h12
    as_aux_lemma =>
     go_wp2_with (fail)
     go_ret2
     exact ⟨_, _, [], rfl, HB.out, fun h => by simp at h; omega⟩
theorem said_ne {r : Rb} (ho : r.Ok) {X Y : List S70} (h1 : SetOf (saysF noneT r.S (decide (r.kind = 1))) true X) (h2 : SetOf (saysF noneT r.S (decide (r.kind = 1))) false Y) : ¬ (X = [] ∧ Y = []) := by
 rintro ⟨rfl, rfl⟩
 have hl := ho.some
 rcases List.eq_nil_or_concat r.S with e | ⟨l, x, e⟩
 ·rw [e] at hl
  simp at hl
 ·rw [List.concat_eq_append] at e
  have hx := ho.set.may x (by rw [e]; simp)
  have hs : saysF noneT r.S (decide (r.kind = 1)) x.f0 = some (decide (r.kind = 1)) := by
   rw [e]
   unfold saysF
   rw [List.foldl_append]
   show saysN _ x.f0 x.f1.toNat _ x.f0 = _
   unfold saysN
   rw [if_pos (by have := hx.2.1; omega)]
  cases hk : decide (r.kind = 1) with
  | true =>
   rw [hk] at hs h1
   have := (h1.mem x.f0).2 hs
   simp at this
  | false =>
   rw [hk] at hs h2
   have := (h2.mem x.f0).2 hs
   simp at this
def anyB : Bp := ⟨fun _ => True, trivial, fun _ _ _ _ => trivial, fun _ _ _ _ => trivial⟩
set_option maxRecDepth 100000 in
set_option maxHeartbeats 16000000 in
theorem sealed_calls (r : Rb) (Av : Option Addr) (cv : Nat) (q : Int) (w : World) (hC : Kd.C kb w Av 1 [r]) (hr : r.Reads w) (ho : r.Ok) (hq : 1 ≤ q ∧ q < 1099511627776) :
  Calls Tryz.prog 9 #[.slice Av 1 cv, .int .i64 q, .int .i64 960] w fun e w' => ∃ o : Ob, e = .returned (.tuple #[o.val, .bool true]) ∧ o.Reads w' ∧ o.Ok ∧ (o.key = 7 ∧ o.epoch = 1 ∧ o.seq = q ∧ o.upto = r.number ∧ ¬ (o.P = [] ∧ o.C = [])) ∧ Below w.heap.size w w' := by
 have hu22 := Tryz.underlying22
 have hu63 := Tryz.underlying63
 have hu40 := Tryz.underlying40
 have hu43 := Tryz.underlying43
 have hu77 := Tryz.underlying77
 have hu78 := Tryz.underlying78
 have hu81 := Tryz.underlying81
 have hu3 := Tryz.underlying3
 obtain ⟨ad, rfl, c0, c1, c2, c3, c4, c5⟩ := cellsB (l := [r]) hC 0 (by simp)
 simp only [List.getElem_cons_zero, Nat.zero_mul] at c0 c1 c2 c3 c4 c5
 rw [show ad.add 0 = ad from if_pos rfl] at c0 c1 c2 c3 c4 c5
 have HAd := Aside0.mk (fun W (hb : Below w.heap.size w W) b (N : Nat) g (hB : BAt anyB W g b N 960 0 0 noneT) (hN : N ≤ 800000) => Zeg anyB g b N 960 r W hB (hr.below hb) ho trivial hN (by have := ho.tot; omega))
 have HSl := Aside0.mk (fun W b (N : Nat) g (hB : BAt anyB W g b N 960 r.number 1 (saysF noneT r.S (decide (r.kind = 1)))) (hN : N ≤ 800000) => (ZdL anyB g b N 960 r.number q _ W hB hN hq (by have := ho.number; omega) (fun X Y hX hY => (said_two ho hX hY).1)).mono fun (e : Ending) (w' : World) ⟨o, h1, h2, h3, ⟨a1, a2, a3, a4, _, s1, s2⟩, h5⟩ => (⟨o, h1, h2, h3, ⟨a1, a2, a3, a4, said_ne ho s1 s2⟩, h5⟩ : ∃ o : Ob, e = Ending.returned (.tuple #[o.val, .int .i64 0]) ∧ o.Owns w' W.heap.size ∧ o.Ok ∧ (o.key = 7 ∧ o.epoch = 1 ∧ o.seq = q ∧ o.upto = r.number ∧ ¬ (o.P = [] ∧ o.C = [])) ∧ Below W.heap.size W w'))
 have HCs := Aside0.mk (fun W (hb : Below w.heap.size w W) => (⟨Zam hb c0, Zam hb c1, Zam hb c2, Zam hb c3, Zam hb c4, Zam hb c5⟩ : W.cell? ad = _ ∧ W.cell? ⟨ad.block, ad.off + 1, none⟩ = _ ∧ W.cell? ⟨ad.block, ad.off + 2, none⟩ = _ ∧ W.cell? ⟨ad.block, ad.off + 3, none⟩ = _ ∧ W.cell? ⟨ad.block, ad.off + 4, none⟩ = _ ∧ W.cell? ⟨ad.block, ad.off + 5, none⟩ = _))
 obtain ⟨ep, nb, kd, sa, sc, S, dt, tx⟩ := r
 unfold Rb.val at HAd
 simp only at HAd HSl HCs ⊢
 generalize saysF noneT S (decide (kd = 1)) = T1 at HAd HSl
 have ba := Zab (Below.refl _ w) (.cells #[.int .u64 0, .int .i64 0, .int .i64 0, .int .i64 0, .slice none 0 0, .slice none 0 0, .string ⟨#[]⟩] 40)
 have HZX := Aside0.mk (Zas w (.cells #[.int .u64 0, .int .i64 0, .int .i64 0, .int .i64 0, .slice none 0 0, .slice none 0 0, .string ⟨#[]⟩] 40))
 have HBA := Aside0.mk ba
 clear hC hr ho c0 c1 c2 c3 c4 c5 ba
 go_enter Tryz.func9, Tryz.ntmps9
 go_wp2_with (fail)
 generalize w.alloc (.cells #[.int .u64 0, .int .i64 0, .int .i64 0, .int .i64 0, .slice none 0 0, .slice none 0 0, .string ⟨#[]⟩] 40) = w1 at HZX HBA ⊢
 refine (newB_calls anyB 960 (by omega) w1).mono ?_
 rintro e w2 ⟨g, b, rfl, hg, hb, hB2, hb2⟩
 have HB2 := Aside0.mk (Zae HBA.out hb2)
 have HZ2 := Aside0.mk (Zag HZX.out hb2)
 have HBt := Aside0.mk hB2
 have HGg := Aside0.mk (show w.heap.size < g by have := blk_lt HZX.out; omega)
 clear hb2 hB2 hg hb
 go_wp2_with (fail)
 go_loopg [10] 1 (fun kx v10 wr => (v10 = .int .i64 0 ∧ wr = w2 ∧ 1 ≤ kx) ∨ (v10 = .int .i64 1 ∧ ∃ b', Aside0 (BAt anyB wr g b' 24 960 nb 1 T1) ∧ Aside0 (w2.grownBy wr (some g))))
 case atStart => exact .inl ⟨rfl, rfl, by omega⟩
 case round =>
  rcases hrel with ⟨rfl, rfl, hk1⟩ | ⟨rfl, b', HBt2, HG2⟩
  ·obtain ⟨c0, c1, c2, c3, c4, c5⟩ := HCs.out _ HB2.out
   as_aux_lemma =>
    go_wp2_with (fail)
    refine (HAd.out _ HB2.out b 0 g HBt.out (by omega)).mono ?_
    rintro e w3 ⟨b', rfl, hB3, hg3⟩
    clear c0 c1 c2 c3 c4 c5
    go_wp2_with (fail)
    go_roundg (gk - 1)
    case measure => omega
    case rel => exact .inr ⟨rfl, b', ⟨hB3⟩, ⟨hg3⟩⟩
  ·have HB3 := Aside0.mk (HB2.out.grown HG2.out HB2.out.size (fun j hj => by obtain rfl := Option.some.inj hj; have := HGg.out; omega))
   have HZ3 := Aside0.mk (Zay HZ2.out HG2.out (by intro e; have := Option.some.inj e; have := HGg.out; omega))
   go_wp2_with (fail)
   refine (HSl.out _ b' 24 g HBt2.out (by omega)).mono ?_
   rintro e w4 ⟨o, rfl, hrd, hok, ⟨ok1, ok2, ok3, ok4, ok5⟩, hb4⟩
   have HB4 := Aside0.mk (Zae HB3.out hb4)
   have HZ4 := Aside0.mk (Zag HZ3.out hb4)
   have HRd := Aside0.mk hrd
   have HOk := Aside0.mk hok
   have HQ := Aside0.mk (show o.key = 7 ∧ o.epoch = 1 ∧ o.seq = q ∧ o.upto = nb ∧ ¬ (o.P = [] ∧ o.C = []) from ⟨ok1, ok2, ok3, ok4, ok5⟩)
   clear hrd hok ok1 ok2 ok3 ok4 ok5 hb4
   obtain ⟨okey, oep, osq, oup, pa, pc, P, ca, cc, C, odt⟩ := o
   unfold Ob.val
   simp only [List.length_map]
   have hbo := Zas w4 (.cells #[.int .u64 okey, .int .i64 oep, .int .i64 osq, .int .i64 oup, .slice pa P.length pc, .slice ca C.length cc, .string odt] 40)
   have ba := Zab (Below.refl _ w4) (.cells #[.int .u64 okey, .int .i64 oep, .int .i64 osq, .int .i64 oup, .slice pa P.length pc, .slice ca C.length cc, .string odt] 40)
   have HZ5 := Aside0.mk (Zag HZ4.out ba)
   have HB5 := Aside0.mk (Zae HB4.out ba)
   have HRd5 := Aside0.mk (HRd.out.below ba)
   have HZ3b := Aside0.mk (show w.heap.size < wr.heap.size from blk_lt HZ3.out)
   obtain ⟨p0, p1, p2, p3, p4, p5, p6⟩ := ocells hbo
   clear hbo ba
   go_wp2_with ((with_reducible refine gate_ (.store 40 (.tmp 6) (.tmp 45)) rfl ?_); refine ZaX 40 (.tmp 6) (.tmp 45) rfl rfl rfl (.agg #[.int .u64 okey, .int .i64 oep, .int .i64 osq, .int .i64 oup, .slice pa P.length pc, .slice ca C.length cc, .string odt]) [.int .u64 okey, .int .i64 oep, .int .i64 osq, .int .i64 oup, .slice pa P.length pc, .slice ca C.length cc, .string odt] rfl rfl rfl (by kernel_rfl) HZ5.out (Nat.le_refl 7) (by intro q hq; simp only [List.mem_cons, List.not_mem_nil, or_false] at hq; rcases hq with rfl | rfl | rfl | rfl | rfl | rfl | rfl <;> rfl) ?_; have hz7 := set7 (v0 := .int .u64 okey) (v1 := .int .i64 oep) (v2 := .int .i64 osq) (v3 := .int .i64 oup) (v4 := .slice pa P.length pc) (v5 := .slice ca C.length cc) (v6 := .string odt) HZ5.out; have hgx := ZaJ (w.heap.size) [.int .u64 okey, .int .i64 oep, .int .i64 osq, .int .i64 oup, .slice pa P.length pc, .slice ca C.length cc, .string odt] 0 (w4.alloc (.cells #[.int .u64 okey, .int .i64 oep, .int .i64 osq, .int .i64 oup, .slice pa P.length pc, .slice ca C.length cc, .string odt] 40)); have HZ7 := Aside0.mk hz7; have HGX := Aside0.mk hgx; clear hz7 hgx p0 p1 p2 p3 p4 p5 p6; generalize (w4.alloc (.cells #[.int .u64 okey, .int .i64 oep, .int .i64 osq, .int .i64 oup, .slice pa P.length pc, .slice ca C.length cc, .string odt] 40)).setCells w.heap.size 0 [.int .u64 okey, .int .i64 oep, .int .i64 osq, .int .i64 oup, .slice pa P.length pc, .slice ca C.length cc, .string odt] = w7 at HZ7 HGX ⊢)
   (try simp only [Exit.inBlock, Exit.then])
   refine bodyPost_ret (Zc1 rfl _ _ _ _ _ _ _ rfl HZ7.out hu40 rfl (by kernel_rfl)) rfl ?_
   have hne : w.heap.size < (w4.alloc (.cells #[.int .u64 okey, .int .i64 oep, .int .i64 osq, .int .i64 oup, .slice pa P.length pc, .slice ca C.length cc, .string odt] 40)).heap.size := by have := blk_lt HZ4.out; have := (Zab (Below.refl _ w4) (.cells #[.int .u64 okey, .int .i64 oep, .int .i64 osq, .int .i64 oup, .slice pa P.length pc, .slice ca C.length cc, .string odt] 40)).size; omega
   refine ⟨⟨okey, oep, osq, oup, pa, pc, P, ca, cc, C, odt⟩, ?_, ?_, HOk.out, ⟨HQ.out.1, HQ.out.2.1, HQ.out.2.2.1, HQ.out.2.2.2.1, fun a b => HQ.out.2.2.2.2 ⟨a, b⟩⟩, HB5.out.grown HGX.out HB5.out.size (fun j hj => by obtain rfl := Option.some.inj hj; exact Nat.le_refl _)⟩
   ·unfold Ob.val
    simp only [List.length_map]
    rfl
   ·exact (HRd5.out.off HZ3b.out HGX.out).reads
def moreE (L : List S86) (q : Int) (P C : List S70) : List S86 := L.foldl apOut (applyE L q P C)
def lessE (L : List S86) (q : Int) (P C : List S70) : List S86 := (applyE L q P C).foldl apOut L
theorem putT_last {T : List S51} {x : S51} (h : ∀ y ∈ T, y.f0 < x.f0) : putT x T = T ++ [x] := by
 induction T with
 | nil => rfl
 | cons y T ih =>
  have h1 := h y (by simp)
  unfold putT
  rw [if_neg (by omega), if_neg (by omega), ih fun z hz => h z (by simp [hz])]
  rfl
theorem rowsOf_lt (L : List S86) (ns : List Int) : ∀ y ∈ rowsOf L ns, 1 ≤ y.f0 ∧ y.f0 < (ns.length : Int) + 1 := fun y hy => by
 obtain ⟨j, hj, rfl⟩ := List.getElem_of_mem hy
 rw [ZaK] at hj
 rw [Zbj L ns j hj]
 exact ⟨by show 1 ≤ (j : Int) + 1; omega, by show (j : Int) + 1 < _; omega⟩
structure StepT (ns : List Int) (L : List S86) (P C : List S70) : Prop where
 inv : Ivt (ns ++ [totS P]) (applyE L ((ns.length : Int) + 1) P C)
 more : (moreE L ((ns.length : Int) + 1) P C).length ≤ 40
 less : (lessE L ((ns.length : Int) + 1) P C).length ≤ 40
 add : addR (rowsOf L ns) [⟨(ns.length : Int) + 1, totS P, 0⟩] = (rowsOf L ns ++ [⟨(ns.length : Int) + 1, totS P, 0⟩], 0)
 chg : chgR (rowsOf L ns ++ [⟨(ns.length : Int) + 1, totS P, 0⟩]) (moreE L ((ns.length : Int) + 1) P C) (lessE L ((ns.length : Int) + 1) P C) = (rowsOf (applyE L ((ns.length : Int) + 1) P C) (ns ++ [totS P]), 0)
theorem stepT {ns : List Int} {L : List S86} {P C : List S70} (h : Ivt ns L) (hl : ns.length ≤ 11) (ho : ObjOk P C) : StepT ns L P C := by
 suffices hall : Ivt (ns ++ [totS P]) (applyE L ((ns.length : Int) + 1) P C) ∧ (moreE L ((ns.length : Int) + 1) P C).length ≤ 40 ∧ (lessE L ((ns.length : Int) + 1) P C).length ≤ 40 ∧
   addR (rowsOf L ns) [⟨(ns.length : Int) + 1, totS P, 0⟩] = (rowsOf L ns ++ [⟨(ns.length : Int) + 1, totS P, 0⟩], 0) ∧
   chgR (rowsOf L ns ++ [⟨(ns.length : Int) + 1, totS P, 0⟩]) (moreE L ((ns.length : Int) + 1) P C) (lessE L ((ns.length : Int) + 1) P C) = (rowsOf (applyE L ((ns.length : Int) + 1) P C) (ns ++ [totS P]), 0) from ⟨hall.1, hall.2.1, hall.2.2.1, hall.2.2.2.1, hall.2.2.2.2⟩
 obtain ⟨_, _, h3, h4⟩ := apply_ok (q := (ns.length : Int) + 1) h.ok ho ⟨by omega, by omega⟩
 have hI := ho.step h h3 h4
 have hens := ho.lens
 have dm := ap_diff h3 h.ok
 have dl := ap_diff h.ok h3
 have e1 : (applyE L ((ns.length : Int) + 1) P C).foldl apOut L = lessE L ((ns.length : Int) + 1) P C := rfl
 have e2 : L.foldl apOut (applyE L ((ns.length : Int) + 1) P C) = moreE L ((ns.length : Int) + 1) P C := rfl
 rw [e2] at dm
 rw [e1] at dl
 have hml := diff_len dm _ 12 (fun i hd => ho.diff h4 i hd) ho.cnt
 have hll := diff_len dl _ 12 (fun i hd => ho.diff h4 i (fun e => hd e.symm)) ho.cnt
 have hcnt := fun q => diff_count h3 h.ok dm dl q
 generalize moreE L ((ns.length : Int) + 1) P C = M at dm hml hcnt ⊢
 generalize lessE L ((ns.length : Int) + 1) P C = N at dl hll hcnt ⊢
 clear e1 e2
 generalize applyE L ((ns.length : Int) + 1) P C = L' at h3 h4 hI dm dl hcnt ⊢
 generalize totS P = n at hI hens ⊢
 have hn : 0 ≤ n ∧ n ≤ 12 := hI.ns n (by simp)
 have hmr : MayR ⟨(ns.length : Int) + 1, n, 0⟩ := by unfold MayR; simp only; omega
 have hseq : ∀ (D : List S86) (a b : List S86) (ms : List Int), DiffOf a b D → Ivt ms a → ms.length ≤ ns.length + 1 → ∀ x ∈ D, ∃ j : Nat, j < ns.length + 1 ∧ x.f1.f0 = (j : Int) + 1 := fun D a b ms hd hi hm x hx => by
  have hx1 := (hd.1.canon.1 x hx).2.1
  have h5 := Zcw hd.1.canon.rise hx hd.1.canon.1 (i := x.f0.f0) (Int.le_refl _) (by unfold endE; omega)
  have h6 := hd.2 x.f0.f0
  rw [h5] at h6
  split at h6
  ·cases h6
  ·obtain ⟨j, hj, e, _⟩ := hi.seq _ _ _ h6.symm
   exact ⟨j, by omega, e⟩
 have hfind : ∀ j : Nat, j < ns.length + 1 → (findT (rowsOf L ns ++ [(⟨(ns.length : Int) + 1, n, 0⟩ : S51)]) ((j : Int) + 1)).isSome = true := fun j hj => by
  unfold findT
  rw [List.find?_isSome]
  by_cases e : j < ns.length
  ·refine ⟨(rowsOf L ns)[j]'(by rw [ZaK]; exact e), List.mem_append_left _ (List.getElem_mem _), ?_⟩
   rw [Zbj L ns j e]
   simp
  ·refine ⟨⟨(ns.length : Int) + 1, n, 0⟩, by simp, ?_⟩
   have : j = ns.length := by omega
   subst this
   simp
 have hkn : ∀ (D : List S86), (∀ x ∈ D, ∃ j : Nat, j < ns.length + 1 ∧ x.f1.f0 = (j : Int) + 1) → Known (rowsOf L ns ++ [(⟨(ns.length : Int) + 1, n, 0⟩ : S51)]) (cntE [] D) := fun D hD y hy => by
  rcases cntE_mem (T := []) List.Pairwise.nil y hy with q | ⟨z, q, _⟩ | ⟨x, hx, e⟩
  ·simp at q
  ·simp at q
  ·obtain ⟨j, hj, e2⟩ := hD x hx
   rw [← e, e2]
   exact hfind j hj
 have hval : ∀ (D : List S86) (q : Int), q ≠ 0 → valT (cntE [] D) q = lenQ q D := fun D q hq => by
  rw [cnt_val List.Pairwise.nil _ hq]
  show 0 + _ = _
  omega
 have hlast : lenQ ((ns.length : Int) + 1) L = 0 := lenQ_none fun x hx e => by
  obtain ⟨j, hj, e2, _⟩ := h.mem hx
  omega
 have hchg : chgT (rowsOf L ns ++ [(⟨(ns.length : Int) + 1, n, 0⟩ : S51)]) M N = rowsOf L' (ns ++ [n]) := by
  rw [show chgT (rowsOf L ns ++ [(⟨(ns.length : Int) + 1, n, 0⟩ : S51)]) M N = (rowsOf L ns ++ [(⟨(ns.length : Int) + 1, n, 0⟩ : S51)]).map (fun r => ⟨r.f0, r.f1, r.f2 + (valT (cntE [] M) r.f0 - valT (cntE [] N) r.f0)⟩) from rfl]
  refine List.ext_getElem (by rw [List.length_map, ZaK, List.length_append, ZaK, List.length_append]; rfl) fun j h1 h2 => ?_
  rw [ZaK] at h2
  have hj : j < ns.length + 1 := by simpa using h2
  rw [Zbj L' _ j h2]
  rw [List.getElem_map]
  by_cases e : j < ns.length
  ·rw [List.getElem_append_left (by rw [ZaK]; exact e), Zbj L ns j e, List.getElem_append_left e]
   simp only
   rw [hval _ _ (by omega), hval _ _ (by omega)]
   have := hcnt ((j : Int) + 1)
   congr 1
   omega
  ·have ej : j = ns.length := by omega
   subst ej
   rw [List.getElem_append_right (by rw [ZaK]; omega), List.getElem_append_right (Nat.le_refl _)]
   simp only [ZaK, Nat.sub_self, List.getElem_cons_zero]
   rw [hval _ _ (by omega), hval _ _ (by omega)]
   have := hcnt ((ns.length : Int) + 1)
   congr 1
   omega
 refine ⟨hI, by omega, by omega, ?_, ?_⟩
 ·unfold addR
  rw [List.any_cons, List.any_nil, decide_eq_true hmr]
  simp only [Bool.not_true, Bool.or_false, Bool.false_eq_true, if_false]
  unfold addAll
  rw [findT_not (fun x hx => by have := (rowsOf_lt L ns x hx).2; show x.f0 ≠ (ns.length : Int) + 1; omega)]
  simp only
  unfold addAll
  rw [putT_last (fun y hy => (rowsOf_lt L ns y hy).2)]
 ·unfold chgR
  rw [if_pos ⟨dm.1.canon.1, dl.1.canon.1⟩, if_pos ⟨hkn M (hseq M L' L _ dm hI (by simp)), hkn N (hseq N L L' _ dl h (by omega))⟩, hchg, if_pos (rowsOf_may hI (by simp; omega))]
theorem Sb.Owns.off {s : Sb} {w w' : World} {base g : Nat} (h : s.Owns w base) (hg : g < base) (hb : w.grownBy w' (some g)) : s.Owns w' base := ⟨R_offG h.m hg hb, R_offG h.r hg hb⟩
theorem scells {W : World} {g : Nat} {v0 v1 v2 v3 v4 v5 v6 v7 : Value} (h : W.heap[g]? = some (.cells #[v0, v1, v2, v3, v4, v5, v6, v7] 34 (0, 0))) :
  W.cell? ⟨g, 0, none⟩ = some v0 ∧ W.cell? ⟨g, 1, none⟩ = some v1 ∧ W.cell? ⟨g, 2, none⟩ = some v2 ∧ W.cell? ⟨g, 3, none⟩ = some v3 ∧ W.cell? ⟨g, 4, none⟩ = some v4 ∧ W.cell? ⟨g, 5, none⟩ = some v5 ∧ W.cell? ⟨g, 6, none⟩ = some v6 ∧ W.cell? ⟨g, 7, none⟩ = some v7 :=
 ⟨(Zaa h 0).trans rfl, (Zaa h 1).trans rfl, (Zaa h 2).trans rfl, (Zaa h 3).trans rfl, (Zaa h 4).trans rfl, (Zaa h 5).trans rfl, (Zaa h 6).trans rfl, (Zaa h 7).trans rfl⟩
theorem new_ok (A5 : Option Addr) (c5 : Nat) (A6 : Option Addr) (c6 : Nat) : (⟨7, 1, 0, 0, 64, A5, c5, [], A6, c6, [], ⟨#[]⟩⟩ : Sb).Ok [] :=
 ⟨Ivt.nil, rfl, (show (0 : Int) ≤ 7 ∧ (7 : Int) ≤ 18446744073709551615 by omega), (show (1 : Int) ≤ 1 ∧ (1 : Int) < 1099511627776 by omega), rfl, Nat.zero_le _, (show (0 : Int) ≤ 0 ∧ (0 : Int) < 1099511627776 by omega), rfl, Nat.zero_le _⟩
structure Mid (st g gt bt N base base2 : Nat) (v7 : Value) (ns : List Int) (s : Sb) (wr : World) : Prop where
 ok : s.Ok ns
 owns : s.Owns wr base
 blk : wr.heap[st]? = some (.cells s.cells 34 (0, 0))
 map : MapAt wr g s.L
 tab : TbB wr gt bt N (rowsOf s.L ns)
 use : k54.R 54 wr base2 (fun _ => True) v7 (use0 ns)
 key : s.key = 7
 upto : s.upto ≤ (ns.length : Int)
 epoch : s.epoch = 1
 room : N ≤ 100 * ns.length
theorem c_lit51 {w : World} {g : Nat} {a b c : Int} (h : w.heap[g]? = some (.cells #[.int .i64 a, .int .i64 b, .int .i64 c] 51)) : Kd.C k51 w (some ⟨g, 0, none⟩) [(⟨a, b, c⟩ : S51)].length [⟨a, b, c⟩] := by
 refine ⟨rfl, by simp, fun _ => ⟨_, rfl, fun j p hj => ?_⟩⟩
 match j, hj with
 | 0, hj =>
  cases hj
  refine ⟨_, rfl, k51_mk w _, fun i u hu => ?_⟩
  rw [Za9, Nat.zero_add, Zaa h, ← hu]
  match i with
  | 0 => rfl
  | 1 => rfl
  | 2 => rfl
  | i + 3 => rfl
theorem C86_of_tab {w w' : World} {g : Nat} {b : Option Nat} {A : Option Addr} {L : List S86} (hb : w.heap[g]? = some (.cells #[.map b] 75 (0, 0))) (h : Kd.C k86 w A L.length L) (hg : w.grownBy w' (some g)) : Kd.C k86 w' A L.length L := by
 obtain ⟨h1, h2, h3⟩ := h
 refine ⟨h1, h2, fun hp => ?_⟩
 obtain ⟨ad, e, hr⟩ := h3 hp
 refine ⟨ad, e, fun j p hj => ?_⟩
 obtain ⟨cs, g1, g2, g3⟩ := hr j p hj
 have hk := ZcL g2
 refine ⟨cs, g1, by rw [hk]; exact k86_mk w' p, fun i u hu => ?_⟩
 have h4 := g3 i u hu
 rw [← h4]
 have hint : ∃ a, u = .int .i64 a := by
  rw [hk] at hu
  match i, hu with
  | 0, hu => cases hu; exact ⟨_, rfl⟩
  | 1, hu => cases hu; exact ⟨_, rfl⟩
  | 2, hu => cases hu; exact ⟨_, rfl⟩
  | 3, hu => cases hu; exact ⟨_, rfl⟩
 obtain ⟨a, rfl⟩ := hint
 refine World.cell?_of_block ?_
 refine hg.block _ (World.block_lt_of_cell? w _ h4) fun e => ?_
 have hblk := Option.some.inj e
 generalize ad.add (j * k86.sz + i) = q at h4 hblk
 obtain ⟨q, o, f⟩ := q
 simp only at hblk
 subst hblk
 match o with
 | 0 => simp [World.cell?, hb] at h4
 | o + 1 => simp [World.cell?, hb] at h4
theorem use0_snoc (ns : List Int) (n : Int) : use0 (ns ++ [n]) = use0 ns ++ [⟨(ns.length : Int) + 1, n, 0⟩] := by
 unfold use0
 rw [List.mapIdx_concat]
theorem mid_C {w : World} {Av : Option Addr} {B : List Rb} {cv i : Nat} (h : Kd.C kb w Av B.length B) (hi : i < B.length) (hc : B.length ≤ cv) : Kd.C kb w (Option.map (fun x => x.add (i * 6)) Av) 1 [B[i]] := by
 have h1 := c_mid (k := kb) h i (i + 1) (by omega) (by omega) hc
 have e1 : offA Av cv i kb.sz = Option.map (fun x => x.add (i * 6)) Av := if_neg (by omega)
 have e2 : (B.take (i + 1)).drop i = [B[i]] := by
  rw [← ZaM hi, List.drop_append_of_le_length (by rw [List.length_take]; omega), List.drop_of_length_le (by rw [List.length_take]; omega)]
  rfl
 rw [e1, e2, show i + 1 - i = 1 by omega] at h1
 exact h1
theorem Mid.below {st g gt bt N base base2 : Nat} {v7 : Value} {ns : List Int} {s : Sb} {w w' : World} (h : Mid st g gt bt N base base2 v7 ns s w) (hb : Below w.heap.size w w') : Mid st g gt bt N base base2 v7 ns s w' :=
 ⟨h.ok, h.owns.below hb, Zag h.blk hb, h.map.below hb, h.tab.below hb, Kd.R_below h.use hb, h.key, h.upto, h.epoch, h.room⟩
theorem Sb.Owns.far {s : Sb} {w w' : World} {base : Nat} {row : Option Nat} (h : s.Owns w base) (hg : w.grownBy w' row) (hr : ∀ j, row = some j → j < base) : s.Owns w' base :=
 ⟨Kd.R_mono (Kd.R_grown (Kd.R_bound h.m) hg (fun k hk e => by have h3 := hk.2.1; have h4 := hr k e.symm; omega)) (fun _ _ => trivial), Kd.R_mono (Kd.R_grown (Kd.R_bound h.r) hg (fun k hk e => by have h3 := hk.2.1; have h4 := hr k e.symm; omega)) (fun _ _ => trivial)⟩
theorem tab_ne {w : World} {gt bt N base : Nat} {T : List S51} {v : Value} {xs : List S54} (h : TbB w gt bt N T) (hR : k54.R 54 w base (fun _ => True) v xs) : some bt ≠ v.ownBlock := fun e => by
 obtain ⟨_, inner, ho, _⟩ := hR
 obtain ⟨cs, hc⟩ := ZbW ho bt e.symm
 obtain ⟨_, _, D, ⟨es, clock, hb, _⟩, _⟩ := h
 rw [hb] at hc
 cases hc
theorem tab_bt {w : World} {gt bt N : Nat} {T : List S51} (h : TbB w gt bt N T) : bt ≠ gt := fun e => by
 obtain ⟨h0, _, D, ⟨es, clock, hb, _⟩, _⟩ := h
 rw [e, h0] at hb
 cases hb
theorem MapO.at {w : World} {g base : Nat} {L : List S86} (h : MapO w g base L) : MapAt w g L := by
 obtain ⟨A, c, h1, h2⟩ := h
 have h3 := Kd.R_reads' h2
 exact ⟨A, c, h1, h3.2.1, h3.2.2⟩
theorem same_l0 (L : List S86) (hL : L.length ≤ 100000) : ∀ (k j : Nat), j ≤ L.length → L.length < k + j → ZaC.l0 k L L (j : Int) = some true
 | 0, j, hj, h => by omega
 | k + 1, j, hj, h => by
  unfold ZaC.l0
  by_cases c : (j : Int) < (L.length : Int)
  ·rw [if_pos c, if_pos (by omega), if_pos c, if_neg (by simp), ZaH _ (by omega), show (j : Int) + 1 = ((j + 1 : Nat) : Int) by omega]
   exact same_l0 L hL k (j + 1) (by omega) (by omega)
  ·rw [if_neg c]
theorem same_f (L : List S86) (hL : L.length ≤ 100000) : ZaC.f (L.length + 1) L L = some true := by
 unfold ZaC.f
 rw [if_pos rfl]
 exact same_l0 L hL (L.length + 1) 0 (by omega) (by omega)
set_option maxRecDepth 100000 in
set_option maxHeartbeats 32000000 in
theorem topRows_calls (HAw : ∀ W, Calls Tryz.prog 7 #[] W fun e w' => e = .returned (.bool true) ∧ Below W.heap.size W w') (l : List S63) (A : Option Addr) (c : Nat) (w : World) (hr : Kd.C k63 w A l.length l) (hc : l.length ≤ c) (hlen : 80 * (l.length + 1) ≤ 140737488355328) :
  Calls Tryz.prog 3 #[.slice A l.length c] w fun e w' => e = .returned (.bool true) ∧ Below w.heap.size w w' := by
 have hu22 := Tryz.underlying22
 have hu23 := Tryz.underlying23
 have hu25 := Tryz.underlying25
 have hu27 := Tryz.underlying27
 have hu34 := Tryz.underlying34
 have hu36 := Tryz.underlying36
 have hu40 := Tryz.underlying40
 have hu43 := Tryz.underlying43
 have hu3 := Tryz.underlying3
 have hu32 := Tryz.underlying32
 have hu51 := Tryz.underlying51
 have hu54 := Tryz.underlying54
 have hu31 := Tryz.underlying31
 have hu30 := Tryz.underlying30
 have hu63 := Tryz.underlying63
 have hu97 := Tryz.underlying97
 have HAW := Aside0.mk HAw
 have HRt := Aside0.mk (right_calls l A c w hr hc hlen)
 clear HAw hr hlen
 go_enter Tryz.func3, Tryz.ntmps3
 go_wp2_with (fail)
 refine HRt.out.mono ?_
 rintro e w1 ⟨v, ok, B, rfl, hb1, hok⟩
 have HB1 := Aside0.mk hb1
 clear hb1 HRt
 cases ok with
 | false =>
  clear hok
  go_wp2_with (fail)
  refine (Zc5 w1).mono ?_
  rintro e w2 ⟨g, rfl, _, _, hb⟩
  have HB2 := Aside0.mk (Zae HB1.out hb)
  clear hb
  go_wp2_with (fail)
  refine (newB w2).mono ?_
  rintro e w3 ⟨gt, bt, rfl, _, _, _, hb⟩
  have HB3 := Aside0.mk (Zae HB2.out hb)
  clear hb
  go_wp2_with (fail)
  refine (HAW.out _).mono ?_
  rintro e w4 ⟨rfl, hb⟩
  have HB4 := Aside0.mk (Zae HB3.out hb)
  clear hb
  go_wp2_with (fail)
  go_ret
  exact ⟨rfl, HB4.out⟩
 | true =>
  obtain ⟨hB12, hRB, hGd⟩ := hok rfl
  obtain ⟨Av, cv, rfl, hcv, hCB⟩ := Kd.R_reads hRB
  have HCB := Aside0.mk hCB
  have HC1 := HCB
  have HGd := Aside0.mk hGd
  clear hok hRB hCB hGd
  go_wp2_with (fail)
  refine (Zc5 w1).mono ?_
  rintro e w2 ⟨g, rfl, hg, hMg, hb⟩
  have HB2 := Aside0.mk (Zae HB1.out hb)
  have HBo2 := Aside0.mk hb
  have HC2 := Aside0.mk (Kd.C_below HCB.out hb)
  have HM2 := Aside0.mk hMg
  have Hg := Aside0.mk (show w.heap.size ≤ g by have := HB1.out.size; omega)
  have Hg1 := Aside0.mk hg
  clear hb hg hMg HCB
  go_wp2_with (fail)
  refine (newB w2).mono ?_
  rintro e w3 ⟨gt, bt, rfl, hgt, hbt, hTb, hb⟩
  have HB3 := Aside0.mk (Zae HB2.out hb)
  have HBo3 := Aside0.mk (Zae HBo2.out hb)
  have HC3 := Aside0.mk (Kd.C_below HC2.out hb)
  have Hgt := Aside0.mk (show g < gt by have := HM2.out.lt; omega)
  have Hbt := Aside0.mk (show g < bt by have := HM2.out.lt; omega)
  have HM3 := Aside0.mk (HM2.out.below hb)
  have HT3 := Aside0.mk hTb
  have Hne := Aside0.mk (show bt ≠ gt from tab_bt hTb)
  clear hb hgt hbt hTb HC2 HM2
  go_wp2_with (fail)
  refine (ZbU.calls 7 64 7 1 0 0 64 [] [] ⟨#[]⟩ w3 rfl).mono ?_
  rintro e w4 ⟨v5, v6, rfl, hR5, hR6, hb⟩
  have HB4 := Aside0.mk (Zae HB3.out hb)
  have HBo4 := Aside0.mk (Zae HBo3.out hb)
  have HC4 := Aside0.mk (Kd.C_below HC3.out hb)
  have HM4 := Aside0.mk (HM3.out.below hb)
  have HT4 := Aside0.mk (HT3.out.below hb)
  obtain ⟨A5, c5, rfl⟩ := Kd.R_slice hR5
  obtain ⟨A6, c6, rfl⟩ := Kd.R_slice hR6
  simp only [List.length_nil] at hR5 hR6 ⊢
  have ba := Zab (Below.refl _ w4) (.cells #[.int .u64 7, .int .i64 1, .int .i64 0, .int .i64 0, .int .i64 64, .slice A5 0 c5, .slice A6 0 c6, .string ⟨#[]⟩] 34)
  have hst := Zas w4 (.cells #[.int .u64 7, .int .i64 1, .int .i64 0, .int .i64 0, .int .i64 64, .slice A5 0 c5, .slice A6 0 c6, .string ⟨#[]⟩] 34)
  have hsz : (w4.alloc (.cells #[.int .u64 7, .int .i64 1, .int .i64 0, .int .i64 0, .int .i64 64, .slice A5 0 c5, .slice A6 0 c6, .string ⟨#[]⟩] 34)).heap.size = w4.heap.size + 1 := by simp
  have HSO : Aside0 ((⟨7, 1, 0, 0, 64, A5, c5, [], A6, c6, [], ⟨#[]⟩⟩ : Sb).Owns (w4.alloc (.cells #[.int .u64 7, .int .i64 1, .int .i64 0, .int .i64 0, .int .i64 64, .slice A5 0 c5, .slice A6 0 c6, .string ⟨#[]⟩] 34)) w3.heap.size) := ⟨⟨Kd.R_below hR5 ba, Kd.R_below hR6 ba⟩⟩
  have HB5 := Aside0.mk (Zae HB4.out ba)
  have HBo5 := Aside0.mk (Zae HBo4.out ba)
  have HC5 := Aside0.mk (Kd.C_below HC4.out ba)
  have HM5 := Aside0.mk (HM4.out.below ba)
  have HT5 := Aside0.mk (HT4.out.below ba)
  have HSt := Aside0.mk hst
  have HSz := Aside0.mk hsz
  have H3 := Aside0.mk (show g < w3.heap.size ∧ gt < w3.heap.size ∧ w3.heap.size ≤ w4.heap.size from ⟨HM3.out.lt, blk_lt HT3.out.1, hb.size⟩)
  have Hst := Aside0.mk (show g < w4.heap.size ∧ gt < w4.heap.size ∧ bt < w4.heap.size from ⟨HM4.out.lt, blk_lt HT4.out.1, by obtain ⟨_, D, h, _⟩ := HT4.out.2; exact h.lt⟩)
  clear hb ba hst hsz HC3 HM3 HT3 hR5 hR6
  go_wp2_with (fail)
  generalize w4.alloc (.cells #[.int .u64 7, .int .i64 1, .int .i64 0, .int .i64 0, .int .i64 64, .slice A5 0 c5, .slice A6 0 c6, .string ⟨#[]⟩] 34) = w5 at HSO HB5 HBo5 HC5 HM5 HT5 HSt HSz ⊢
  obtain ⟨st, hste⟩ : ∃ st, w4.heap.size = st := ⟨_, rfl⟩
  rw [hste] at HSt HSz Hst H3 ⊢
  obtain ⟨b0, hb0⟩ : ∃ b0, w3.heap.size = b0 := ⟨_, rfl⟩
  rw [hb0] at HSO H3
  obtain ⟨n, hnl⟩ : ∃ n, B.length = n := ⟨_, rfl⟩
  rw [hnl] at HC5 hcv hB12 ⊢
  have HNl := Aside0.mk hnl
  clear hnl hb0 hste
  go_loopg [7, 8] n (fun kx v7 v8 wr => ∃ (i : Nat) (ns : List Int) (s : Sb) (bt' N : Nat), v8 = .int .i64 (i : Int) ∧ i ≤ n ∧ n - i ≤ kx ∧ Aside0 (ns.length = i) ∧ Aside0 (Below w.heap.size w wr) ∧ Aside0 (Below w1.heap.size w1 wr) ∧ Aside0 (st < wr.heap.size) ∧
   Aside0 (w.heap.size ≤ bt' ∧ bt' ≠ g ∧ bt' ≠ gt ∧ bt' ≠ st) ∧ Aside0 (Mid st g gt bt' N b0 (st + 1) v7 ns s wr))
  case atStart =>
   refine ⟨0, [], ⟨7, 1, 0, 0, 64, A5, c5, [], A6, c6, [], ⟨#[]⟩⟩, bt, 0, rfl, Nat.zero_le _, by omega, ⟨rfl⟩, HB5, ⟨?_⟩, ⟨by have := HSz.out; omega⟩, ⟨?_⟩, ⟨⟨new_ok A5 c5 A6 c6, HSO.out, HSt.out, HM5.out, ?_, Kd.R_nil _ _ _ _ _, rfl, (show (0 : Int) ≤ 0 by omega), rfl, Nat.zero_le _⟩⟩⟩
   ·exact HBo5.out
   ·exact ⟨by have := Hg.out; have := Hbt.out; omega, by have := Hbt.out; omega, Hne.out, by have := Hst.out; omega⟩
   ·exact HT5.out
  case round =>
   obtain ⟨i, ns, s, bt', N, rfl, hi, hik, HNs, HB, HBo, HSl, HDj, HMd⟩ := hrel
   by_cases hlt : i < n
   ·--F<
    have hi1 : i + 1 ≤ n := hlt
    have hiB : i < B.length := by have := HNl.out; omega
    have hBi := HGd.out
    have hri := (hBi.reads B[i] (List.getElem_mem hiB)).below HB.out
    have hoi := hBi.ok B[i] (List.getElem_mem hiB)
    have hni := hBi.num i hiB
    have hCi := mid_C (Kd.C_below HC1.out HBo.out) hiB (by rw [HNl.out]; exact hcv)
    have HSe := Aside0.mk (sealed_calls B[i] _ (cv - i) ((i : Int) + 1) wr hCi hri hoi ⟨by omega, by omega⟩)
    rw [hni] at HSe
    clear hBi hri hoi hni hCi
    go_wp2_with (fail)
    refine HSe.out.mono ?_
    rintro e w6 ⟨o, rfl, hro, hoo, ⟨k1, k2, k3, k4, k5⟩, hb6⟩
    have HB6 := Aside0.mk (Zae HB.out hb6)
    have HBo6 := Aside0.mk (Zae HBo.out hb6)
    have HMd6 := Aside0.mk (HMd.out.below hb6)
    have HSl6 := Aside0.mk (Nat.lt_of_lt_of_le HSl.out hb6.size)
    have HRo := Aside0.mk hro
    have HOo := Aside0.mk hoo
    clear hb6 hro hoo HSe HMd HB HBo HSl
    obtain ⟨okey, oep, osq, oup, pa, pc, P, ca, cc, C, odt⟩ := o
    simp only at k1 k2 k3 k4 k5
    subst k1 k2 k3 k4
    have HNe := Aside0.mk k5
    clear k5
    unfold Ob.val
    simp only [List.length_map]
    have hob := Zas w6 (.cells #[.int .u64 7, .int .i64 1, .int .i64 ((i : Int) + 1), .int .i64 ((i : Int) + 1), .slice pa P.length pc, .slice ca C.length cc, .string odt] 40)
    have ba := Zab (Below.refl _ w6) (.cells #[.int .u64 7, .int .i64 1, .int .i64 ((i : Int) + 1), .int .i64 ((i : Int) + 1), .slice pa P.length pc, .slice ca C.length cc, .string odt] 40)
    have HOX := Aside0.mk hob
    have HB7 := Aside0.mk (Zae HB6.out ba)
    have HBo7 := Aside0.mk (Zae HBo6.out ba)
    have HMd7 := Aside0.mk (HMd6.out.below ba)
    have HRo7 := Aside0.mk (HRo.out.below ba)
    obtain ⟨p0, p1, p2, p3, p4, p5, p6⟩ := ocells hob
    clear hob ba HMd6 HRo HB6 HBo6
    obtain ⟨key, ep, sq, up, sz, ma, mc, L, ra, rc, R, nt⟩ := s
    have hApp := Zdt g L _ _ HMd7.out.map HMd7.out.ok.inv.ok HRo7.out HOo.out
    unfold Ob.val at hApp
    simp only [List.length_map] at hApp
    have HNs2 := Aside0.mk (show (ns.length : Int) = (i : Int) by rw [HNs.out])
    obtain ⟨z1, z2, z3, z4, z5⟩ := stepT HMd7.out.ok.inv (by have := HNs.out; omega) HOo.out.obj
    simp only at z1 z2 z3 z4 z5
    have e1 : L.foldl apOut (applyE L ((i : Int) + 1) P C) = moreE L ((i : Int) + 1) P C := rfl
    have e2 : (applyE L ((i : Int) + 1) P C).foldl apOut L = lessE L ((i : Int) + 1) P C := rfl
    rw [e1, e2] at hApp
    rw [HNs2.out] at z1 z2 z3 z4 z5
    have HZ1 := Aside0.mk z1
    have HZ2 := Aside0.mk z2
    have HZ3 := Aside0.mk z3
    have HZ4 := Aside0.mk z4
    have HZ5 := Aside0.mk z5
    clear z1 z2 z3 z4 z5
    have HApp := Aside0.mk hApp
    clear hApp e1 e2
    go_wp2_with (fail)
    generalize w6.alloc (.cells #[.int .u64 7, .int .i64 1, .int .i64 ((i : Int) + 1), .int .i64 ((i : Int) + 1), .slice pa P.length pc, .slice ca C.length cc, .string odt] 40) = w7 at HOX HB7 HBo7 HMd7 HRo7 HApp p0 p1 p2 p3 p4 p5 p6 ⊢
    obtain ⟨ob, hobe⟩ : ∃ ob, w6.heap.size = ob := ⟨_, rfl⟩
    have Hob := Aside0.mk (show st < ob by have := HSl6.out; omega)
    rw [hobe] at HOX p0 p1 p2 p3 p4 p5 p6 ⊢
    clear p0 p1 p2 p3 p4 p5 p6 hobe
    obtain ⟨M, hM⟩ : ∃ M, moreE L ((i : Int) + 1) P C = M := ⟨_, rfl⟩
    obtain ⟨Nn, hNn⟩ : ∃ Nn, lessE L ((i : Int) + 1) P C = Nn := ⟨_, rfl⟩
    obtain ⟨L1, hL1⟩ : ∃ L1, applyE L ((i : Int) + 1) P C = L1 := ⟨_, rfl⟩
    rw [hM, hNn, hL1] at HApp HZ5
    rw [hM] at HZ2
    rw [hNn] at HZ3
    rw [hL1] at HZ1
    have HL1 := Aside0.mk hL1
    clear hM hNn hL1
    refine HApp.out.mono ?_
    rintro e w8 ⟨A1, c1, A2, c2, rfl, ⟨hc1, hc2⟩, ⟨hC1, hC2⟩, _, hM8', hg8⟩
    have hM8 := hM8' HNe.out
    clear hM8'
    have HCM := Aside0.mk hC1
    have HCN := Aside0.mk hC2
    have Hcc := Aside0.mk (And.intro hc1 hc2)
    have HM8 := Aside0.mk hM8
    have Hgge := Aside0.mk (show w.heap.size ≤ g ∧ w1.heap.size ≤ g from ⟨Hg.out, Hg1.out⟩)
    have HB8 := Aside0.mk (HB7.out.grown hg8 HB7.out.size (fun j hj => by obtain rfl := Option.some.inj hj; exact Hgge.out.1))
    have HBo8 := Aside0.mk (HBo7.out.grown hg8 HBo7.out.size (fun j hj => by obtain rfl := Option.some.inj hj; exact Hgge.out.2))
    have HOX8 := Aside0.mk (Zay HOX.out hg8 (by intro e; have := Option.some.inj e; have := Hob.out; have := Hst.out.1; omega))
    have HSB8 := Aside0.mk (Zay HMd7.out.blk hg8 (by intro e; have := Option.some.inj e; have := Hst.out.1; omega))
    have HSO8 := Aside0.mk (HMd7.out.owns.off H3.out.1 hg8)
    have HTb8 := Aside0.mk (HMd7.out.tab.grown hg8 (by intro e; have := Option.some.inj e; have := Hgt.out; omega) (by intro e; exact HDj.out.2.1 (Option.some.inj e)))
    have HUs8 := Aside0.mk (R_offG HMd7.out.use (by have := Hst.out.1; omega) hg8)
    have HRo8 := Aside0.mk (by obtain ⟨X, nn, hq, _⟩ := HMd7.out.map; exact HRo7.out.map hq hg8)
    have H7 := Aside0.mk (show st < w7.heap.size ∧ gt < w7.heap.size ∧ ∀ j, u7.ownBlock = some j → j < w7.heap.size from ⟨blk_lt HMd7.out.blk, blk_lt HMd7.out.tab.1, Kd.R_lt HMd7.out.use⟩)
    have HOk := Aside0.mk (HMd7.out.ok)
    have Hh7 := Aside0.mk hg8.size
    have HKy := Aside0.mk (show key = 7 ∧ up ≤ (i : Int) ∧ ep = 1 ∧ N ≤ 100 * i from ⟨HMd7.out.key, by rw [← HNs2.out]; exact HMd7.out.upto, HMd7.out.epoch, by have := HMd7.out.room; rw [HNs.out] at this; exact this⟩)
    have Hob8 := Aside0.mk (blk_lt HOX8.out)
    have Hst8 := Aside0.mk (blk_lt HSB8.out)
    clear hC1 hC2 hc1 hc2 hM8 hg8 HApp HMd7 HRo7 HOX HB7 HBo7
    unfold Sb.cells at HSB8
    simp only at HSB8
    obtain ⟨q0, q1, q2, q3, q4, q5, q6, q7⟩ := scells HSB8.out
    obtain ⟨p0, p1, p2, p3, p4, p5, p6⟩ := ocells HOX8.out
    have ba := Zab (Below.refl _ w8) (.cells #[.int .u64 7, .int .i64 1, .int .i64 ((i : Int) + 1), .int .i64 ((i : Int) + 1), .slice pa P.length pc, .slice ca C.length cc, .string odt] 40)
    have hgs := Zas w8 (.cells #[.int .u64 7, .int .i64 1, .int .i64 ((i : Int) + 1), .int .i64 ((i : Int) + 1), .slice pa P.length pc, .slice ca C.length cc, .string odt] 40)
    have hFo := Zbm ⟨key, ep, sq, up, sz, ma, mc, L, ra, rc, R, nt⟩ ⟨7, 1, (i : Int) + 1, (i : Int) + 1, pa, pc, P, ca, cc, C, odt⟩ ns w8.heap.size (w8.alloc (.cells #[.int .u64 7, .int .i64 1, .int .i64 ((i : Int) + 1), .int .i64 ((i : Int) + 1), .slice pa P.length pc, .slice ca C.length cc, .string odt] 40)) (HSO8.out.reads.below ba) HOk.out (HRo8.out.below ba) HOo.out HKy.out.1.symm
     (show (i : Int) + 1 = sq + 1 by have h1 : sq = (ns.length : Int) := HOk.out.seq; rw [h1, HNs2.out]) (show ep ≤ 1 by rw [HKy.out.2.2.1]; exact Int.le_refl _) (show up ≤ (i : Int) + 1 by have := HKy.out.2.1; omega) (by unfold Ob.cells; simp only [List.length_map]; exact hgs) (by have := HNs.out; omega)
    unfold Sb.val Sb.cells at hFo
    simp only at hFo
    have HFo := Aside0.mk hFo
    have HB9 := Aside0.mk (Zae HB8.out ba)
    have HBa9 := Aside0.mk ba
    clear hFo ba hgs
    go_wp2_with (fail)
    clear p0 p1 p2 p3 p4 p5 p6 q0 q1 q2 q3 q4 q5 q6 q7
    refine HFo.out.mono ?_
    rintro e w10 ⟨s2, rfl, hso, hsok, ⟨l1, l2, l3, l4⟩, hb10⟩
    have HB10 := Aside0.mk (Zae HB9.out hb10)
    have Hb8 := Aside0.mk (Zae HBa9.out hb10)
    have HSO2 := Aside0.mk hso
    have HSk2 := Aside0.mk hsok
    obtain ⟨key2, ep2, sq2, up2, sz2, ma2, mc2, L2, ra2, rc2, R2, nt2⟩ := s2
    simp only at l1 l2 l3 l4
    rw [HL1.out] at l1
    have l1' := l1.symm
    clear l1
    subst l1'
    have HQ2 := Aside0.mk (show key2 = 7 ∧ ep2 = 1 ∧ up2 = (i : Int) + 1 from ⟨by rw [l2]; exact HKy.out.1, l3, l4⟩)
    have HBo10 := Aside0.mk (Zae HBo8.out Hb8.out)
    have HOX10 := Aside0.mk (Zag HOX8.out Hb8.out)
    have HSB10 := Aside0.mk (Zag HSB8.out Hb8.out)
    have HTb10 := Aside0.mk (HTb8.out.below Hb8.out)
    have HUs10 := Aside0.mk (Kd.R_below HUs8.out Hb8.out)
    have HM10 := Aside0.mk (HM8.out.below Hb8.out)
    have HCM10 := Aside0.mk (Kd.C_below HCM.out Hb8.out)
    have HCN10 := Aside0.mk (Kd.C_below HCN.out Hb8.out)
    have HRo10 := Aside0.mk (HRo8.out.below Hb8.out)
    have Hob10 := Aside0.mk (show ob < w10.heap.size from blk_lt HOX10.out)
    have Hw9 := Aside0.mk (show st < (w8.alloc (.cells #[.int .u64 7, .int .i64 1, .int .i64 ((i : Int) + 1), .int .i64 ((i : Int) + 1), .slice pa P.length pc, .slice ca C.length cc, .string odt] 40)).heap.size by have := HBa9.out.size; have := Hst8.out; omega)
    clear hb10 hso hsok l2 l3 l4 HOX8 HSB8 HTb8 HUs8 HM8 HCM HCN HRo8 HBo8 HB8 HB9 HSO8
    simp only
    have ba := Zab (Below.refl _ w10) (.cells #[.int .u64 key2, .int .i64 ep2, .int .i64 sq2, .int .i64 up2, .int .i64 sz2, .slice ma2 L1.length mc2, .slice ra2 R2.length rc2, .string nt2] 34)
    have hsp := Zas w10 (.cells #[.int .u64 key2, .int .i64 ep2, .int .i64 sq2, .int .i64 up2, .int .i64 sz2, .slice ma2 L1.length mc2, .slice ra2 R2.length rc2, .string nt2] 34)
    have HB11 := Aside0.mk (Zae HB10.out ba)
    have HBo11 := Aside0.mk (Zae HBo10.out ba)
    have HSP := Aside0.mk hsp
    have HOX11 := Aside0.mk (Zag HOX10.out ba)
    have HSB11 := Aside0.mk (Zag HSB10.out ba)
    have HTb11 := Aside0.mk (HTb10.out.below ba)
    have HUs11 := Aside0.mk (Kd.R_below HUs10.out ba)
    have HM11 := Aside0.mk (HM10.out.below ba)
    have HCM11 := Aside0.mk (Kd.C_below HCM10.out ba)
    have HCN11 := Aside0.mk (Kd.C_below HCN10.out ba)
    have HSO11 := Aside0.mk (HSO2.out.below ba)
    have hsec := Ob.sectors _ _ (HRo10.out.below ba) HOo.out
    unfold Ob.val at hsec
    simp only [List.length_map] at hsec
    have HSec := Aside0.mk hsec
    obtain ⟨p0, p1, p2, p3, p4, p5, p6⟩ := ocells HOX11.out
    clear ba hsp hsec HOX10 HSB10 HTb10 HUs10 HM10 HCM10 HCN10 HSO2 HBo10 HB10 HRo10
    go_wp2_with (fail)
    clear p0 p1 p2 p3 p4 p5 p6
    generalize w10.alloc (.cells #[.int .u64 key2, .int .i64 ep2, .int .i64 sq2, .int .i64 up2, .int .i64 sz2, .slice ma2 L1.length mc2, .slice ra2 R2.length rc2, .string nt2] 34) = w11 at HB11 HBo11 HSP HOX11 HSB11 HTb11 HUs11 HM11 HCM11 HCN11 HSO11 HSec ⊢
    obtain ⟨sp, hspe⟩ : ∃ sp, w10.heap.size = sp := ⟨_, rfl⟩
    have Hsp := Aside0.mk (show st < sp ∧ ob < sp by have := Hob.out; have := Hob10.out; omega)
    rw [hspe] at HSP ⊢
    clear hspe Hob10
    refine HSec.out.mono ?_
    rintro e w12 ⟨rfl, hb12⟩
    have HB12 := Aside0.mk (Zae HB11.out hb12)
    have HBo12 := Aside0.mk (Zae HBo11.out hb12)
    have HSP12 := Aside0.mk (Zag HSP.out hb12)
    have HSB12 := Aside0.mk (Zag HSB11.out hb12)
    have HTb12 := Aside0.mk (HTb11.out.below hb12)
    have HUs12 := Aside0.mk (Kd.R_below HUs11.out hb12)
    have HM12 := Aside0.mk (HM11.out.below hb12)
    have HCM12 := Aside0.mk (Kd.C_below HCM11.out hb12)
    have HCN12 := Aside0.mk (Kd.C_below HCN11.out hb12)
    have HSO12 := Aside0.mk (HSO11.out.below hb12)
    clear hb12 HSec HSP HSB11 HTb11 HUs11 HM11 HCM11 HCN11 HSO11 HB11 HBo11 HOX11
    obtain ⟨tp, htp⟩ : ∃ tp, totS P = tp := ⟨_, rfl⟩
    rw [htp] at HZ1 HZ4 HZ5 HSk2
    have HTp := Aside0.mk htp
    have Htb := Aside0.mk (show 0 ≤ tp ∧ tp ≤ 12 by rw [← htp]; exact ⟨HOo.out.obj.lens.2.2.1, HOo.out.obj.lens.2.2.2⟩)
    simp only [htp]
    clear htp
    have ba := Zab (Below.refl _ w12) (.cells #[.int .i64 ((i : Int) + 1), .int .i64 tp, .int .i64 0] 51)
    have hrw := c_lit51 (Zas w12 (.cells #[.int .i64 ((i : Int) + 1), .int .i64 tp, .int .i64 0] 51))
    have hAd := addB_calls gt bt' N (rowsOf L ns) (some ⟨w12.heap.size, 0, none⟩) 1 [⟨(i : Int) + 1, tp, 0⟩] (w12.alloc (.cells #[.int .i64 ((i : Int) + 1), .int .i64 tp, .int .i64 0] 51)) (HTb12.out.below ba) hrw (by have := HKy.out.2.2.2; simp only [List.length_cons, List.length_nil]; omega)
    rw [HZ4.out] at hAd
    simp only [List.length_cons, List.length_nil] at hAd
    have HAd := Aside0.mk hAd
    have HBa13 := Aside0.mk ba
    clear ba hrw hAd
    go_wp2_with (fail)
    refine HAd.out.mono ?_
    rintro e w14 ⟨rfl, b1, hb1, hT14, hg14⟩
    have HBg := Aside0.mk (show w.heap.size ≤ gt ∧ w1.heap.size ≤ gt from ⟨by have := Hg.out; have := Hgt.out; omega, by have := Hg1.out; have := Hgt.out; omega⟩)
    have HTb13 := Aside0.mk (HTb12.out.below HBa13.out)
    have HT14 := Aside0.mk hT14
    have HB14 := Aside0.mk ((Zae HB12.out HBa13.out).grown hg14 (Zae HB12.out HBa13.out).size (fun j hj => by obtain rfl := Option.some.inj hj; exact HBg.out.1))
    have HBo14 := Aside0.mk ((Zae HBo12.out HBa13.out).grown hg14 (Zae HBo12.out HBa13.out).size (fun j hj => by obtain rfl := Option.some.inj hj; exact HBg.out.2))
    have HSP14 := Aside0.mk (Zay (Zag HSP12.out HBa13.out) hg14 (by intro e; have := Option.some.inj e; have := Hsp.out.1; have := Hst.out.2.1; omega))
    have HSB14 := Aside0.mk (Zay (Zag HSB12.out HBa13.out) hg14 (by intro e; have := Option.some.inj e; have := Hst.out.2.1; omega))
    have HSO14 := Aside0.mk ((HSO12.out.below HBa13.out).off (show gt < (w8.alloc (.cells #[.int .u64 7, .int .i64 1, .int .i64 ((i : Int) + 1), .int .i64 ((i : Int) + 1), .slice pa P.length pc, .slice ca C.length cc, .string odt] 40)).heap.size by have := Hw9.out; have := Hst.out.2.1; omega) hg14)
    have HM14 := Aside0.mk ((HM12.out.below HBa13.out).far hg14 (by intro e; have := Option.some.inj e; have := Hgt.out; omega) (fun j hj => by obtain rfl := Option.some.inj hj; exact H7.out.2.1))
    have HUs14 := Aside0.mk (R_offG (Kd.R_below HUs12.out HBa13.out) (show gt < st + 1 by have := Hst.out.2.1; omega) hg14)
    have HCM14 := Aside0.mk (C86_of_tab HTb13.out.1 (Kd.C_below HCM12.out HBa13.out) hg14)
    have HCN14 := Aside0.mk (C86_of_tab HTb13.out.1 (Kd.C_below HCN12.out HBa13.out) hg14)
    have HDj1 := Aside0.mk (show b1 ≠ g ∧ b1 ≠ gt ∧ b1 ≠ st ∧ w.heap.size ≤ b1 from by
     rcases hb1 with rfl | h
     ·exact ⟨HDj.out.2.1, HDj.out.2.2.1, HDj.out.2.2.2, HDj.out.1⟩
     ·have h2 := blk_lt (Zag HSB12.out HBa13.out)
      have h3 := Hst.out
      have h4 := (Zae HB12.out HBa13.out).size
      exact ⟨by omega, by omega, by omega, by omega⟩)
    have hCg := change_calls gt b1 (N + 1) (by have := HKy.out.2.2.2; omega) _ A1 c1 M A2 c2 Nn HZ2.out HZ3.out w14 HT14.out HCM14.out HCN14.out
    rw [HZ5.out] at hCg
    have HCg := Aside0.mk hCg
    clear hb1 hT14 hg14 hCg HTb13 HT14 HAd HTb12 HUs12 HM12 HCM12 HCN12 HSO12 HSP12 HSB12 HB12 HBo12
    go_wp2_with (fail)
    refine HCg.out.mono ?_
    rintro e w15 ⟨rfl, b2, hb2, hT15, hg15⟩
    have HT15 := Aside0.mk hT15
    have HB15 := Aside0.mk (HB14.out.grown hg15 HB14.out.size (fun j hj => by obtain rfl := Option.some.inj hj; exact HBg.out.1))
    have HBo15 := Aside0.mk (HBo14.out.grown hg15 HBo14.out.size (fun j hj => by obtain rfl := Option.some.inj hj; exact HBg.out.2))
    have HSP15 := Aside0.mk (Zay HSP14.out hg15 (by intro e; have := Option.some.inj e; have := Hsp.out.1; have := Hst.out.2.1; omega))
    have HSB15 := Aside0.mk (Zay HSB14.out hg15 (by intro e; have := Option.some.inj e; have := Hst.out.2.1; omega))
    have HSO15 := Aside0.mk (HSO14.out.off (show gt < (w8.alloc (.cells #[.int .u64 7, .int .i64 1, .int .i64 ((i : Int) + 1), .int .i64 ((i : Int) + 1), .slice pa P.length pc, .slice ca C.length cc, .string odt] 40)).heap.size by have := Hw9.out; have := Hst.out.2.1; omega) hg15)
    have HM15 := Aside0.mk (HM14.out.far hg15 (by intro e; have := Option.some.inj e; have := Hgt.out; omega) (fun j hj => by obtain rfl := Option.some.inj hj; exact H7.out.2.1))
    have HUs15 := Aside0.mk (R_offG HUs14.out (show gt < st + 1 by have := Hst.out.2.1; omega) hg15)
    have HDj2 := Aside0.mk (show w.heap.size ≤ b2 ∧ b2 ≠ g ∧ b2 ≠ gt ∧ b2 ≠ st from by
     rcases hb2 with rfl | h
     ·exact ⟨HDj1.out.2.2.2, HDj1.out.1, HDj1.out.2.1, HDj1.out.2.2.1⟩
     ·have h2 := blk_lt HSB14.out
      have h3 := Hst.out
      have h4 := HB14.out.size
      exact ⟨by omega, by omega, by omega, by omega⟩)
    clear hb2 hT15 hg15 HCg HSO14 HM14 HUs14 HSP14 HSB14 HB14 HBo14 HCM14 HCN14 HDj1
    obtain ⟨q0, q1, q2, q3, q4, q5, q6, q7⟩ := scells HSP15.out
    go_wp2_with (first | ((with_reducible refine gate_ (.store 34 (.tmp 6) (.tmp 109)) rfl ?_); refine ZaX 34 (.tmp 6) (.tmp 109) rfl rfl rfl (.agg #[.int .u64 key2, .int .i64 ep2, .int .i64 sq2, .int .i64 up2, .int .i64 sz2, .slice ma2 L1.length mc2, .slice ra2 R2.length rc2, .string nt2]) [.int .u64 key2, .int .i64 ep2, .int .i64 sq2, .int .i64 up2, .int .i64 sz2, .slice ma2 L1.length mc2, .slice ra2 R2.length rc2, .string nt2] rfl rfl rfl (by kernel_rfl) HSB15.out (Nat.le_refl 8) (by intro q hq; simp only [List.mem_cons, List.not_mem_nil, or_false] at hq; rcases hq with rfl | rfl | rfl | rfl | rfl | rfl | rfl | rfl <;> rfl) ?_; have hz16 := set8 (v0 := .int .u64 key2) (v1 := .int .i64 ep2) (v2 := .int .i64 sq2) (v3 := .int .i64 up2) (v4 := .int .i64 sz2) (v5 := .slice ma2 L1.length mc2) (v6 := .slice ra2 R2.length rc2) (v7 := .string nt2) HSB15.out; have hgx := ZaJ st [.int .u64 key2, .int .i64 ep2, .int .i64 sq2, .int .i64 up2, .int .i64 sz2, .slice ma2 L1.length mc2, .slice ra2 R2.length rc2, .string nt2] 0 w15; have HZ16 := Aside0.mk hz16; have HGX := Aside0.mk hgx; clear hz16 hgx q0 q1 q2 q3 q4 q5 q6 q7; generalize w15.setCells st 0 [.int .u64 key2, .int .i64 ep2, .int .i64 sq2, .int .i64 up2, .int .i64 sz2, .slice ma2 L1.length mc2, .slice ra2 R2.length rc2, .string nt2] = w16 at HZ16 HGX ⊢; have HUs16 := Aside0.mk (R_offG HUs15.out (Nat.lt_succ_self st) HGX.out); have HS16 := Aside0.mk (show st + 1 ≤ w16.heap.size from blk_lt HZ16.out)) | (at_builtin; refine app54 rfl _ _ rfl u7 (use0 ns) ⟨(i : Int) + 1, tp, 0⟩ rfl rfl HUs16.out HS16.out (by rw [ZbF, HNs.out]; omega) ?_; intro v17 w17 hR17 hb17 hg17))
    have HR17 := Aside0.mk hR17
    have HB17b := Aside0.mk hb17
    have HG17 := Aside0.mk hg17
    clear hR17 hb17 hg17
    go_roundg (gk - 1)
    case measure => omega
    case rel =>
     have hub := Kd.R_base HUs16.out
     have hul : ∀ j, u7.ownBlock = some j → j < w7.heap.size := H7.out.2.2
     have hst := Hst.out
     have hw9 := Hw9.out
     have h7le : w7.heap.size ≤ (w8.alloc (.cells #[.int .u64 7, .int .i64 1, .int .i64 ((i : Int) + 1), .int .i64 ((i : Int) + 1), .slice pa P.length pc, .slice ca C.length cc, .string odt] 40)).heap.size := Nat.le_trans Hh7.out HBa9.out.size
     have hws : w.heap.size ≤ st ∧ w1.heap.size ≤ st := ⟨by have := Hg.out; omega, by have := Hg1.out; omega⟩
     have HB16 := HB15.out.grown HGX.out HB15.out.size (fun j hj => by obtain rfl := Option.some.inj hj; exact hws.1)
     have HBo16 := HBo15.out.grown HGX.out HBo15.out.size (fun j hj => by obtain rfl := Option.some.inj hj; exact hws.2)
     have hT16 := HT15.out.grown HGX.out (by intro e; have := Option.some.inj e; omega) (by intro e; exact HDj2.out.2.2.2 (Option.some.inj e))
     have hT17 := hT16.grown HG17.out (fun e => by have := hub gt e.symm; omega) (tab_ne hT16 HUs16.out)
     have hM17 := ((HM15.out.far HGX.out (by intro e; have := Option.some.inj e; omega) (fun j hj => by obtain rfl := Option.some.inj hj; exact H7.out.1)).far HG17.out (fun e => by have := hub g e.symm; omega) hul).at
     have hO17 := ((HSO15.out.off hw9 HGX.out).far HG17.out (fun j hj => Nat.lt_of_lt_of_le (hul j hj) h7le)).lower (show b0 ≤ (w8.alloc (.cells #[.int .u64 7, .int .i64 1, .int .i64 ((i : Int) + 1), .int .i64 ((i : Int) + 1), .slice pa P.length pc, .slice ca C.length cc, .string odt] 40)).heap.size by have := H3.out.2.2; omega)
     have hK17 := Zay HZ16.out HG17.out (fun e => by have := hub st e.symm; omega)
     have hU17 := HR17.out
     rw [show use0 ns ++ [(⟨(i : Int) + 1, tp, 0⟩ : S54)] = use0 (ns ++ [tp]) by rw [use0_snoc, HNs.out]] at hU17
     exact ⟨i + 1, ns ++ [tp], ⟨key2, ep2, sq2, up2, sz2, ma2, mc2, L1, ra2, rc2, R2, nt2⟩, b2, N + 1 + 80, by go_num, hi1, by omega, ⟨by simp [HNs.out]⟩, ⟨HB16.trans (HB17b.out.mono (by omega))⟩, ⟨HBo16.trans (HB17b.out.mono (by omega))⟩, ⟨blk_lt hK17⟩, HDj2,
      ⟨⟨HSk2.out, hO17, hK17, hM17, hT17, hU17, HQ2.out.1, (by rw [List.length_append, HNs.out]; show up2 ≤ ((i + 1 : Nat) : Int); rw [HQ2.out.2.2]; omega), HQ2.out.2.1, (by rw [List.length_append, HNs.out]; have := HKy.out.2.2.2; show N + 1 + 80 ≤ 100 * (i + 1); omega)⟩⟩⟩
   ·have hin : i = n := by omega
    subst hin
    have hmd := HMd.out
    have HRw := Aside0.mk (rows2 gt N (by have := hmd.room; have := HNs.out; omega) _ wr hmd.tab.tb)
    have HIv := Aside0.mk hmd.ok.inv
    have HRR := Aside0.mk hmd.ok.rows
    clear hmd
    go_wp2_with (fail)
    refine HRw.out.mono ?_
    rintro e w6 ⟨v17, rfl, hv17, hb6⟩
    have hb17 := Aside0.mk (hv17.reads (by rw [ZaK]; have := HNs.out; omega))
    obtain ⟨A17, c17, rfl, hc17, hC17⟩ := hb17.out
    rw [ZaK, HNs.out] at hc17
    have HC17 := Aside0.mk hC17
    have HB6 := Aside0.mk (Zae HB.out hb6)
    have HMd6 := Aside0.mk (HMd.out.below hb6)
    simp only [ZaK, HNs.out]
    clear hb17 hC17 hv17 hb6 HRw HMd HB HBo HSl HDj HGd HC1
    have HAl := Aside0.mk (ZbL g s.L w6 HMd6.out.map (by have := HIv.out.ok.len; omega))
    go_wp2_with (fail)
    refine HAl.out.mono ?_
    rintro e w7 ⟨vM, rfl, hM, hb7⟩
    obtain ⟨AM, cM, rfl, hcM, hCM⟩ := Kd.R_reads hM
    have HB7 := Aside0.mk (Zae HB6.out hb7)
    have HMd7 := Aside0.mk (HMd6.out.below hb7)
    have HC17b := Aside0.mk (Kd.C_below HC17.out hb7)
    obtain ⟨A7, c7, hu7, hc7, hC7⟩ := Kd.R_reads HMd7.out.use
    subst hu7
    have HTa := Aside0.mk (table_calls ns s.L A7 c7 AM cM w7 HIv.out (by have := HNs.out; omega) hC7 hc7 hCM hcM)
    clear hM hCM hcM hC7 hc7 hb7 HAl HMd6 HC17 HB6
    go_wp2_with (fail)
    refine HTa.out.mono ?_
    rintro e w8 ⟨vU, rfl, hU, hb8⟩
    obtain ⟨AU, cU, rfl, hcU, hCU⟩ := Kd.R_reads hU
    have HB8 := Aside0.mk (Zae HB7.out hb8)
    have HMd8 := Aside0.mk (HMd7.out.below hb8)
    have HC17c := Aside0.mk (Kd.C_below HC17b.out hb8)
    have HCU := Aside0.mk hCU
    rw [Zcb, HNs.out] at hcU
    simp only [Zcb, HNs.out]
    clear hU hCU hb8 HTa HMd7 HC17b HB7
    obtain ⟨key, ep, sq, up, sz, ma, mc, L, ra, rc, R, nt⟩ := s
    have hRl : R.length = i := by have h1 : R = rowsOf L ns := HRR.out; rw [h1, ZaK, HNs.out]
    have bd := ZaV (Below.refl w8.heap.size w8)
    have HB9 := Aside0.mk (Zae HB8.out bd)
    have HMd9 := Aside0.mk (HMd8.out.below bd)
    have HC17d := Aside0.mk (Kd.C_below HC17c.out bd)
    have HCUd := Aside0.mk (Kd.C_below HCU.out bd)
    have hS9 := HMd9.out.blk
    unfold Sb.cells at hS9
    simp only [hRl] at hS9
    have q5 := (Zaa hS9 5).trans (rfl : _ = some (Value.slice ma L.length mc))
    have q6 := (Zaa hS9 6).trans (rfl : _ = some (Value.slice ra i rc))
    have HRl := Aside0.mk hRl
    have HRd := Aside0.mk (HMd9.out.owns.reads)
    have HS9 := Aside0.mk hS9
    clear hS9 hRl bd HMd8 HC17c HCU HB8
    go_wp2_with (fail)
    go_region_held3 (fun W => W.cell? ⟨st, 6, none⟩ = some (.slice ra i rc) ∧ W.cell? ⟨st, 5, none⟩ = some (.slice ma L.length mc)) (exact ⟨by assumption, by assumption⟩) (first | ((go_at_call 17; refine (ZbL g L _ HMd9.out.map (by have := HIv.out.ok.len; omega)).mono ?_; rintro e w10 ⟨vM, rfl, hM, hb10⟩; obtain ⟨AM2, cM2, rfl, hcM2, hCM2⟩ := Kd.R_reads hM; have HB10 := Aside0.mk (Zae HB9.out hb10); have HMd10 := Aside0.mk (HMd9.out.below hb10); have HC17e := Aside0.mk (Kd.C_below HC17d.out hb10); have HCUe := Aside0.mk (Kd.C_below HCUd.out hb10); have HRe := Aside0.mk (HRd.out.below hb10); have HCM := Aside0.mk hCM2; have HcM := Aside0.mk hcM2; have HS10 := Aside0.mk (Zag HS9.out hb10); have q5b := (Zaa HS10.out 5).trans (rfl : _ = some (Value.slice ma L.length mc)); have q6b := (Zaa HS10.out 6).trans (rfl : _ = some (Value.slice ra i rc)); clear hM hCM2 hcM2 hb10)) | ((go_at_call 18; refine (ZaC.calls (L.length + 1) ma mc L AM2 cM2 L true _ HRe.out.m HRe.out.ml HCM.out HcM.out (same_f L (by have := HIv.out.ok.len; omega))).mono ?_; rintro e w11 ⟨rfl, hd11⟩; have HS11 := Aside0.mk (Zag HS10.out hd11.below); have q5c := (Zaa HS11.out 5).trans (rfl : _ = some (Value.slice ma L.length mc)); have q6c := (Zaa HS11.out 6).trans (rfl : _ = some (Value.slice ra i rc)); have HB11 := Aside0.mk (Zae HB10.out hd11.below); have HMd11 := Aside0.mk (HMd10.out.below hd11.below); have HC17f := Aside0.mk (Kd.C_below HC17e.out hd11.below); have HCUf := Aside0.mk (Kd.C_below HCUe.out hd11.below); have HRf := Aside0.mk (HRe.out.below hd11.below); clear hd11)))
    clear q5 q6 q5b q6b q5c q6c HMd9 HMd10 HS9 HS10 HB9 HB10 HC17d HC17e HCUd HCUe HRd HRe HCM HcM
    go_wp2_with (fail)
    have hi12 : i ≤ 12 := by omega
    go_loopg [20, 21] i (fun ky v20 v21 wq => ∃ (j : Nat) (tot : Int), v20 = .int .i64 tot ∧ v21 = .int .i64 (j : Int) ∧ j ≤ i ∧ i - j ≤ ky ∧ 0 ≤ tot ∧ tot ≤ 65536 * (j : Int) ∧ Aside0 (tot = sumQ L j) ∧ Aside0 (Below w11.heap.size w11 wq))
    case atStart => exact ⟨0, 0, rfl, rfl, Nat.zero_le _, by omega, by omega, by omega, ⟨rfl⟩, ⟨Below.refl _ _⟩⟩
    case round =>
     obtain ⟨j, tot, rfl, rfl, hj, hjk, ht0, ht1, HTt, HBq⟩ := hrel
     by_cases hjl : j < i
     ·have hj1 : j + 1 ≤ i := hjl
      have hjn : j < ns.length := by have := HNs.out; omega
      have HBd := Aside0.mk (Zae HBq.out (ZaV (Below.refl wr.heap.size wr)))
      have hCR : Kd.C k51 wr.drew ra (rowsOf L ns).length (rowsOf L ns) := by
       have h := Kd.C_below HRf.out.r HBd.out
       have e : R = rowsOf L ns := HRR.out
       rw [← e]
       exact h
      obtain ⟨a17, rfl, c0, c1, c2⟩ := ZbN (Kd.C_below HC17f.out HBd.out) j (by rw [ZaK]; exact hjn)
      obtain ⟨aR, rfl, d0, d1, d2⟩ := ZbN hCR j (by rw [ZaK]; exact hjn)
      obtain ⟨aU, rfl, g0, g1, g2⟩ := cells54 (Kd.C_below HCUf.out HBd.out) j (by rw [Zcb]; exact hjn)
      rw [Zbj L ns j hjn] at c0 c1 c2 d0 d1 d2
      rw [useOf_get L ns j hjn] at g0 g1 g2
      simp only at c0 c1 c2 d0 d1 d2 g0 g1 g2
      obtain ⟨l1, l2⟩ := HIv.out.lenQ j hjn
      obtain ⟨n1, n2⟩ := HIv.out.ns ns[j] (List.getElem_mem hjn)
      generalize ns[j] = nj at c1 d1 g1 l2 n1 n2
      clear n1
      obtain ⟨lq, hlq⟩ : ∃ lq, lenQ ((j : Int) + 1) L = lq := ⟨_, rfl⟩
      rw [hlq] at c2 d2 g2 l1 l2
      have htq : tot + lq ≤ 65536 * ((j : Int) + 1) ∧ 0 ≤ tot + lq ∧ tot + lq ≤ 1000000 := by omega
      have HTQ := Aside0.mk htq
      clear htq
      have HLq := Aside0.mk hlq
      have q6 := (Zaa (Zag HS11.out HBd.out) 6).trans (rfl : _ = some (Value.slice (some aR) i rc))
      clear hCR hlq
      go_wp2_with (fail)
      have PQ := Aside0.mk (And.intro q6 (And.intro c0 (And.intro c1 (And.intro c2 (And.intro d0 (And.intro d1 (And.intro d2 (And.intro g1 g2))))))))
      go_region_held3 (fun W => W.cell? ⟨st, 6, none⟩ = some (Value.slice (some aR) i rc) ∧ W.cell? (a17.add (j * 3)) = some (.int .i64 ((j : Int) + 1)) ∧ W.cell? ⟨(a17.add (j * 3)).block, (a17.add (j * 3)).off + 1, none⟩ = some (.int .i64 nj) ∧ W.cell? ⟨(a17.add (j * 3)).block, (a17.add (j * 3)).off + 2, none⟩ = some (.int .i64 lq) ∧ W.cell? (aR.add (j * 3)) = some (.int .i64 ((j : Int) + 1)) ∧ W.cell? ⟨(aR.add (j * 3)).block, (aR.add (j * 3)).off + 1, none⟩ = some (.int .i64 nj) ∧ W.cell? ⟨(aR.add (j * 3)).block, (aR.add (j * 3)).off + 2, none⟩ = some (.int .i64 lq) ∧ W.cell? ⟨(aU.add (j * 3)).block, (aU.add (j * 3)).off + 1, none⟩ = some (.int .i64 nj) ∧ W.cell? ⟨(aU.add (j * 3)).block, (aU.add (j * 3)).off + 2, none⟩ = some (.int .i64 lq)) (exact PQ.out) ((first | fail))
      go_wp2_with (fail)
      go_roundg (gk - 1)
      case measure => omega
      case rel => exact ⟨j + 1, tot + lq, by have := HTQ.out; go_num, by go_num, hj1, by omega, by have := HTQ.out; omega, by have := HTQ.out; omega, ⟨by rw [HTt.out, ← HLq.out]; rfl⟩, HBd⟩
     ·have hje : j = i := by omega
      have hEq : (tot == lenA L) = true := by
       rw [HTt.out, hje, sumQ_all L i fun x hx => ?_]
       ·simp
       ·obtain ⟨j', hj', h1, _⟩ := HIv.out.mem hx
        have := HNs.out
        omega
      have HSc := Aside0.mk (sectors_calls g L wr (HMd11.out.map.below HBq.out) HIv.out.ok)
      go_wp2_with (fail)
      refine HSc.out.mono ?_
      rintro e wS ⟨rfl, hbS⟩
      have HBS := Aside0.mk (Zae (Zae HB11.out HBq.out) hbS)
      clear hbS
      go_wp2_with (fail)
      refine (HAW.out _).mono ?_
      rintro e wA ⟨rfl, hbA⟩
      have HBA := Aside0.mk (Zae HBS.out hbA)
      clear hbA
      go_wp2_with (fail)
      go_ret
      exact ⟨rfl, HBA.out⟩
end Go.Proofs.YtpfnaknmalojkaaGreat.PTopRows
