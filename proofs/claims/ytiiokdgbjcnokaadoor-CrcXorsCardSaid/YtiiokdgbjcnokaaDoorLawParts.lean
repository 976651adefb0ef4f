/- The walk of CrcParts. Condition: the table lies where the text laid it. -/
import Derived.Test.YtiiokdgbjcnokaaDoorLawZeros
import Derived.Deep.RegionHeld3
namespace Go.Proofs.YtiiokdgbjcnokaaDoor.PA
open Go.RowKit Go.Proofs.YtiiokdgbjcnokaaDoorW.PrintWords Go.Proofs.YtiiokdgbjcnokaaDoorW.PrintLast Go.Proofs.YtiiokdgbjcnokaaDoorW.PrintMore
open Go.Proofs.YtiiokdgbjcnokaaDoor.CrcMath
set_option linter.unusedVariables false
set_option linter.unusedSimpArgs false

theorem zerosR_add (x : R) (a b : Int) (ha : 0 ≤ a) (hb : 0 ≤ b) : zerosR (zerosR x a) b = zerosR x (a + b) := by
  unfold zerosR
  rw [not_not, show (a + b).toNat = a.toNat + b.toNat by omega, it_add]
theorem C_one (W : World) (s : ByteArray) : Kd.C Kd.string (W.alloc (.cells #[.string s] 9)) (some ⟨W.heap.size, 0, none⟩) [s].length [s] := C_strs W [s] (by simp)

theorem size_al' (w : World) (o : Obj) : (w.alloc o).heap.size = w.heap.size + 1 := by simp
theorem size_dr' (w : World) (n : Nat) : (w.drewN n).heap.size = w.heap.size := rfl
theorem size_dr1' (w : World) : (w.drew).heap.size = w.heap.size := rfl
theorem blk_last' (W : World) (o : Obj) (g : Nat) (hg : g = W.heap.size) : (W.alloc o).heap[g]? = some o := by
  subst hg
  exact blk_new W o
theorem C_blk1 (W : World) (g : Nat) (x : ByteArray) (h : W.heap[g]? = some (.cells #[.string x] 9 (0, 0))) : Kd.C Kd.string W (some ⟨g, 0, none⟩) [x].length [x] := by
  refine Kd.C_of_reads (d := ByteArray.empty) (h1 := fun _ => rfl) ⟨rfl, by simp, fun _ => ⟨_, rfl, fun j hj => ?_⟩⟩
  rw [add_plain]
  match j, hj with
  | 0, _ => exact (blk_cell h 0).trans rfl
theorem sum_one (k : Nat) (s : ByteArray) (r : Int) (W : World) (g : Nat) (hC : Kd.C Kd.string W (some ⟨g, 0, none⟩) [s].length [s]) (h : crc_Sum.f k [s] = some r) :
    Calls Tryd.prog 14 #[.slice (some ⟨g, 0, none⟩) 1 1] W fun e w' => e = .returned (.int .u32 r) ∧ Drawn0 W w' := crc_Sum.calls k _ _ [s] r W hC (by simp) h
theorem kP_below {w W W1 : World} {a b : Int} (h : W.cell? ⟨w.heap.size, 0, none⟩ = some (.int .i64 a) ∧ W.cell? ⟨w.heap.size, 1, none⟩ = some (.int .i64 b) ∧ Aside0 (Below w.heap.size w W ∧ W.heap[w.heap.size]? = some (.cells #[.int .i64 a, .int .i64 b] 43 (0, 0)))) (hb : Below W.heap.size W W1) : W1.cell? ⟨w.heap.size, 0, none⟩ = some (.int .i64 a) ∧ W1.cell? ⟨w.heap.size, 1, none⟩ = some (.int .i64 b) ∧ Aside0 (Below w.heap.size w W1 ∧ W1.heap[w.heap.size]? = some (.cells #[.int .i64 a, .int .i64 b] 43 (0, 0))) := by
  obtain ⟨-, -, ⟨h1, h2⟩⟩ := h
  have h2 := blk_below h2 hb
  exact ⟨(blk_cell h2 0).trans rfl, (blk_cell h2 1).trans rfl, ⟨below_step h1 hb, h2⟩⟩
theorem kP_drew {w W : World} {a b : Int} (h : W.cell? ⟨w.heap.size, 0, none⟩ = some (.int .i64 a) ∧ W.cell? ⟨w.heap.size, 1, none⟩ = some (.int .i64 b) ∧ Aside0 (Below w.heap.size w W ∧ W.heap[w.heap.size]? = some (.cells #[.int .i64 a, .int .i64 b] 43 (0, 0)))) : W.drew.cell? ⟨w.heap.size, 0, none⟩ = some (.int .i64 a) ∧ W.drew.cell? ⟨w.heap.size, 1, none⟩ = some (.int .i64 b) ∧ Aside0 (Below w.heap.size w W.drew ∧ W.drew.heap[w.heap.size]? = some (.cells #[.int .i64 a, .int .i64 b] 43 (0, 0))) := kP_below h (below_drew (Below.refl _ _))
theorem kP_drewN {w W : World} {a b : Int} (h : W.cell? ⟨w.heap.size, 0, none⟩ = some (.int .i64 a) ∧ W.cell? ⟨w.heap.size, 1, none⟩ = some (.int .i64 b) ∧ Aside0 (Below w.heap.size w W ∧ W.heap[w.heap.size]? = some (.cells #[.int .i64 a, .int .i64 b] 43 (0, 0)))) (n : Nat) : (W.drewN n).cell? ⟨w.heap.size, 0, none⟩ = some (.int .i64 a) ∧ (W.drewN n).cell? ⟨w.heap.size, 1, none⟩ = some (.int .i64 b) ∧ Aside0 (Below w.heap.size w (W.drewN n) ∧ (W.drewN n).heap[w.heap.size]? = some (.cells #[.int .i64 a, .int .i64 b] 43 (0, 0))) := kP_below h (pw_below_drewN (Below.refl _ _) n)
theorem kP_alloc {w W : World} {a b : Int} (h : W.cell? ⟨w.heap.size, 0, none⟩ = some (.int .i64 a) ∧ W.cell? ⟨w.heap.size, 1, none⟩ = some (.int .i64 b) ∧ Aside0 (Below w.heap.size w W ∧ W.heap[w.heap.size]? = some (.cells #[.int .i64 a, .int .i64 b] 43 (0, 0)))) (o : Obj) : (W.alloc o).cell? ⟨w.heap.size, 0, none⟩ = some (.int .i64 a) ∧ (W.alloc o).cell? ⟨w.heap.size, 1, none⟩ = some (.int .i64 b) ∧ Aside0 (Below w.heap.size w (W.alloc o) ∧ (W.alloc o).heap[w.heap.size]? = some (.cells #[.int .i64 a, .int .i64 b] 43 (0, 0))) := kP_below h (below_alloc (Below.refl _ _) o)
theorem kP_bel {w W : World} {a b : Int} (h : W.cell? ⟨w.heap.size, 0, none⟩ = some (.int .i64 a) ∧ W.cell? ⟨w.heap.size, 1, none⟩ = some (.int .i64 b) ∧ Aside0 (Below w.heap.size w W ∧ W.heap[w.heap.size]? = some (.cells #[.int .i64 a, .int .i64 b] 43 (0, 0)))) : Below w.heap.size w W := h.2.2.out.1

set_option maxHeartbeats 1000000 in
theorem parts_good (A : Option Addr) (c : Nat) (l : List ByteArray) (x : R) (a b : Int) (ha : 0 ≤ a) (hb : 0 ≤ b) (ha2 : a ≤ 1000000) (hb2 : b ≤ 1000000) (w : World) (hr : Kd.C Kd.string w A l.length l) (hc : l.length ≤ c) (hf : fewB l = true) (hT : Tab w) :
    Calls Tryd.prog 6 #[.slice A l.length c, .int .u32 (x.toNat : Int), .agg #[.int .i64 a, .int .i64 b]] w fun e w' => e = .returned (.bool true) ∧ Below w.heap.size w w' := by
  have HT := Aside0.mk hT
  have HR := Aside0.mk hr
  have HF := Aside0.mk (few_fits hf)
  have HFB := Aside0.mk hf
  have hlen : (l.length : Int) ≤ 30 := by have := (few_yes hf).1; omega
  obtain ⟨k1, h1⟩ := (few_ev (l := l) (by omega)).rounds
  rw [hf] at h1
  have A1 := Aside0.mk h1
  clear hr hT hf h1
  go_enter Tryd.func6, Tryd.ntmps6
  go_wp2_with (fail)
  refine (lighterlaw02_few.calls k1 _ _ _ _ _ (Kd.C_alloc HR.out _) hc A1.out).mono ?_
  rintro e w1 ⟨rfl, hd⟩
  have HB := Aside0.mk (below_step (below_alloc (Below.refl w.heap.size w) (.cells #[.int .i64 a, .int .i64 b] 43)) hd.below)
  have B0 := Aside0.mk (blk_below (blk_new w (.cells #[.int .i64 a, .int .i64 b] 43)) hd.below)
  clear hd
  have c0 : w1.cell? ⟨w.heap.size, 0, none⟩ = some (.int .i64 a) := (blk_cell B0.out 0).trans rfl
  have c1 : w1.cell? ⟨w.heap.size, 1, none⟩ = some (.int .i64 b) := (blk_cell B0.out 1).trans rfl
  go_wp2_with (fail)
  clear c0 c1
  go_loopw [7, 8] (fun v7 v8 wr => ∃ k : Nat, k ≤ l.length ∧ v8 = .int .i64 k ∧ v7 = .int .u32 ((more 0#32 (bytes (l.take k))).toNat : Int) ∧ Aside0 (Below w.heap.size w wr ∧ wr.heap[w.heap.size]? = some (.cells #[.int .i64 a, .int .i64 b] 43 (0, 0)))) (fun _ v8 _ => l.length - (intOf v8).toNat)
  case atStart =>
    have e0 : ((more 0#32 (bytes (l.take 0))).toNat : Int) = 0 := by rw [List.take_zero]; decide
    exact ⟨0, by omega, rfl, by rw [e0], ⟨HB.out, B0.out⟩⟩
  case round =>
    clear HB B0
    obtain ⟨k, hk, rfl, rfl, H⟩ := hrel
    by_cases hlt : k < l.length
    · obtain ⟨ad, e, hx⟩ := Kd.at_string (Kd.C_below HR.out H.out.1) (k : Int) (by omega) (by omega)
      cases e
      have hat := rdOf_at hlt
      rw [hat, Int.toNat_natCast] at hx
      have hss := HF.out.2 l[k] (List.getElem_mem hlt)
      generalize hs : l[k] = s at hx hss
      have htake : bytes (l.take (k + 1)) = bytes (l.take k) ++ s.data.toList := by
        rw [List.take_succ_eq_append_getElem hlt, hs]
        simp [bytes]
      obtain ⟨k2, h2⟩ := (more_ev (more 0#32 (bytes (l.take k))) (one_fits hss)).rounds
      rw [bytes_one, ← more_append, ← htake] at h2
      have A2 := Aside0.mk h2
      clear hat hs h2 htake
      go_wp2_with (fail)
      refine (crc_More.calls k2 _ _ _ [s] _ _ (C_one _ _) (by simp) A2.out).mono ?_
      rintro e w3 ⟨rfl, hd⟩
      have H3 := Aside0.mk (And.intro (below_step (below_alloc H.out.1 _) hd.below) (blk_below (blk_alloc H.out.2 _) hd.below))
      clear hd
      go_wp2_with (fail)
      go_roundw
      case rel => exact ⟨k + 1, by omega, by go_num, rfl, H3⟩
      case measure => simp [intOf]; omega
    · have hkl : k = l.length := by omega
      have hfull : more 0#32 (bytes (l.take k)) = more 0#32 (bytes l) := by rw [hkl, List.take_length]
      obtain ⟨k3, h3⟩ := (sum_ev HF.out).rounds
      rw [← hfull] at h3
      obtain ⟨k4, h4⟩ := (joined_ev HFB.out).rounds
      have hsz : (strB (bytes l)).size ≤ 4611686018427387904 := by
        rw [strB_size]
        have := bytes_length (few_yes HFB.out).2
        omega
      obtain ⟨k5, h5⟩ := (sum_ev (one_fits hsz)).rounds
      rw [bytes_one, strB_list, ← hfull] at h5
      generalize more 0#32 (bytes (l.take k)) = y at h3 h5 ⊢
      generalize strB (bytes l) = s at h4 h5
      have A3 := Aside0.mk h3
      have A4 := Aside0.mk h4
      have A5 := Aside0.mk h5
      have HK := Aside0.mk hkl
      have c0 : wr.cell? ⟨w.heap.size, 0, none⟩ = some (.int .i64 a) := (blk_cell H.out.2 0).trans rfl
      have c1 : wr.cell? ⟨w.heap.size, 1, none⟩ = some (.int .i64 b) := (blk_cell H.out.2 1).trans rfl
      clear hfull h3 h4 h5 hsz hkl
      go_wp2
      have z1 := zeros_calls x a (by omega)
      have z2 := zeros_calls (zerosR x a) b (by omega)
      have z3 := zeros_calls x (a + b) (by omega)
      rw [zerosR_add x a b ha hb] at z2
      generalize zerosR x (a + b) = r2 at z2 z3
      generalize zerosR x a = r1 at z1 z2
      have Z1 := Aside0.mk z1
      have Z2 := Aside0.mk z2
      have Z3 := Aside0.mk z3
      clear z1 z2 z3
      have q1 : IntKind.i64.wrap (a + b) = a + b := IntWalk.i64_in _ (by omega)
      have hS : wr.cell? ⟨w.heap.size, 0, none⟩ = some (.int .i64 a) ∧ wr.cell? ⟨w.heap.size, 1, none⟩ = some (.int .i64 b) ∧ Aside0 (Below w.heap.size w wr ∧ wr.heap[w.heap.size]? = some (.cells #[.int .i64 a, .int .i64 b] 43 (0, 0))) := ⟨c0, c1, H⟩
      clear c0 c1 H
      go_region_held3 (fun W' => W'.cell? ⟨w.heap.size, 0, none⟩ = some (.int .i64 a) ∧ W'.cell? ⟨w.heap.size, 1, none⟩ = some (.int .i64 b) ∧ Aside0 (Below w.heap.size w W' ∧ W'.heap[w.heap.size]? = some (.cells #[.int .i64 a, .int .i64 b] 43 (0, 0)))) (first | assumption | ((with_reducible refine kP_below ?_ hbz); assumption) | (repeat (first | assumption | with_reducible refine kP_alloc ?_ _ | with_reducible refine kP_drew ?_ | with_reducible refine kP_drewN ?_ _))) (first | (go_at_call 14; (with_reducible refine (crc_Sum.calls k3 A c l _ _ ?_ hc A3.out).mono ?_); (refine Kd.C_below HR.out (kP_bel (a := a) (b := b) ?_); assumption); rintro e w6 ⟨rfl, ⟨n6, rfl⟩⟩) | (go_at_call 13; (with_reducible refine (lighterlaw02_joined.calls k4 A c l _ _ ?_ hc A4.out).mono ?_); (refine Kd.C_below HR.out (kP_bel (a := a) (b := b) ?_); assumption); rintro e w6 ⟨rfl, ⟨n7, rfl⟩⟩) | (go_at_call 14; (with_reducible refine (sum_one k5 s _ _ _ ?_ A5.out).mono ?_); (refine C_blk1 _ _ _ ?_; (repeat (first | (with_reducible refine blk_drewN ?_ _) | (with_reducible refine blk_drew ?_))); first | ((with_reducible refine blk_last' _ _ _ ?_); focus (rfl; done)) | ((with_reducible refine blk_last' _ _ _ ?_); focus (simp only [size_al', size_dr', size_dr1']; done))); rintro e w6 ⟨rfl, ⟨n8, rfl⟩⟩) | (go_at_call 19; (with_reducible refine (Z1.out _ ?_).mono ?_); (refine HT.out.below (kP_bel (a := a) (b := b) ?_); assumption); rintro e w7 ⟨rfl, hbz⟩) | (go_at_call 19; (with_reducible refine (Z2.out _ ?_).mono ?_); (refine HT.out.below (kP_bel (a := a) (b := b) ?_); assumption); rintro e w7 ⟨rfl, hbz⟩) | (go_at_call 19; (with_reducible refine (Z3.out _ ?_).mono ?_); (refine HT.out.below (kP_bel (a := a) (b := b) ?_); assumption); rintro e w7 ⟨rfl, hbz⟩) | (go_at_call 12; (with_reducible refine (awake_calls _ ?_).mono ?_); (refine HT.out.below (kP_bel (a := a) (b := b) ?_); assumption); rintro e w7 ⟨rfl, hbz⟩))
      all_goals
        rename_i hH
        have HBf := Aside0.mk (kP_bel (a := a) (b := b) hH)
        clear hH
        go_wp2_with (fail)
        go_ret
        exact ⟨rfl, HBf.out⟩

set_option maxHeartbeats 1000000 in
theorem parts_many (A : Option Addr) (c : Nat) (l : List ByteArray) (x : Int) (a b : Int)  (w : World) (hr : Kd.C Kd.string w A l.length l) (hc : l.length ≤ c) (hm : l.length ≤ 9223372036854775807) (hf : fewB l = false) (hT : Tab w) :
    Calls Tryd.prog 6 #[.slice A l.length c, .int .u32 x, .agg #[.int .i64 a, .int .i64 b]] w fun e w' => e = .returned (.bool true) ∧ Below w.heap.size w w' := by
  have HT := Aside0.mk hT
  have HR := Aside0.mk hr
  obtain ⟨k1, hfe⟩ := (few_ev (l := l) hm).rounds
  rw [hf] at hfe
  have A1 := Aside0.mk hfe
  clear hr hT hf hfe
  go_enter Tryd.func6, Tryd.ntmps6
  go_wp2_with (fail)
  refine (lighterlaw02_few.calls k1 _ _ _ _ _ (Kd.C_alloc HR.out _) hc A1.out).mono ?_
  rintro e w1 ⟨rfl, hd⟩
  have HB := Aside0.mk (below_step (below_alloc (Below.refl w.heap.size w) (.cells #[.int .i64 a, .int .i64 b] 43)) hd.below)
  have B0 := Aside0.mk (blk_below (blk_new w (.cells #[.int .i64 a, .int .i64 b] 43)) hd.below)
  clear hd
  have c0 : w1.cell? ⟨w.heap.size, 0, none⟩ = some (.int .i64 a) := (blk_cell B0.out 0).trans rfl
  have c1 : w1.cell? ⟨w.heap.size, 1, none⟩ = some (.int .i64 b) := (blk_cell B0.out 1).trans rfl
  go_wp2_with (fail)
  refine (awake_calls _ (HT.out.below HB.out)).mono ?_
  rintro e w9 ⟨rfl, hb9⟩
  have HB9 := Aside0.mk (below_step HB.out hb9)
  clear hb9
  go_wp2_with (fail)
  go_ret
  exact ⟨rfl, HB9.out⟩

set_option maxHeartbeats 1000000 in
theorem parts_b1 (A : Option Addr) (c : Nat) (l : List ByteArray) (x : Int) (a b : Int) (h1 : a < 0) (w : World) (hr : Kd.C Kd.string w A l.length l) (hc : l.length ≤ c) (hm : l.length ≤ 9223372036854775807) (hf : fewB l = true) (hT : Tab w) :
    Calls Tryd.prog 6 #[.slice A l.length c, .int .u32 x, .agg #[.int .i64 a, .int .i64 b]] w fun e w' => e = .returned (.bool true) ∧ Below w.heap.size w w' := by
  have HT := Aside0.mk hT
  have HR := Aside0.mk hr
  obtain ⟨k1, hfe⟩ := (few_ev (l := l) hm).rounds
  rw [hf] at hfe
  have A1 := Aside0.mk hfe
  clear hr hT hf hfe
  go_enter Tryd.func6, Tryd.ntmps6
  go_wp2_with (fail)
  refine (lighterlaw02_few.calls k1 _ _ _ _ _ (Kd.C_alloc HR.out _) hc A1.out).mono ?_
  rintro e w1 ⟨rfl, hd⟩
  have HB := Aside0.mk (below_step (below_alloc (Below.refl w.heap.size w) (.cells #[.int .i64 a, .int .i64 b] 43)) hd.below)
  have B0 := Aside0.mk (blk_below (blk_new w (.cells #[.int .i64 a, .int .i64 b] 43)) hd.below)
  clear hd
  have c0 : w1.cell? ⟨w.heap.size, 0, none⟩ = some (.int .i64 a) := (blk_cell B0.out 0).trans rfl
  have c1 : w1.cell? ⟨w.heap.size, 1, none⟩ = some (.int .i64 b) := (blk_cell B0.out 1).trans rfl
  go_wp2_with (fail)
  refine (awake_calls _ (HT.out.below HB.out)).mono ?_
  rintro e w9 ⟨rfl, hb9⟩
  have HB9 := Aside0.mk (below_step HB.out hb9)
  clear hb9
  go_wp2_with (fail)
  go_ret
  exact ⟨rfl, HB9.out⟩

set_option maxHeartbeats 1000000 in
theorem parts_b2 (A : Option Addr) (c : Nat) (l : List ByteArray) (x : Int) (a b : Int) (h1 : 0 ≤ a) (h2 : 1000000 < a) (w : World) (hr : Kd.C Kd.string w A l.length l) (hc : l.length ≤ c) (hm : l.length ≤ 9223372036854775807) (hf : fewB l = true) (hT : Tab w) :
    Calls Tryd.prog 6 #[.slice A l.length c, .int .u32 x, .agg #[.int .i64 a, .int .i64 b]] w fun e w' => e = .returned (.bool true) ∧ Below w.heap.size w w' := by
  have HT := Aside0.mk hT
  have HR := Aside0.mk hr
  obtain ⟨k1, hfe⟩ := (few_ev (l := l) hm).rounds
  rw [hf] at hfe
  have A1 := Aside0.mk hfe
  clear hr hT hf hfe
  go_enter Tryd.func6, Tryd.ntmps6
  go_wp2_with (fail)
  refine (lighterlaw02_few.calls k1 _ _ _ _ _ (Kd.C_alloc HR.out _) hc A1.out).mono ?_
  rintro e w1 ⟨rfl, hd⟩
  have HB := Aside0.mk (below_step (below_alloc (Below.refl w.heap.size w) (.cells #[.int .i64 a, .int .i64 b] 43)) hd.below)
  have B0 := Aside0.mk (blk_below (blk_new w (.cells #[.int .i64 a, .int .i64 b] 43)) hd.below)
  clear hd
  have c0 : w1.cell? ⟨w.heap.size, 0, none⟩ = some (.int .i64 a) := (blk_cell B0.out 0).trans rfl
  have c1 : w1.cell? ⟨w.heap.size, 1, none⟩ = some (.int .i64 b) := (blk_cell B0.out 1).trans rfl
  go_wp2_with (fail)
  refine (awake_calls _ (HT.out.below HB.out)).mono ?_
  rintro e w9 ⟨rfl, hb9⟩
  have HB9 := Aside0.mk (below_step HB.out hb9)
  clear hb9
  go_wp2_with (fail)
  go_ret
  exact ⟨rfl, HB9.out⟩

set_option maxHeartbeats 1000000 in
theorem parts_b3 (A : Option Addr) (c : Nat) (l : List ByteArray) (x : Int) (a b : Int) (h1 : 0 ≤ a) (h2 : a ≤ 1000000) (h3 : b < 0) (w : World) (hr : Kd.C Kd.string w A l.length l) (hc : l.length ≤ c) (hm : l.length ≤ 9223372036854775807) (hf : fewB l = true) (hT : Tab w) :
    Calls Tryd.prog 6 #[.slice A l.length c, .int .u32 x, .agg #[.int .i64 a, .int .i64 b]] w fun e w' => e = .returned (.bool true) ∧ Below w.heap.size w w' := by
  have HT := Aside0.mk hT
  have HR := Aside0.mk hr
  obtain ⟨k1, hfe⟩ := (few_ev (l := l) hm).rounds
  rw [hf] at hfe
  have A1 := Aside0.mk hfe
  clear hr hT hf hfe
  go_enter Tryd.func6, Tryd.ntmps6
  go_wp2_with (fail)
  refine (lighterlaw02_few.calls k1 _ _ _ _ _ (Kd.C_alloc HR.out _) hc A1.out).mono ?_
  rintro e w1 ⟨rfl, hd⟩
  have HB := Aside0.mk (below_step (below_alloc (Below.refl w.heap.size w) (.cells #[.int .i64 a, .int .i64 b] 43)) hd.below)
  have B0 := Aside0.mk (blk_below (blk_new w (.cells #[.int .i64 a, .int .i64 b] 43)) hd.below)
  clear hd
  have c0 : w1.cell? ⟨w.heap.size, 0, none⟩ = some (.int .i64 a) := (blk_cell B0.out 0).trans rfl
  have c1 : w1.cell? ⟨w.heap.size, 1, none⟩ = some (.int .i64 b) := (blk_cell B0.out 1).trans rfl
  go_wp2_with (fail)
  refine (awake_calls _ (HT.out.below HB.out)).mono ?_
  rintro e w9 ⟨rfl, hb9⟩
  have HB9 := Aside0.mk (below_step HB.out hb9)
  clear hb9
  go_wp2_with (fail)
  go_ret
  exact ⟨rfl, HB9.out⟩

set_option maxHeartbeats 1000000 in
theorem parts_b4 (A : Option Addr) (c : Nat) (l : List ByteArray) (x : Int) (a b : Int) (h1 : 0 ≤ a) (h2 : a ≤ 1000000) (h3 : 0 ≤ b) (h4 : 1000000 < b) (w : World) (hr : Kd.C Kd.string w A l.length l) (hc : l.length ≤ c) (hm : l.length ≤ 9223372036854775807) (hf : fewB l = true) (hT : Tab w) :
    Calls Tryd.prog 6 #[.slice A l.length c, .int .u32 x, .agg #[.int .i64 a, .int .i64 b]] w fun e w' => e = .returned (.bool true) ∧ Below w.heap.size w w' := by
  have HT := Aside0.mk hT
  have HR := Aside0.mk hr
  obtain ⟨k1, hfe⟩ := (few_ev (l := l) hm).rounds
  rw [hf] at hfe
  have A1 := Aside0.mk hfe
  clear hr hT hf hfe
  go_enter Tryd.func6, Tryd.ntmps6
  go_wp2_with (fail)
  refine (lighterlaw02_few.calls k1 _ _ _ _ _ (Kd.C_alloc HR.out _) hc A1.out).mono ?_
  rintro e w1 ⟨rfl, hd⟩
  have HB := Aside0.mk (below_step (below_alloc (Below.refl w.heap.size w) (.cells #[.int .i64 a, .int .i64 b] 43)) hd.below)
  have B0 := Aside0.mk (blk_below (blk_new w (.cells #[.int .i64 a, .int .i64 b] 43)) hd.below)
  clear hd
  have c0 : w1.cell? ⟨w.heap.size, 0, none⟩ = some (.int .i64 a) := (blk_cell B0.out 0).trans rfl
  have c1 : w1.cell? ⟨w.heap.size, 1, none⟩ = some (.int .i64 b) := (blk_cell B0.out 1).trans rfl
  go_wp2_with (fail)
  refine (awake_calls _ (HT.out.below HB.out)).mono ?_
  rintro e w9 ⟨rfl, hb9⟩
  have HB9 := Aside0.mk (below_step HB.out hb9)
  clear hb9
  go_wp2_with (fail)
  go_ret
  exact ⟨rfl, HB9.out⟩

theorem parts_walk (w : World) (hT : Tab w) (A : Option Addr) (c : Nat) (l : List ByteArray) (hr : Kd.C Kd.string w A l.length l) (hc : l.length ≤ c) (hm : l.length ≤ 9223372036854775807) (x : Int) (hx0 : 0 ≤ x) (hx1 : x ≤ 4294967295) (a b : Int) :
    Calls Tryd.prog 6 #[.slice A l.length c, .int .u32 x, .agg #[.int .i64 a, .int .i64 b]] w fun e w' => e = .returned (.bool true) ∧ Below w.heap.size w w' := by
  cases hf : fewB l with
  | false => exact parts_many A c l x a b w hr hc hm hf hT
  | true =>
    by_cases h1 : a < 0
    · exact parts_b1 A c l x a b h1 w hr hc hm hf hT
    · by_cases h2 : 1000000 < a
      · exact parts_b2 A c l x a b (by omega) h2 w hr hc hm hf hT
      · by_cases h3 : b < 0
        · exact parts_b3 A c l x a b (by omega) (by omega) h3 w hr hc hm hf hT
        · by_cases h4 : 1000000 < b
          · exact parts_b4 A c l x a b (by omega) (by omega) (by omega) h4 w hr hc hm hf hT
          · obtain ⟨r, rfl⟩ := toReg x hx0 (by omega)
            exact parts_good A c l r a b (by omega) (by omega) (by omega) (by omega) w hr hc hf hT
end Go.Proofs.YtiiokdgbjcnokaaDoor.PA
