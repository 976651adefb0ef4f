/- The walk of CrcKeys. Condition: the table lies where the text laid it. -/
import Derived.Test.YtiiokdgbjcnokaaDoorLaws1
import Derived.StillTailTactics
import Derived.Deep.RegionHeld3
namespace Go.Proofs.YtiiokdgbjcnokaaDoor.PA
open Go.RowKit Go.Proofs.YtiiokdgbjcnokaaDoorW.PrintWords Go.Proofs.YtiiokdgbjcnokaaDoorW.PrintLast Go.Proofs.YtiiokdgbjcnokaaDoorW.PrintMore
open Go.Proofs.YtiiokdgbjcnokaaDoor.CrcMath
set_option linter.unusedVariables false
set_option linter.unusedSimpArgs false

theorem kb_drew {w W : World} (h : Aside0 (Below w.heap.size w W)) : Aside0 (Below w.heap.size w W.drew) := ⟨below_drew h.out⟩
theorem kb_drewN {w W : World} (h : Aside0 (Below w.heap.size w W)) (n : Nat) : Aside0 (Below w.heap.size w (W.drewN n)) := ⟨pw_below_drewN h.out n⟩
theorem kb_alloc {w W : World} (h : Aside0 (Below w.heap.size w W)) (o : Obj) : Aside0 (Below w.heap.size w (W.alloc o)) := ⟨below_alloc h.out o⟩
theorem C_two (W : World) (g : Nat) (hg : g = W.heap.size) (x y : ByteArray) : Kd.C Kd.string (W.alloc (.cells #[.string x, .string y] 9)) (some ⟨g, 0, none⟩) [x, y].length [x, y] := by
  subst hg
  exact C_strs W [x, y] (by simp)

theorem size_al (w : World) (o : Obj) : (w.alloc o).heap.size = w.heap.size + 1 := by simp
theorem size_dr (w : World) (n : Nat) : (w.drewN n).heap.size = w.heap.size := rfl
theorem size_dr1 (w : World) : (w.drew).heap.size = w.heap.size := rfl
theorem blk_last (W : World) (o : Obj) (g : Nat) (hg : g = W.heap.size) : (W.alloc o).heap[g]? = some o := by
  subst hg
  exact blk_new W o
theorem C_blk (W : World) (g : Nat) (x y : ByteArray) (h : W.heap[g]? = some (.cells #[.string x, .string y] 9 (0, 0))) : Kd.C Kd.string W (some ⟨g, 0, none⟩) [x, y].length [x, y] := by
  refine Kd.C_of_reads (d := ByteArray.empty) (h1 := fun _ => rfl) ⟨rfl, by simp, fun _ => ⟨_, rfl, fun j hj => ?_⟩⟩
  rw [add_plain]
  match j, hj with
  | 0, _ => exact (blk_cell h 0).trans rfl
  | 1, _ => exact (blk_cell h 1).trans rfl

/-- Every list of two short texts: what a key's number is told by both. -/
theorem keys_tell (s : ByteArray) (hs : s.size ≤ 100) (a : Nat) : ∃ k, lighterref02_Key.f k [s.extract 0 a, s.extract a s.size] = some (key [s.extract 0 a, s.extract a s.size]) := by
  refine (refkey_ev ⟨by simp, ?_⟩).rounds
  intro t ht
  have e : ∀ i j : Nat, (s.extract i j).size ≤ 100 := by
    intro i j
    rw [← data_length, extract_list, List.length_drop, List.length_take, data_length]
    omega
  simp at ht
  rcases ht with rfl | rfl
  · have := e 0 a; omega
  · have := e a s.size; omega
theorem keys_fit (s : ByteArray) (hs : s.size ≤ 100) (a : Nat) : Fits [s.extract 0 a, s.extract a s.size] := by
  refine ⟨by simp, ?_⟩
  intro t ht
  have e : ∀ i j : Nat, (s.extract i j).size ≤ 100 := by
    intro i j
    rw [← data_length, extract_list, List.length_drop, List.length_take, data_length]
    omega
  simp at ht
  rcases ht with rfl | rfl
  · have := e 0 a; omega
  · have := e a s.size; omega

set_option maxHeartbeats 1000000 in
theorem keys_diff (s : ByteArray) (a b : Nat) (hs : s.size ≤ 100) (ha : a ≤ s.size) (hb : b ≤ s.size) (w : World) (hT : Tab w) (hne : a ≠ b) :
    Calls Tryd.prog 8 #[.string s, .agg #[.int .i64 (a : Int), .int .i64 (b : Int)]] w fun e w' => e = .returned (.bool true) ∧ Below w.heap.size w w' := by
  have HT := Aside0.mk hT
  have hne' : ((a : Int) != (b : Int)) = true := by rw [bne_iff_ne]; omega
  clear hT hne
  have hs' : (s.size : Int) ≤ 100 := by omega
  have ha' : (a : Int) ≤ (s.size : Int) := by omega
  have hb' : (b : Int) ≤ (s.size : Int) := by omega
  have FA := Aside0.mk (keys_fit s hs a)
  have FB := Aside0.mk (keys_fit s hs b)
  obtain ⟨k1, h1⟩ := keys_tell s hs a
  obtain ⟨k2, h2⟩ := keys_tell s hs b
  have A1 := Aside0.mk h1
  have A2 := Aside0.mk h2
  clear h1 h2
  go_enter Tryd.func8, Tryd.ntmps8
  go_wp2
  have HB := Aside0.mk (below_drew (below_alloc (Below.refl w.heap.size w) (.cells #[.int .i64 (a : Int), .int .i64 (b : Int)] 43)))
  go_still_tail 6, (by kernel_rfl)
  change wpList _ _ _ _ _ ((w.alloc (.cells #[.int .i64 (a : Int), .int .i64 (b : Int)] 43)).drew)
  generalize (w.alloc (.cells #[.int .i64 (a : Int), .int .i64 (b : Int)] 43)).drew = w2 at HB ⊢
  go_wp2_with (fail)
  refine (key_calls _ _ [s.extract 0 a, s.extract a s.size] _ FA.out (C_two _ _ rfl _ _) (by simp)).mono ?_
  rintro e w3 ⟨rfl, hb3⟩
  have HB := Aside0.mk (below_step (below_alloc HB.out _) hb3)
  clear hb3
  go_wp2_with (fail)
  have HB := Aside0.mk (below_drew HB.out)
  go_still_tail 6, (by kernel_rfl)
  change wpList _ _ _ _ _ (w3.drew)
  generalize w3.drew = w4 at HB ⊢
  go_wp2_with (fail)
  refine (key_calls _ _ [s.extract 0 b, s.extract b s.size] _ FB.out (C_two _ _ rfl _ _) (by simp)).mono ?_
  rintro e w5 ⟨rfl, hb5⟩
  have HB := Aside0.mk (below_step (below_alloc HB.out _) hb5)
  clear hb5
  go_wp2_with (fail)
  go_region_held3 (fun W' => Aside0 (Below w.heap.size w W')) (repeat (first | exact HB | with_reducible refine kb_alloc ?_ _ | with_reducible refine kb_drew ?_ | with_reducible refine kb_drewN ?_ _)) (first | (go_at_call 18; refine (lighterref02_Key.calls k1 _ _ [s.extract 0 a, s.extract a s.size] _ _ ?_ (by simp) A1.out).mono ?_; (refine C_blk _ _ _ _ ?_; (repeat (first | (with_reducible refine blk_drewN ?_ _) | (with_reducible refine blk_drew ?_))); first | ((with_reducible refine blk_last _ _ _ ?_); focus (simp only [size_al, size_dr, size_dr1]; done)) | ((with_reducible refine blk_last _ _ _ ?_); rfl) | ((with_reducible refine blk_alloc ?_ _); (repeat (first | (with_reducible refine blk_drewN ?_ _) | (with_reducible refine blk_drew ?_))); (with_reducible refine blk_last _ _ _ ?_); rfl) | ((with_reducible refine blk_alloc ?_ _); (repeat (first | (with_reducible refine blk_drewN ?_ _) | (with_reducible refine blk_drew ?_))); (with_reducible refine blk_last _ _ _ ?_); focus (simp only [size_al, size_dr, size_dr1]; done))); rintro e w6 ⟨rfl, ⟨n6, rfl⟩⟩) | (go_at_call 18; refine (lighterref02_Key.calls k2 _ _ [s.extract 0 b, s.extract b s.size] _ _ ?_ (by simp) A2.out).mono ?_; (refine C_blk _ _ _ _ ?_; (repeat (first | (with_reducible refine blk_drewN ?_ _) | (with_reducible refine blk_drew ?_))); first | ((with_reducible refine blk_last _ _ _ ?_); focus (simp only [size_al, size_dr, size_dr1]; done)) | ((with_reducible refine blk_last _ _ _ ?_); rfl) | ((with_reducible refine blk_alloc ?_ _); (repeat (first | (with_reducible refine blk_drewN ?_ _) | (with_reducible refine blk_drew ?_))); (with_reducible refine blk_last _ _ _ ?_); rfl) | ((with_reducible refine blk_alloc ?_ _); (repeat (first | (with_reducible refine blk_drewN ?_ _) | (with_reducible refine blk_drew ?_))); (with_reducible refine blk_last _ _ _ ?_); focus (simp only [size_al, size_dr, size_dr1]; done))); rintro e w6 ⟨rfl, ⟨n6, rfl⟩⟩))
  all_goals
    rename_i hH
    have HBf := Aside0.mk hH.out
    clear hH
    go_wp2_with (fail)
    refine (awake_calls _ (HT.out.below HBf.out)).mono ?_
    rintro e w9 ⟨rfl, hb⟩
    have HB := Aside0.mk (below_step HBf.out hb)
    clear hb
    go_wp2_with (fail)
    go_ret
    exact ⟨rfl, HB.out⟩

set_option maxHeartbeats 1000000 in
theorem keys_same (s : ByteArray) (a : Nat) (hs : s.size ≤ 100) (ha : a ≤ s.size) (w : World) (hT : Tab w) :
    Calls Tryd.prog 8 #[.string s, .agg #[.int .i64 (a : Int), .int .i64 (a : Int)]] w fun e w' => e = .returned (.bool true) ∧ Below w.heap.size w w' := by
  have HT := Aside0.mk hT
  clear hT
  have hs' : (s.size : Int) ≤ 100 := by omega
  have ha' : (a : Int) ≤ (s.size : Int) := by omega
  have FA := Aside0.mk (keys_fit s hs a)
  have FB := Aside0.mk (keys_fit s hs a)
  obtain ⟨k1, h1⟩ := keys_tell s hs a
  obtain ⟨k2, h2⟩ := keys_tell s hs a
  have A1 := Aside0.mk h1
  have A2 := Aside0.mk h2
  clear h1 h2
  go_enter Tryd.func8, Tryd.ntmps8
  go_wp2
  have HB := Aside0.mk (below_drew (below_alloc (Below.refl w.heap.size w) (.cells #[.int .i64 (a : Int), .int .i64 (a : Int)] 43)))
  go_still_tail 6, (by kernel_rfl)
  change wpList _ _ _ _ _ ((w.alloc (.cells #[.int .i64 (a : Int), .int .i64 (a : Int)] 43)).drew)
  generalize (w.alloc (.cells #[.int .i64 (a : Int), .int .i64 (a : Int)] 43)).drew = w2 at HB ⊢
  go_wp2_with (fail)
  refine (key_calls _ _ [s.extract 0 a, s.extract a s.size] _ FA.out (C_two _ _ rfl _ _) (by simp)).mono ?_
  rintro e w3 ⟨rfl, hb3⟩
  have HB := Aside0.mk (below_step (below_alloc HB.out _) hb3)
  clear hb3
  go_wp2_with (fail)
  have HB := Aside0.mk (below_drew HB.out)
  go_still_tail 6, (by kernel_rfl)
  change wpList _ _ _ _ _ (w3.drew)
  generalize w3.drew = w4 at HB ⊢
  go_wp2_with (fail)
  refine (key_calls _ _ [s.extract 0 a, s.extract a s.size] _ FB.out (C_two _ _ rfl _ _) (by simp)).mono ?_
  rintro e w5 ⟨rfl, hb5⟩
  have HB := Aside0.mk (below_step (below_alloc HB.out _) hb5)
  clear hb5
  go_wp2_with (fail)
  go_region_held3 (fun W' => Aside0 (Below w.heap.size w W')) (repeat (first | exact HB | with_reducible refine kb_alloc ?_ _ | with_reducible refine kb_drew ?_ | with_reducible refine kb_drewN ?_ _)) (first | (go_at_call 18; refine (lighterref02_Key.calls k1 _ _ [s.extract 0 a, s.extract a s.size] _ _ ?_ (by simp) A1.out).mono ?_; (refine C_blk _ _ _ _ ?_; (repeat (first | (with_reducible refine blk_drewN ?_ _) | (with_reducible refine blk_drew ?_))); first | ((with_reducible refine blk_last _ _ _ ?_); focus (simp only [size_al, size_dr, size_dr1]; done)) | ((with_reducible refine blk_last _ _ _ ?_); rfl) | ((with_reducible refine blk_alloc ?_ _); (repeat (first | (with_reducible refine blk_drewN ?_ _) | (with_reducible refine blk_drew ?_))); (with_reducible refine blk_last _ _ _ ?_); rfl) | ((with_reducible refine blk_alloc ?_ _); (repeat (first | (with_reducible refine blk_drewN ?_ _) | (with_reducible refine blk_drew ?_))); (with_reducible refine blk_last _ _ _ ?_); focus (simp only [size_al, size_dr, size_dr1]; done))); rintro e w6 ⟨rfl, ⟨n6, rfl⟩⟩) | (go_at_call 18; refine (lighterref02_Key.calls k2 _ _ [s.extract 0 a, s.extract a s.size] _ _ ?_ (by simp) A2.out).mono ?_; (refine C_blk _ _ _ _ ?_; (repeat (first | (with_reducible refine blk_drewN ?_ _) | (with_reducible refine blk_drew ?_))); first | ((with_reducible refine blk_last _ _ _ ?_); focus (simp only [size_al, size_dr, size_dr1]; done)) | ((with_reducible refine blk_last _ _ _ ?_); rfl) | ((with_reducible refine blk_alloc ?_ _); (repeat (first | (with_reducible refine blk_drewN ?_ _) | (with_reducible refine blk_drew ?_))); (with_reducible refine blk_last _ _ _ ?_); rfl) | ((with_reducible refine blk_alloc ?_ _); (repeat (first | (with_reducible refine blk_drewN ?_ _) | (with_reducible refine blk_drew ?_))); (with_reducible refine blk_last _ _ _ ?_); focus (simp only [size_al, size_dr, size_dr1]; done))); rintro e w6 ⟨rfl, ⟨n6, rfl⟩⟩))
  all_goals
    rename_i hH
    have HBf := Aside0.mk hH.out
    clear hH
    go_wp2_with (fail)
    refine (awake_calls _ (HT.out.below HBf.out)).mono ?_
    rintro e w9 ⟨rfl, hb⟩
    have HB := Aside0.mk (below_step HBf.out hb)
    clear hb
    go_wp2_with (fail)
    go_ret
    exact ⟨rfl, HB.out⟩

set_option maxHeartbeats 1000000 in
theorem keys_bad (s : ByteArray) (a b : Int) (h : (decide (100 < (s.size : Int)) || decide (a < 0) || decide (b < 0) || decide ((s.size : Int) < a) || decide ((s.size : Int) < b)) = true) (w : World) (hT : Tab w) :
    Calls Tryd.prog 8 #[.string s, .agg #[.int .i64 a, .int .i64 b]] w fun e w' => e = .returned (.bool true) ∧ Below w.heap.size w w' := by
  have HT := Aside0.mk hT
  clear hT
  have H := Aside0.mk h
  clear h
  by_cases c1 : 100 < (s.size : Int)
  · go_enter Tryd.func8, Tryd.ntmps8
    go_wp2_with (fail)
    refine (awake_calls _ (HT.out.below (below_alloc (Below.refl _ _) _))).mono ?_
    rintro e w9 ⟨rfl, hb⟩
    have HB := Aside0.mk (below_step (below_alloc (Below.refl _ _) _) hb)
    clear hb
    go_wp2_with (fail)
    go_ret
    exact ⟨rfl, HB.out⟩
  · by_cases c2 : a < 0
    · go_enter Tryd.func8, Tryd.ntmps8
      go_wp2_with (fail)
      refine (awake_calls _ (HT.out.below (below_alloc (Below.refl _ _) _))).mono ?_
      rintro e w9 ⟨rfl, hb⟩
      have HB := Aside0.mk (below_step (below_alloc (Below.refl _ _) _) hb)
      clear hb
      go_wp2_with (fail)
      go_ret
      exact ⟨rfl, HB.out⟩
    · by_cases c3 : b < 0
      · go_enter Tryd.func8, Tryd.ntmps8
        go_wp2_with (fail)
        refine (awake_calls _ (HT.out.below (below_alloc (Below.refl _ _) _))).mono ?_
        rintro e w9 ⟨rfl, hb⟩
        have HB := Aside0.mk (below_step (below_alloc (Below.refl _ _) _) hb)
        clear hb
        go_wp2_with (fail)
        go_ret
        exact ⟨rfl, HB.out⟩
      · by_cases c4 : (s.size : Int) < a
        · go_enter Tryd.func8, Tryd.ntmps8
          go_wp2_with (fail)
          refine (awake_calls _ (HT.out.below (below_alloc (Below.refl _ _) _))).mono ?_
          rintro e w9 ⟨rfl, hb⟩
          have HB := Aside0.mk (below_step (below_alloc (Below.refl _ _) _) hb)
          clear hb
          go_wp2_with (fail)
          go_ret
          exact ⟨rfl, HB.out⟩
        · have c5 : (s.size : Int) < b := by
            have := H.out
            simp at this
            omega
          go_enter Tryd.func8, Tryd.ntmps8
          go_wp2_with (fail)
          refine (awake_calls _ (HT.out.below (below_alloc (Below.refl _ _) _))).mono ?_
          rintro e w9 ⟨rfl, hb⟩
          have HB := Aside0.mk (below_step (below_alloc (Below.refl _ _) _) hb)
          clear hb
          go_wp2_with (fail)
          go_ret
          exact ⟨rfl, HB.out⟩

theorem keys_walk (w : World) (hT : Tab w) (s : ByteArray) (a b : Int) : Calls Tryd.prog 8 #[.string s, .agg #[.int .i64 a, .int .i64 b]] w fun e w' => e = .returned (.bool true) ∧ Below w.heap.size w w' := by
  by_cases h : (decide (100 < (s.size : Int)) || decide (a < 0) || decide (b < 0) || decide ((s.size : Int) < a) || decide ((s.size : Int) < b)) = true
  · exact keys_bad s a b h w hT
  · simp at h
    obtain ⟨x, rfl⟩ : ∃ x : Nat, a = (x : Int) := ⟨a.toNat, by omega⟩
    obtain ⟨y, rfl⟩ : ∃ y : Nat, b = (y : Int) := ⟨b.toNat, by omega⟩
    by_cases e : x = y
    · subst e
      exact keys_same s x (by omega) (by omega) w hT
    · exact keys_diff s x y (by omega) (by omega) (by omega) w hT e
end Go.Proofs.YtiiokdgbjcnokaaDoor.PA
