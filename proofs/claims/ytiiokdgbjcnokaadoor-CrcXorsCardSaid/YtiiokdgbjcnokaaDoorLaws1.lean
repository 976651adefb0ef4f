/- The walks of CrcSums, CrcOpens and CrcSealed. Condition: the table lies where the text laid it. -/
import Derived.Test.YtiiokdgbjcnokaaDoorAwake
namespace Go.Proofs.YtiiokdgbjcnokaaDoor.PA
open Go.RowKit Go.Proofs.YtiiokdgbjcnokaaDoorW.PrintWords Go.Proofs.YtiiokdgbjcnokaaDoorW.PrintLast Go.Proofs.YtiiokdgbjcnokaaDoorW.PrintMore
open Go.Proofs.YtiiokdgbjcnokaaDoor.CrcMath
set_option linter.unusedVariables false
set_option linter.unusedSimpArgs false

theorem toReg (x : Int) (h0 : 0 ≤ x) (h1 : x < 4294967296) : ∃ c : R, x = (c.toNat : Int) := by
  refine ⟨BitVec.ofNat 32 x.toNat, ?_⟩
  rw [BitVec.toNat_ofNat]
  omega

set_option maxHeartbeats 1000000 in
theorem sums_few (A : Option Addr) (c : Nat) (l : List ByteArray) (x : R) (w : World) (hr : Kd.C Kd.string w A l.length l) (hc : l.length ≤ c) (hf : fewB l = true) (hT : Tab w) :
    Calls Tryd.prog 3 #[.slice A l.length c, .int .u32 (x.toNat : Int)] w fun e w' => e = .returned (.bool true) ∧ Below w.heap.size w w' := by
  have HT := Aside0.mk hT
  have HR := Aside0.mk hr
  have HF := Aside0.mk (few_fits hf)
  obtain ⟨k1, h1⟩ := (few_ev (l := l) (by have := (few_yes hf).1; omega)).rounds
  rw [hf] at h1
  obtain ⟨k2, h2⟩ := (joined_ev hf).rounds
  have hsz : (strB (bytes l)).size ≤ 4611686018427387904 := by
    rw [strB_size]
    have := bytes_length (few_yes hf).2
    have := (few_yes hf).1
    omega
  obtain ⟨k3, h3⟩ := (sum_ev HF.out).rounds
  obtain ⟨k4, h4⟩ := (refmore_ev 0#32 hsz).rounds
  obtain ⟨k5, h5⟩ := (more_ev x HF.out).rounds
  obtain ⟨k6, h6⟩ := (refmore_ev x hsz).rounds
  obtain ⟨k8, h8⟩ := (refkey_ev HF.out).rounds
  rw [strB_list] at h4 h6
  generalize more 0#32 (bytes l) = y at h3 h4
  generalize more x (bytes l) = z at h5 h6
  generalize strB (bytes l) = s at h2 h4 h6
  have A1 := Aside0.mk h1
  have A2 := Aside0.mk h2
  have A3 := Aside0.mk h3
  have A4 := Aside0.mk h4
  have A5 := Aside0.mk h5
  have A6 := Aside0.mk h6
  have A8 := Aside0.mk h8
  have HK := Aside0.mk (key_calls A c l)
  clear hr hT hf h1 h2 h3 h4 h5 h6 h8 hsz
  go_enter Tryd.func3, Tryd.ntmps3
  go_wp2_with (fail)
  refine (lighterlaw02_few.calls k1 _ _ _ _ _ HR.out hc A1.out).mono ?_
  rintro e w1 ⟨rfl, hd⟩
  have HB := Aside0.mk hd.below
  clear hd
  go_wp2_with (fail)
  refine (lighterlaw02_joined.calls k2 _ _ _ _ _ (Kd.C_below HR.out HB.out) hc A2.out).mono ?_
  rintro e w2 ⟨rfl, hd⟩
  have HB := Aside0.mk (below_step HB.out hd.below)
  clear hd
  go_wp2_with (fail)
  refine (crc_Sum.calls k3 _ _ _ _ _ (Kd.C_below HR.out HB.out) hc A3.out).mono ?_
  rintro e w3 ⟨rfl, hd⟩
  have HB := Aside0.mk (below_step HB.out hd.below)
  clear hd
  go_wp2_with (fail)
  refine (lighterref02_More.calls k4 _ _ _ _ A4.out).mono ?_
  rintro e w4 ⟨rfl, hd⟩
  have HB := Aside0.mk (below_step HB.out hd.below)
  clear hd
  go_wp2_with (fail)
  refine (crc_More.calls k5 _ _ _ _ _ _ (Kd.C_below HR.out HB.out) hc A5.out).mono ?_
  rintro e w5 ⟨rfl, hd⟩
  have HB := Aside0.mk (below_step HB.out hd.below)
  clear hd
  go_wp2_with (fail)
  refine (lighterref02_More.calls k6 _ _ _ _ A6.out).mono ?_
  rintro e w6 ⟨rfl, hd⟩
  have HB := Aside0.mk (below_step HB.out hd.below)
  clear hd
  go_wp2_with (fail)
  refine (HK.out _ HF.out (Kd.C_below HR.out HB.out) hc).mono ?_
  rintro e w7 ⟨rfl, hb⟩
  have HB := Aside0.mk (below_step HB.out hb)
  clear hb
  go_wp2_with (fail)
  refine (lighterref02_Key.calls k8 _ _ _ _ _ (Kd.C_below HR.out HB.out) hc A8.out).mono ?_
  rintro e w8 ⟨rfl, hd⟩
  have HB := Aside0.mk (below_step HB.out hd.below)
  clear hd
  go_wp2_with (fail)
  refine (awake_calls _ (HT.out.below HB.out)).mono ?_
  rintro e w9 ⟨rfl, hb⟩
  have HB := Aside0.mk (below_step HB.out hb)
  clear hb
  go_wp2_with (fail)
  go_ret
  exact ⟨rfl, HB.out⟩

set_option maxHeartbeats 1000000 in
theorem sums_many (A : Option Addr) (c : Nat) (l : List ByteArray) (x : Int) (w : World) (hr : Kd.C Kd.string w A l.length l) (hc : l.length ≤ c) (hm : l.length ≤ 9223372036854775807) (hf : fewB l = false) (hT : Tab w) :
    Calls Tryd.prog 3 #[.slice A l.length c, .int .u32 x] w fun e w' => e = .returned (.bool true) ∧ Below w.heap.size w w' := by
  have HT := Aside0.mk hT
  have HR := Aside0.mk hr
  obtain ⟨k1, h1⟩ := (few_ev (l := l) hm).rounds
  rw [hf] at h1
  have A1 := Aside0.mk h1
  clear hr hT hf h1
  go_enter Tryd.func3, Tryd.ntmps3
  go_wp2_with (fail)
  refine (lighterlaw02_few.calls k1 _ _ _ _ _ HR.out hc A1.out).mono ?_
  rintro e w1 ⟨rfl, hd⟩
  have HB := Aside0.mk hd.below
  clear hd
  go_wp2_with (fail)
  refine (awake_calls _ (HT.out.below HB.out)).mono ?_
  rintro e w9 ⟨rfl, hb⟩
  have HB := Aside0.mk (below_step HB.out hb)
  clear hb
  go_wp2_with (fail)
  go_ret
  exact ⟨rfl, HB.out⟩

theorem sums_walk (w : World) (hT : Tab w) (A : Option Addr) (c : Nat) (l : List ByteArray) (hr : Kd.C Kd.string w A l.length l) (hc : l.length ≤ c) (hm : l.length ≤ 9223372036854775807) (x : Int) (hx0 : 0 ≤ x) (hx1 : x ≤ 4294967295) :
    Calls Tryd.prog 3 #[.slice A l.length c, .int .u32 x] w fun e w' => e = .returned (.bool true) ∧ Below w.heap.size w w' := by
  cases hf : fewB l with
  | true =>
    obtain ⟨r, rfl⟩ := toReg x hx0 (by omega)
    exact sums_few A c l r w hr hc hf hT
  | false => exact sums_many A c l x w hr hc hm hf hT

set_option maxHeartbeats 1000000 in
theorem opens_few (s : ByteArray) (w : World) (hs : s.size ≤ 500) (hT : Tab w) :
    Calls Tryd.prog 5 #[.string s] w fun e w' => e = .returned (.bool true) ∧ Below w.heap.size w w' := by
  have HT := Aside0.mk hT
  obtain ⟨k1, h1⟩ := (open_ev (s := s) (by omega)).rounds
  obtain ⟨k2, h2⟩ := (refopen_ev (s := s) (by omega)).rounds
  generalize (if s.size < 4 then ((⟨#[]⟩ : ByteArray), (10 : Int)) else if seal_ (s.data.toList.take (s.size - 4)) = s.data.toList then (strB (s.data.toList.take (s.size - 4)), 0) else (⟨#[]⟩, 13)) = p at h1 h2
  obtain ⟨p1, p2⟩ := p
  obtain ⟨k3, h3⟩ := (seal_ev (s := s) (by omega)).rounds
  obtain ⟨k4, h4⟩ := (refmore_ev 0#32 (s := s) (by omega)).rounds
  have h5 := four_is (more 0#32 s.data.toList) 5 (by omega)
  have e3 : sealB s = s ++ strB (four (more 0#32 s.data.toList)) := by
    apply bytes_ext
    rw [append_list]
    rfl
  rw [e3] at h3
  have hsz : s.size + (strB (four (more 0#32 s.data.toList))).size ≤ 9223372036854775807 := by rw [strB_size, four_length]; omega
  generalize strB (four (more 0#32 s.data.toList)) = q at h3 h5 hsz
  generalize more 0#32 s.data.toList = y at h4 h5
  have hz1 := eq_true hsz
  have hz2 : (9223372036854775807 < s.size + q.size) = False := eq_false (Nat.not_lt.2 hsz)
  have A1 := Aside0.mk h1
  have A2 := Aside0.mk h2
  have A3 := Aside0.mk h3
  have A4 := Aside0.mk h4
  have A5 := Aside0.mk h5
  clear hT h1 h2 h3 h4 h5 e3 hsz
  go_enter Tryd.func5, Tryd.ntmps5
  go_wp2_with (fail)
  refine (crc_Open.calls k1 _ _ _ _ A1.out).mono ?_
  rintro e w1 ⟨rfl, hb⟩
  have HB := Aside0.mk hb
  clear hb
  go_wp2_with (fail)
  refine (lighterref02_Open.calls k2 _ _ _ _ A2.out).mono ?_
  rintro e w2 ⟨rfl, hb⟩
  have HB := Aside0.mk (below_step HB.out hb)
  clear hb
  go_wp2_with (fail)
  refine (crc_Seal.calls k3 _ _ _ A3.out).mono ?_
  rintro e w3 ⟨rfl, hb⟩
  have HB := Aside0.mk (below_step HB.out hb)
  clear hb
  go_wp2_with (fail)
  refine (lighterref02_More.calls k4 _ _ _ _ A4.out).mono ?_
  rintro e w4 ⟨rfl, hd⟩
  have HB := Aside0.mk (below_step HB.out hd.below)
  clear hd
  go_wp2_with (fail)
  refine (lighterref02_Four.calls 5 _ _ _ A5.out).mono ?_
  rintro e w5 ⟨rfl, hb⟩
  have HB := Aside0.mk (below_step HB.out hb)
  clear hb
  go_wp2_with (fail)
  refine (awake_calls _ (HT.out.below HB.out)).mono ?_
  rintro e w9 ⟨rfl, hb⟩
  have HB := Aside0.mk (below_step HB.out hb)
  clear hb
  go_wp2_with (fail)
  go_ret
  exact ⟨rfl, HB.out⟩

set_option maxHeartbeats 1000000 in
theorem opens_many (s : ByteArray) (w : World) (hs : 500 < s.size) (hT : Tab w) :
    Calls Tryd.prog 5 #[.string s] w fun e w' => e = .returned (.bool true) ∧ Below w.heap.size w w' := by
  have HT := Aside0.mk hT
  have hs2 : (500 : Int) < (s.size : Int) := by omega
  clear hT
  go_enter Tryd.func5, Tryd.ntmps5
  go_wp2_with (fail)
  refine (awake_calls _ HT.out).mono ?_
  rintro e w9 ⟨rfl, hb⟩
  have HB := Aside0.mk hb
  clear hb
  go_wp2_with (fail)
  go_ret
  exact ⟨rfl, HB.out⟩
theorem opens_walk (w : World) (hT : Tab w) (s : ByteArray) : Calls Tryd.prog 5 #[.string s] w fun e w' => e = .returned (.bool true) ∧ Below w.heap.size w w' := by
  by_cases h : s.size ≤ 500
  · exact opens_few s w h hT
  · exact opens_many s w (by omega) hT

set_option maxHeartbeats 1000000 in
theorem sealed_few (s t : ByteArray) (w : World) (hs : s.size ≤ 500) (ht : t.size ≤ 500) (hT : Tab w) :
    Calls Tryd.prog 10 #[.string s, .string t] w fun e w' => e = .returned (.bool true) ∧ Below w.heap.size w w' := by
  have HT := Aside0.mk hT
  obtain ⟨k1, h1⟩ := (seal_ev (s := s) (by omega)).rounds
  obtain ⟨k2, h2⟩ := (seal_ev (s := t) (by omega)).rounds
  have sz : ∀ q : ByteArray, (sealB q).size = q.size + 4 := fun q => by
    unfold sealB seal_
    rw [strB_size, List.length_append, four_length, data_length]
  have rs : ∀ q : ByteArray, q.size ≤ 500 → more 0#32 (bytes [sealB q]) = ~~~ residue := fun q _ => by
    rw [bytes_one]
    unfold more
    rw [show ~~~ (0#32) = BitVec.allOnes 32 by decide]
    unfold sealB
    rw [strB_list, run_seal]
  have f1 : Fits [sealB s] := one_fits (by rw [sz]; omega)
  have f2 : Fits [sealB t] := one_fits (by rw [sz]; omega)
  obtain ⟨k3, h3⟩ := (sum_ev f1).rounds
  obtain ⟨k4, h4⟩ := (sum_ev f2).rounds
  rw [rs s hs] at h3
  rw [rs t ht] at h4
  have z1 := sz s
  have z2 := sz t
  generalize sealB s = a at h1 h3 z1 f1
  generalize sealB t = b at h2 h4 z2 f2
  generalize ~~~ residue = y at h3 h4
  have e1 : ((a.size : Int) == (s.size : Int) + 4) = true := by rw [beq_iff_eq]; omega
  have e2 : ((b.size : Int) == (t.size : Int) + 4) = true := by rw [beq_iff_eq]; omega
  have A1 := Aside0.mk h1
  have A2 := Aside0.mk h2
  have A3 := Aside0.mk h3
  have A4 := Aside0.mk h4
  clear hT h1 h2 h3 h4 z1 z2 sz rs f1 f2
  go_enter Tryd.func10, Tryd.ntmps10
  go_wp2_with (fail)
  refine (crc_Seal.calls k1 _ _ _ A1.out).mono ?_
  rintro e w1 ⟨rfl, hb⟩
  have HB := Aside0.mk hb
  clear hb
  go_wp2_with (fail)
  refine (crc_Seal.calls k2 _ _ _ A2.out).mono ?_
  rintro e w2 ⟨rfl, hb⟩
  have HB := Aside0.mk (below_step HB.out hb)
  clear hb
  go_wp2_with (fail)
  refine (crc_Sum.calls k3 _ _ _ _ _ (C_strs _ [a] (by simp)) (by simp) A3.out).mono ?_
  rintro e w3 ⟨rfl, hd⟩
  have HB := Aside0.mk (below_step (below_alloc HB.out _) hd.below)
  clear hd
  go_wp2_with (fail)
  refine (crc_Sum.calls k4 _ _ _ _ _ (C_strs _ [b] (by simp)) (by simp) A4.out).mono ?_
  rintro e w4 ⟨rfl, hd⟩
  have HB := Aside0.mk (below_step (below_alloc HB.out _) hd.below)
  clear hd
  go_wp2_with (fail)
  refine (awake_calls _ (HT.out.below HB.out)).mono ?_
  rintro e w9 ⟨rfl, hb⟩
  have HB := Aside0.mk (below_step HB.out hb)
  clear hb
  go_wp2_with (fail)
  go_ret
  exact ⟨rfl, HB.out⟩

set_option maxHeartbeats 1000000 in
theorem sealed_many (s t : ByteArray) (w : World) (hs : 500 < s.size) (hT : Tab w) :
    Calls Tryd.prog 10 #[.string s, .string t] w fun e w' => e = .returned (.bool true) ∧ Below w.heap.size w w' := by
  have HT := Aside0.mk hT
  have hs2 : (500 : Int) < (s.size : Int) := by omega
  clear hT
  go_enter Tryd.func10, Tryd.ntmps10
  go_wp2_with (fail)
  refine (awake_calls _ HT.out).mono ?_
  rintro e w9 ⟨rfl, hb⟩
  have HB := Aside0.mk hb
  clear hb
  go_wp2_with (fail)
  go_ret
  exact ⟨rfl, HB.out⟩
set_option maxHeartbeats 1000000 in
theorem sealed_many2 (s t : ByteArray) (w : World) (hs : s.size ≤ 500) (ht : 500 < t.size) (hT : Tab w) :
    Calls Tryd.prog 10 #[.string s, .string t] w fun e w' => e = .returned (.bool true) ∧ Below w.heap.size w w' := by
  have HT := Aside0.mk hT
  have hs2 : (s.size : Int) ≤ (500 : Int) := by omega
  have ht2 : (500 : Int) < (t.size : Int) := by omega
  clear hT
  go_enter Tryd.func10, Tryd.ntmps10
  go_wp2_with (fail)
  refine (awake_calls _ HT.out).mono ?_
  rintro e w9 ⟨rfl, hb⟩
  have HB := Aside0.mk hb
  clear hb
  go_wp2_with (fail)
  go_ret
  exact ⟨rfl, HB.out⟩
theorem sealed_walk (w : World) (hT : Tab w) (s t : ByteArray) : Calls Tryd.prog 10 #[.string s, .string t] w fun e w' => e = .returned (.bool true) ∧ Below w.heap.size w w' := by
  by_cases h : s.size ≤ 500
  · by_cases h2 : t.size ≤ 500
    · exact sealed_few s t w h h2 hT
    · exact sealed_many2 s t w h (by omega) hT
  · exact sealed_many s t w (by omega) hT
end Go.Proofs.YtiiokdgbjcnokaaDoor.PA
