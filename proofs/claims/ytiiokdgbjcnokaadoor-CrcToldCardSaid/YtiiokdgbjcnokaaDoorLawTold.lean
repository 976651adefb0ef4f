/- The walk of CrcTold. Condition: the table lies where the text laid it. -/
import Derived.Test.YtiiokdgbjcnokaaDoorLawParts
import Derived.Laws.IdiomStrings
import Derived.StillTailTactics
import Derived.IntWalk
namespace Go.Proofs.YtiiokdgbjcnokaaDoor.PA
open Go.RowKit Go.Proofs.YtiiokdgbjcnokaaDoorW.PrintWords Go.Proofs.YtiiokdgbjcnokaaDoorW.PrintLast Go.Proofs.YtiiokdgbjcnokaaDoorW.PrintMore
open Go.Proofs.YtiiokdgbjcnokaaDoor.CrcMath
set_option linter.unusedVariables false
set_option linter.unusedSimpArgs false
/-- e at place a, else 0. -/
def diff (m a : Nat) (e : List UInt8) : List UInt8 := List.replicate a 0 ++ (e ++ List.replicate (m - a - e.length) 0)
theorem diff_length (m a : Nat) (e : List UInt8) (h : a + e.length ≤ m) : (diff m a e).length = m := by simp [diff]; omega
theorem diff_get (m a : Nat) (e : List UInt8) (h : a + e.length ≤ m) (j : Nat) (hj : j < m) : (diff m a e)[j]? = some (if a ≤ j ∧ j < a + e.length then e.getD (j - a) 0 else 0) := by
  unfold diff
  by_cases h1 : j < a
  · rw [List.getElem?_append_left (by simpa using h1), List.getElem?_replicate, if_pos h1, if_neg (by omega)]
  · rw [List.getElem?_append_right (by simp; omega), List.length_replicate]
    by_cases h2 : j < a + e.length
    · rw [List.getElem?_append_left (by omega), if_pos (by omega), List.getD_eq_getElem?_getD, List.getElem?_eq_getElem (by omega)]
      rfl
    · rw [List.getElem?_append_right (by omega), List.getElem?_replicate, if_pos (by omega), if_neg (by omega)]
/-- L turned by e at a. -/
def dif (L : List UInt8) (a : Nat) (e : List UInt8) : List UInt8 := List.zipWith (· ^^^ ·) L (diff L.length a e)
theorem dif_length (L : List UInt8) (a : Nat) (e : List UInt8) (h : a + e.length ≤ L.length) : (dif L a e).length = L.length := by
  unfold dif; rw [List.length_zipWith, diff_length _ _ _ h, Nat.min_self]
theorem dif_get (L : List UInt8) (a : Nat) (e : List UInt8) (h : a + e.length ≤ L.length) (j : Nat) (hj : j < L.length) : (dif L a e)[j]? = some (L[j] ^^^ (if a ≤ j ∧ j < a + e.length then e.getD (j - a) 0 else 0)) := by
  unfold dif
  rw [List.getElem?_zipWith, diff_get _ _ _ h j hj, List.getElem?_eq_getElem hj]
theorem xor0 (c : UInt8) : c ^^^ 0 = c := by simp
theorem dif_nil (L : List UInt8) (a : Nat) (h : a ≤ L.length) : dif L a [] = L := by
  apply List.ext_getElem?
  intro j
  by_cases hj : j < L.length
  · rw [dif_get L a [] (by simpa using h) j hj, if_neg (by simp), List.getElem?_eq_getElem hj, xor0]
  · rw [List.getElem?_eq_none (by rw [dif_length _ _ _ (by simpa using h)]; omega), List.getElem?_eq_none (by omega)]
theorem dif_at (L t : List UInt8) (a i : Nat) (hi : i < t.length) (h : a + i < L.length) : (dif L a (t.take i))[a + i]? = some L[a + i] := by
  rw [dif_get L a _ (by simp; omega) _ h, if_neg (by simp; omega), xor0]
theorem dif_step (L t : List UInt8) (a i : Nat) (hi : i < t.length) (h : a + i < L.length) : (dif L a (t.take i)).set (a + i) (L[a + i] ^^^ t[i]) = dif L a (t.take (i + 1)) := by
  apply List.ext_getElem?
  intro j
  have hl := dif_length L a (t.take i) (by simp; omega)
  have hl1 := dif_length L a (t.take (i + 1)) (by simp; omega)
  by_cases hj : j < L.length
  · rw [dif_get L a (t.take (i + 1)) (by simp; omega) j hj]
    by_cases e : j = a + i
    · subst e
      rw [List.getElem?_set_self (by omega), if_pos (by simp; omega), List.getD_eq_getElem?_getD, List.getElem?_take_of_lt (by omega), show a + i - a = i by omega, List.getElem?_eq_getElem hi]
      rfl
    · rw [List.getElem?_set_ne (by omega), dif_get L a (t.take i) (by simp; omega) j hj]
      congr 2
      by_cases hh : a ≤ j ∧ j < a + i
      · rw [if_pos (by simp; omega), if_pos (by simp; omega), List.getD_eq_getElem?_getD, List.getD_eq_getElem?_getD, List.getElem?_take_of_lt (by omega), List.getElem?_take_of_lt (by omega)]
      · rw [if_neg (by simp; omega), if_neg (by simp; omega)]
  · rw [List.getElem?_eq_none (by rw [List.length_set]; omega), List.getElem?_eq_none (by omega)]
theorem dif_zero (L e : List UInt8) (a : Nat) (h : a + e.length ≤ L.length) (hz : e.any (fun c => decide (c ≠ 0)) = false) : dif L a e = L := by
  apply List.ext_getElem?
  intro j
  by_cases hj : j < L.length
  · rw [dif_get L a e h j hj, List.getElem?_eq_getElem hj]
    congr 1
    by_cases hh : a ≤ j ∧ j < a + e.length
    · rw [if_pos hh, List.getD_eq_getElem?_getD, List.getElem?_eq_getElem (by omega)]
      rw [List.any_eq_false] at hz
      have := hz e[j - a] (List.getElem_mem (by omega))
      simp at this
      simp [this]
    · rw [if_neg hh, xor0]
  · rw [List.getElem?_eq_none (by rw [dif_length _ _ _ h]; omega), List.getElem?_eq_none (by omega)]
theorem dif_bad (L e : List UInt8) (a : Nat) (h : a + e.length ≤ L.length) (h4 : e.length ≤ 4) (hz : e.any (fun c => decide (c ≠ 0)) = true) (hL : run (BitVec.allOnes 32) L = residue) : run (BitVec.allOnes 32) (dif L a e) ≠ residue := by
  intro hr
  have hx := run_xor (BitVec.allOnes 32) 0#32 L (diff L.length a e) (by rw [diff_length _ _ _ h])
  rw [BitVec.xor_zero] at hx
  unfold dif at hr
  rw [hr, hL] at hx
  have h0 : run 0#32 (diff L.length a e) = 0#32 := by
    have h1 : residue ^^^ residue = residue ^^^ (residue ^^^ run 0#32 (diff L.length a e)) := by rw [← hx]
    rw [← BitVec.xor_assoc, BitVec.xor_self, BitVec.zero_xor] at h1
    exact h1.symm
  refine run_burst a _ e h4 ?_ h0
  rw [List.any_eq_true] at hz
  obtain ⟨c, hc, hn⟩ := hz
  exact ⟨c, hc, by simpa using hn⟩
/-- What Open answers to the turned bytes. -/
theorem told_open (s : List UInt8) (e : List UInt8) (a : Nat) (h : a + e.length ≤ (seal_ s).length) (h4 : e.length ≤ 4) :
    (if seal_ ((dif (seal_ s) a e).take ((seal_ s).length - 4)) = dif (seal_ s) a e then (strB ((dif (seal_ s) a e).take ((seal_ s).length - 4)), (0 : Int)) else (⟨#[]⟩, 13)) = if e.any (fun c => decide (c ≠ 0)) then ((⟨#[]⟩ : ByteArray), (13 : Int)) else (strB s, 0) := by
  have hlen : (seal_ s).length = s.length + 4 := by simp [seal_, four_length]
  have htk : (seal_ s).take ((seal_ s).length - 4) = s := by
    rw [hlen, show s.length + 4 - 4 = s.length by omega]
    unfold seal_
    rw [List.take_left]
  cases hz : e.any (fun c => decide (c ≠ 0)) with
  | false => rw [dif_zero _ _ _ h hz, htk, if_pos rfl]; rfl
  | true =>
    rw [if_neg]
    · rfl
    · intro hh
      refine dif_bad (seal_ s) e a h h4 hz (run_seal s) ?_
      rw [← hh]
      exact run_seal _
/-- A block whose first cells are bytes, that bears a mark behind them. -/
def Blk9 (W : World) (g : Nat) (l : List UInt8) : Prop := ∃ (z : Array Value) (p q : Nat), l.length ≤ p ∧ W.heap[g]? = some (.cells ((l.map fun c => Value.int .u8 (c.toNat : Int)).toArray ++ z) 5 (p, q))
theorem Blk9.below {W W1 : World} {g : Nat} {l : List UInt8} (h : Blk9 W g l) (hb : Below W.heap.size W W1) : Blk9 W1 g l := by
  obtain ⟨z, p, q, h1, h2⟩ := h
  exact ⟨z, p, q, h1, blk_below h2 hb⟩
theorem Blk9.lt {W : World} {g : Nat} {l : List UInt8} (h : Blk9 W g l) : g < W.heap.size := by
  obtain ⟨z, p, q, h1, h2⟩ := h
  exact blk_lt h2
theorem Blk9.cell {W : World} {g : Nat} {l : List UInt8} (h : Blk9 W g l) (i : Nat) (c : UInt8) (hi : l[i]? = some c) : W.cell? ⟨g, i, none⟩ = some (.int .u8 (c.toNat : Int)) := by
  obtain ⟨z, p, q, h1, h2⟩ := h
  have hl : i < l.length := (List.getElem?_eq_some_iff.1 hi).1
  rw [cell_of_row W g i _ 5 (p, q) h2, Array.getElem?_append_left (by simpa using hl)]
  simp [hi]
theorem Blk9.frozen {W : World} {g : Nat} {l : List UInt8} (h : Blk9 W g l) (i : Nat) (hi : i < l.length) : W.frozen? ⟨g, i, none⟩ = false := by
  obtain ⟨z, p, q, h1, h2⟩ := h
  simp [World.frozen?, h2]
  omega
theorem Blk9.set {W : World} {g : Nat} {l : List UInt8} (h : Blk9 W g l) (i : Nat) (c : UInt8) (hi : i < l.length) : Blk9 (W.setCell ⟨g, i, none⟩ (.int .u8 (c.toNat : Int))) g (l.set i c) := by
  obtain ⟨z, p, q, h1, h2⟩ := h
  refine ⟨z, p, q, by rw [List.length_set]; exact h1, ?_⟩
  simp [World.setCell, Array.getElem?_modify, h2]
  rw [Array.setIfInBounds_append_left (by simpa using hi)]
  simp
theorem Blk9.string {W : World} {g : Nat} {l : List UInt8} (h : Blk9 W g l) (c : Nat) : (convert 34 9 (.slice (some ⟨g, 0, none⟩) l.length c)).run Tryd.prog W = .ok (.string (strB l)) W := by
  rw [run_convert_bytes_back (P := Tryd.prog) W 34 9 5 ⟨g, 0, none⟩ c l Tryd.underlying34 Tryd.underlying5 Tryd.underlying9 (fun j hj => by rw [add_plain]; exact h.cell j l[j] (List.getElem?_eq_getElem hj))]
  rfl
theorem bytes_made (w : World) (s : ByteArray) : ∃ c, s.size ≤ c ∧ ∃ w1, (convert 9 34 (.string s)).run Tryd.prog w = .ok (.slice (some ⟨w.heap.size, 0, none⟩) s.size c) w1 ∧ Blk9 w1 w.heap.size s.data.toList ∧ Below w.heap.size w w1 := by
  have h := run_bytes_of_string (P := Tryd.prog) w 9 34 5 s Tryd.underlying9 Tryd.underlying34 Tryd.underlying5
  have hc : s.size ≤ grownCap w s.size 0 5 := by
    exact grownCap_ge _ _ _ _
  refine ⟨_, hc, _, h, ?_, ?_⟩
  · refine ⟨Array.replicate (grownCap w s.size 0 5 - s.size) (.int .u8 0), (bytesRow s (grownCap w s.size 0 5)).size, (bytesRow s (grownCap w s.size 0 5)).size + 1, ?_, ?_⟩
    · simp [bytesRow]
    · rw [show (w.drew.alloc (.cells (bytesRow s (grownCap w s.size 0 5)) 5 ((bytesRow s (grownCap w s.size 0 5)).size, (bytesRow s (grownCap w s.size 0 5)).size + 1))).heap[w.heap.size]? = _ from blk_new w.drew _]
      congr 2
      unfold bytesRow
      congr 1
      apply Array.ext'
      simp
  · exact below_alloc (below_drew (Below.refl _ _)) _
/-- The four bytes that turn. -/
def T4 (W : World) (g : Nat) (t : List UInt8) : Prop := W.heap[g]? = some (.cells (t.map fun c => Value.int .u8 (c.toNat : Int)).toArray 45 (0, 0))
theorem T4.below {W W1 : World} {g : Nat} {l : List UInt8} (h : T4 W g l) (hb : Below W.heap.size W W1) : T4 W1 g l := blk_below h hb
theorem T4.cell {W : World} {g : Nat} {l : List UInt8} (h : T4 W g l) (i : Nat) (c : UInt8) (hi : l[i]? = some c) : W.cell? ⟨g, i, none⟩ = some (.int .u8 (c.toNat : Int)) := by
  rw [blk_cell h i]
  simp [hi]
theorem bx8 (p q : UInt8) : Go.bits .xor .u8 (p.toNat : Int) (q.toNat : Int) = ((p ^^^ q).toNat : Int) := by
  have h : (p ^^^ q).toNat < 256 := (p ^^^ q).toBitVec.isLt
  unfold Go.bits
  simp only [IntKind.bits]
  rw [IntKind.wrap_u8]
  have e : ∀ r : UInt8, BitVec.ofInt 8 (r.toNat : Int) = r.toBitVec := fun r => by
    apply BitVec.eq_of_toNat_eq
    rw [BitVec.toNat_ofInt]
    have : r.toNat < 256 := r.toBitVec.isLt
    simp; omega
  rw [e, e]
  show (((p ^^^ q).toBitVec.toNat : Nat) : Int) % 256 = ((p ^^^ q).toNat : Int)
  show (((p ^^^ q).toNat : Nat) : Int) % 256 = ((p ^^^ q).toNat : Int)
  omega
theorem sealB_size (s : ByteArray) : (sealB s).size = s.size + 4 := by
  unfold sealB
  rw [strB_size]
  simp [seal_, four_length, data_length]
set_option maxHeartbeats 1000000 in
theorem told_many (s : ByteArray) (a x0 x1 x2 x3 : Int) (h : 500 < s.size) (w : World) (hT : Tab w) :
    Calls Tryd.prog 7 #[.string s, .int .i64 a, .agg #[.int .u8 x0, .int .u8 x1, .int .u8 x2, .int .u8 x3]] w fun e w' => e = .returned (.bool true) ∧ Below w.heap.size w w' := by
  have HT := Aside0.mk hT
  have ht2 : (500 : Int) < (s.size : Int) := by omega
  clear hT
  go_enter Tryd.func7, Tryd.ntmps7
  go_wp2_with (fail)
  have HB := Aside0.mk (below_alloc (Below.refl w.heap.size w) (.cells #[.int .u8 x0, .int .u8 x1, .int .u8 x2, .int .u8 x3] 45))
  refine (awake_calls _ (HT.out.below HB.out)).mono ?_
  rintro e w9 ⟨rfl, hb⟩
  have HB := Aside0.mk (below_step HB.out hb)
  clear hb
  go_wp2_with (fail)
  go_ret
  exact ⟨rfl, HB.out⟩
set_option maxHeartbeats 1000000 in
theorem told_out (s : ByteArray) (a x0 x1 x2 x3 : Int) (h : s.size ≤ 500) (ha : a < 0 ∨ (0 ≤ a ∧ (s.size : Int) + 4 ≤ a)) (w : World) (hT : Tab w) :
    Calls Tryd.prog 7 #[.string s, .int .i64 a, .agg #[.int .u8 x0, .int .u8 x1, .int .u8 x2, .int .u8 x3]] w fun e w' => e = .returned (.bool true) ∧ Below w.heap.size w w' := by
  have HT := Aside0.mk hT
  obtain ⟨k1, h1⟩ := (seal_ev (s := s) (by omega)).rounds
  obtain ⟨k2, h2⟩ := (open_ev (s := sealB s) (by rw [sealB_size]; omega)).rounds
  have hop := told_open s.data.toList [] 0 (by simp) (by simp)
  rw [dif_nil _ _ (by omega)] at hop
  rw [if_neg (by rw [sealB_size]; omega), show (sealB s).data.toList = seal_ s.data.toList from rfl, show (sealB s).size = (seal_ s.data.toList).length by rw [sealB_size]; simp [seal_, four_length, data_length], hop] at h2
  rw [show strB s.data.toList = s from rfl] at h2
  have hsz := sealB_size s
  generalize sealB s = S at h1 h2 hsz
  have A1 := Aside0.mk h1
  have A2 := Aside0.mk h2
  clear hT h1 h2 hop
  go_enter Tryd.func7, Tryd.ntmps7
  go_wp2_with (fail)
  have HB := Aside0.mk (below_alloc (Below.refl w.heap.size w) (.cells #[.int .u8 x0, .int .u8 x1, .int .u8 x2, .int .u8 x3] 45))
  refine (crc_Seal.calls k1 _ _ _ A1.out).mono ?_
  rintro e w9 ⟨rfl, hb⟩
  have HB := Aside0.mk (below_step HB.out hb)
  clear hb
  go_wp2_with (fail)
  refine (crc_Open.calls k2 _ _ _ _ A2.out).mono ?_
  rintro e w8 ⟨rfl, hb⟩
  have HB := Aside0.mk (below_step HB.out hb)
  clear hb
  rcases ha with ha | ⟨ha, ha2⟩
  · go_wp2_with (fail)
    refine (awake_calls _ (HT.out.below HB.out)).mono ?_
    rintro e w9 ⟨rfl, hb⟩
    have HB := Aside0.mk (below_step HB.out hb)
    clear hb
    go_wp2_with (fail)
    go_ret
    exact ⟨rfl, HB.out⟩
  · go_wp2_with (fail)
    refine (awake_calls _ (HT.out.below HB.out)).mono ?_
    rintro e w9 ⟨rfl, hb⟩
    have HB := Aside0.mk (below_step HB.out hb)
    clear hb
    go_wp2_with (fail)
    go_ret
    exact ⟨rfl, HB.out⟩
theorem T4_new (w : World) (c0 c1 c2 c3 : UInt8) : T4 (w.alloc (.cells #[.int .u8 (c0.toNat : Int), .int .u8 (c1.toNat : Int), .int .u8 (c2.toNat : Int), .int .u8 (c3.toNat : Int)] 45)) w.heap.size [c0, c1, c2, c3] := blk_new w _
set_option maxRecDepth 100000 in
set_option maxHeartbeats 4000000 in
theorem told_mid (s : ByteArray) (a : Nat) (c0 c1 c2 c3 : UInt8) (h : s.size ≤ 500) (ha : a < s.size + 4) (w : World) (hT : Tab w) :
    Calls Tryd.prog 7 #[.string s, .int .i64 a, .agg #[.int .u8 (c0.toNat : Int), .int .u8 (c1.toNat : Int), .int .u8 (c2.toNat : Int), .int .u8 (c3.toNat : Int)]] w fun e w' => e = .returned (.bool true) ∧ Below w.heap.size w w' := by
  have HT := Aside0.mk hT
  obtain ⟨k1, h1⟩ := (seal_ev (s := s) (by omega)).rounds
  obtain ⟨k2, h2⟩ := (open_ev (s := sealB s) (by rw [sealB_size]; omega)).rounds
  have hop := told_open s.data.toList [] 0 (by simp) (by simp)
  have hLl : (seal_ s.data.toList).length = s.size + 4 := by simp [seal_, four_length, data_length]
  rw [dif_nil _ _ (by omega)] at hop
  rw [if_neg (by rw [sealB_size]; omega), show (sealB s).data.toList = seal_ s.data.toList from rfl, show (sealB s).size = (seal_ s.data.toList).length by rw [sealB_size, hLl], hop] at h2
  rw [show strB s.data.toList = s from rfl] at h2
  have hsz := sealB_size s
  have hSl : (sealB s).data.toList = seal_ s.data.toList := rfl
  generalize sealB s = S at h1 h2 hsz hSl
  have A1 := Aside0.mk h1
  have A2 := Aside0.mk h2
  have HS := Aside0.mk hSl
  have HL := Aside0.mk hLl
  clear hT h1 h2 hop hSl hLl
  go_enter Tryd.func7, Tryd.ntmps7
  go_wp2_with (fail)
  have HB := Aside0.mk (below_alloc (Below.refl w.heap.size w) (.cells #[.int .u8 (c0.toNat : Int), .int .u8 (c1.toNat : Int), .int .u8 (c2.toNat : Int), .int .u8 (c3.toNat : Int)] 45))
  have H4 := Aside0.mk (T4_new w c0 c1 c2 c3)
  refine (crc_Seal.calls k1 _ _ _ A1.out).mono ?_
  rintro e w9 ⟨rfl, hb⟩
  have H4 := Aside0.mk (H4.out.below hb)
  have HB := Aside0.mk (below_step HB.out hb)
  clear hb
  go_wp2_with (fail)
  refine (crc_Open.calls k2 _ _ _ _ A2.out).mono ?_
  rintro e w8 ⟨rfl, hb⟩
  have H4 := Aside0.mk (H4.out.below hb)
  have HB := Aside0.mk (below_step HB.out hb)
  clear hb
  obtain ⟨c, hc, w1, hcv, h9, hb⟩ := bytes_made w8 S
  have hg : w.heap.size < w8.heap.size := by
    have := blk_lt H4.out
    exact this
  have HC := Aside0.mk hc
  clear hc
  have H4 := Aside0.mk (H4.out.below hb)
  have HB := Aside0.mk (below_step HB.out hb)
  have H9 := Aside0.mk h9
  generalize w8.heap.size = g at hg hcv H9
  clear h9 hb
  go_wp2_with (fail)
  have hm : S.size = s.size + 4 := hsz
  have ht4 : [c0, c1, c2, c3].length = 4 := rfl
  generalize [c0, c1, c2, c3] = t at H4 ht4
  have HT4 := Aside0.mk ht4
  clear hcv ht4
  go_loopw [11, 12] (fun v11 v12 wr => ∃ (i : Nat) (tv : Bool), i ≤ 4 ∧ a + i ≤ S.size ∧ v12 = .int .i64 i ∧ v11 = .bool tv ∧ Aside0 (tv = ((t.take i).any fun c => decide (c ≠ 0)) ∧ Below w.heap.size w wr ∧ T4 wr w.heap.size t ∧ Blk9 wr g (dif (seal_ s.data.toList) a (t.take i)))) (fun _ v12 _ => 4 - (intOf v12).toNat)
  case atStart =>
    refine ⟨0, false, by omega, by omega, rfl, rfl, ⟨by simp, HB.out, H4.out, ?_⟩⟩
    rw [List.take_zero, dif_nil _ _ (by rw [HL.out]; omega), ← HS.out]
    exact H9.out
  case round =>
    clear HB H4 H9
    obtain ⟨i, tv, hi, hai, rfl, rfl, H0⟩ := hrel
    have HA := Aside0.mk H0.out.1
    have H := Aside0.mk H0.out.2
    clear H0
    by_cases hlt : i < 4
    · by_cases hla : a + i < S.size
      · have hit : i < t.length := by rw [HT4.out]; omega
        have haL : a + i < (seal_ s.data.toList).length := by rw [HL.out]; omega
        have hq := dif_length (seal_ s.data.toList) a (t.take i) (by rw [List.length_take]; omega)
        obtain ⟨n, hn⟩ : ∃ n : Int, n = (t[i].toNat : Int) := ⟨_, rfl⟩
        have HZ : Aside0 (n = 0 ↔ t[i] = 0) := by
          refine ⟨?_⟩
          rw [hn]
          constructor
          · intro h
            apply UInt8.toNat_inj.1
            simpa using h
          · intro h
            rw [h]; rfl
        have HN0 := Aside0.mk hn
        clear hn
        have c1 := H.out.2.1.cell i t[i] (List.getElem?_eq_getElem hit)
        rw [← HN0.out] at c1
        have c2 := H.out.2.2.cell (a + i) _ (dif_at _ t a i hit haL)
        have c3 := H.out.2.2.frozen (a + i) (by omega)
        have hst := H.out.2.2.set (a + i) ((seal_ s.data.toList)[a + i] ^^^ t[i]) (by omega)
        rw [dif_step _ t a i hit haL] at hst
        have HST := Aside0.mk hst
        have HAny : Aside0 ((t.take (i + 1)).any (fun c => decide (c ≠ 0)) = ((t.take i).any (fun c => decide (c ≠ 0)) || decide (t[i] ≠ 0))) := ⟨by rw [List.take_succ_eq_append_getElem hit, List.any_append]; simp⟩
        clear hst hq
        go_wp2
        have q2 : (0 : Int) ≤ (a : Int) + (i : Int) := by omega
        have q3 : (a : Int) + (i : Int) < (s.size : Int) + 4 := by omega
        have q4 : ((a : Int) + (i : Int)).toNat = a + i := by omega
        have q1 : IntKind.i64.wrap ((a : Int) + (i : Int)) = (a : Int) + (i : Int) := IntWalk.i64_in _ (by omega)
        go_still_tail 15, (by kernel_rfl)
        change wpList _ _ _ _ _ (wr.drew)
        clear HST c1 c2 c3 q1
        have H := Aside0.mk (And.intro (below_step H.out.1 (below_drew (Below.refl _ _))) (And.intro (H.out.2.1.below (below_drew (Below.refl _ _))) (H.out.2.2.below (below_drew (Below.refl _ _)))))
        generalize wr.drew = W2 at H ⊢
        have hq := dif_length (seal_ s.data.toList) a (t.take i) (by rw [List.length_take]; omega)
        have c2 := H.out.2.2.cell (a + i) _ (dif_at _ t a i hit haL)
        have c3 := H.out.2.2.frozen (a + i) (by omega)
        have hst := H.out.2.2.set (a + i) ((seal_ s.data.toList)[a + i] ^^^ t[i]) (by omega)
        rw [dif_step _ t a i hit haL, ← bx8, ← HN0.out] at hst
        have hbl : Below w.heap.size w (W2.setCell ⟨g, a + i, none⟩ (.int .u8 (Go.bits .xor .u8 ((seal_ s.data.toList)[a + i].toNat : Int) n))) := H.out.1.setCell (Nat.le_of_lt hg) _
        have h4 : T4 (W2.setCell ⟨g, a + i, none⟩ (.int .u8 (Go.bits .xor .u8 ((seal_ s.data.toList)[a + i].toNat : Int) n))) w.heap.size t := blk_far H.out.2.1 (by show w.heap.size ≠ g; omega) _
        have HN := Aside0.mk (And.intro hbl (And.intro h4 hst))
        have c1 := h4.cell i t[i] (List.getElem?_eq_getElem hit)
        rw [← HN0.out] at c1
        clear hq hbl h4 hst
        have q1 : IntKind.i64.wrap ((a : Int) + (i : Int)) = (a : Int) + (i : Int) := IntWalk.i64_in _ (by omega)
        have hz : n = 0 ∨ ¬ (n = 0) := by omega
        cases tv with
        | true =>
          go_wp2_with (fail)
          go_roundw
          case rel =>
            refine ⟨i + 1, true, by omega, by omega, by go_num, rfl, ⟨?_, HN.out⟩⟩
            rw [HAny.out, ← HA.out]; rfl
          case measure => simp [intOf]; omega
        | false =>
          rcases hz with hz | hz
          · subst hz
            go_wp2_with (fail)
            go_roundw
            case rel =>
              refine ⟨i + 1, false, by omega, by omega, by go_num, rfl, ⟨?_, HN.out⟩⟩
              rw [HAny.out, ← HA.out, decide_eq_false (by simpa using HZ.out.1 rfl)]; rfl
            case measure => simp [intOf]; omega
          · go_wp2_with (fail)
            go_roundw
            case rel =>
              refine ⟨i + 1, true, by omega, by omega, by go_num, congrArg Value.bool (by simpa using hz), ⟨?_, HN.out⟩⟩
              rw [HAny.out, ← HA.out, decide_eq_true (show t[i] ≠ 0 from fun h => hz (HZ.out.2 h))]; rfl
            case measure => simp [intOf]; omega
      · have hil : a + (t.take i).length ≤ (seal_ s.data.toList).length := by rw [List.length_take, HL.out]; omega
        have hq := dif_length (seal_ s.data.toList) a (t.take i) hil
        have hsz2 : (strB (dif (seal_ s.data.toList) a (t.take i))).size = s.size + 4 := by rw [strB_size, hq, HL.out]
        obtain ⟨k3, h3⟩ := (open_ev (s := strB (dif (seal_ s.data.toList) a (t.take i))) (by rw [hsz2]; omega)).rounds
        have hop := told_open s.data.toList (t.take i) a hil (by rw [List.length_take]; omega)
        rw [if_neg (by rw [hsz2]; omega), strB_list, show (strB (dif (seal_ s.data.toList) a (t.take i))).size = (seal_ s.data.toList).length by rw [strB_size, hq], hop, ← HA.out, show strB s.data.toList = s from rfl] at h3
        have hcv := H.out.2.2.string c
        rw [hq, HL.out] at hcv
        clear hop hq hsz2 hil
        generalize strB (dif (seal_ s.data.toList) a (t.take i)) = M at h3 hcv
        have HH := Aside0.mk H.out.1
        clear HA H
        cases tv with
        | true =>
          rw [if_pos rfl] at h3
          have A3 := Aside0.mk h3
          clear h3
          go_wp2_with (fail)
          refine (crc_Open.calls k3 _ _ _ _ A3.out).mono ?_
          rintro e w8 ⟨rfl, hb⟩
          have HB := Aside0.mk (below_step HH.out hb)
          clear hb hcv
          go_wp2_with (fail)
          refine (awake_calls _ (HT.out.below HB.out)).mono ?_
          rintro e w9 ⟨rfl, hb⟩
          have HB := Aside0.mk (below_step HB.out hb)
          clear hb
          go_wp2_with (fail)
          go_ret
          exact ⟨rfl, HB.out⟩
        | false =>
          rw [if_neg (by decide)] at h3
          have A3 := Aside0.mk h3
          clear h3
          go_wp2_with (fail)
          refine (crc_Open.calls k3 _ _ _ _ A3.out).mono ?_
          rintro e w8 ⟨rfl, hb⟩
          have HB := Aside0.mk (below_step HH.out hb)
          clear hb hcv
          go_wp2_with (fail)
          refine (awake_calls _ (HT.out.below HB.out)).mono ?_
          rintro e w9 ⟨rfl, hb⟩
          have HB := Aside0.mk (below_step HB.out hb)
          clear hb
          go_wp2_with (fail)
          go_ret
          exact ⟨rfl, HB.out⟩
    · have hil : a + (t.take i).length ≤ (seal_ s.data.toList).length := by rw [List.length_take, HL.out]; omega
      have hq := dif_length (seal_ s.data.toList) a (t.take i) hil
      have hsz2 : (strB (dif (seal_ s.data.toList) a (t.take i))).size = s.size + 4 := by rw [strB_size, hq, HL.out]
      obtain ⟨k3, h3⟩ := (open_ev (s := strB (dif (seal_ s.data.toList) a (t.take i))) (by rw [hsz2]; omega)).rounds
      have hop := told_open s.data.toList (t.take i) a hil (by rw [List.length_take]; omega)
      rw [if_neg (by rw [hsz2]; omega), strB_list, show (strB (dif (seal_ s.data.toList) a (t.take i))).size = (seal_ s.data.toList).length by rw [strB_size, hq], hop, ← HA.out, show strB s.data.toList = s from rfl] at h3
      have hcv := H.out.2.2.string c
      rw [hq, HL.out] at hcv
      clear hop hq hsz2 hil
      generalize strB (dif (seal_ s.data.toList) a (t.take i)) = M at h3 hcv
      have HH := Aside0.mk H.out.1
      clear HA H
      cases tv with
      | true =>
        rw [if_pos rfl] at h3
        have A3 := Aside0.mk h3
        clear h3
        go_wp2_with (fail)
        refine (crc_Open.calls k3 _ _ _ _ A3.out).mono ?_
        rintro e w8 ⟨rfl, hb⟩
        have HB := Aside0.mk (below_step HH.out hb)
        clear hb hcv
        go_wp2_with (fail)
        refine (awake_calls _ (HT.out.below HB.out)).mono ?_
        rintro e w9 ⟨rfl, hb⟩
        have HB := Aside0.mk (below_step HB.out hb)
        clear hb
        go_wp2_with (fail)
        go_ret
        exact ⟨rfl, HB.out⟩
      | false =>
        rw [if_neg (by decide)] at h3
        have A3 := Aside0.mk h3
        clear h3
        go_wp2_with (fail)
        refine (crc_Open.calls k3 _ _ _ _ A3.out).mono ?_
        rintro e w8 ⟨rfl, hb⟩
        have HB := Aside0.mk (below_step HH.out hb)
        clear hb hcv
        go_wp2_with (fail)
        refine (awake_calls _ (HT.out.below HB.out)).mono ?_
        rintro e w9 ⟨rfl, hb⟩
        have HB := Aside0.mk (below_step HB.out hb)
        clear hb
        go_wp2_with (fail)
        go_ret
        exact ⟨rfl, HB.out⟩
theorem toByte (x : Int) (h0 : 0 ≤ x) (h1 : x ≤ 255) : ∃ c : UInt8, x = (c.toNat : Int) := by
  refine ⟨UInt8.ofNat x.toNat, ?_⟩
  rw [UInt8.toNat_ofNat']
  omega
theorem told_walk (w : World) (hT : Tab w) (s : ByteArray) (a : Int) (ha0 : -9223372036854775808 ≤ a) (ha1 : a ≤ 9223372036854775807) (x0 x1 x2 x3 : Int) (h0 : 0 ≤ x0 ∧ x0 ≤ 255) (h1 : 0 ≤ x1 ∧ x1 ≤ 255) (h2 : 0 ≤ x2 ∧ x2 ≤ 255) (h3 : 0 ≤ x3 ∧ x3 ≤ 255) :
    Calls Tryd.prog 7 #[.string s, .int .i64 a, .agg #[.int .u8 x0, .int .u8 x1, .int .u8 x2, .int .u8 x3]] w fun e w' => e = .returned (.bool true) ∧ Below w.heap.size w w' := by
  by_cases h : 500 < s.size
  · exact told_many s a x0 x1 x2 x3 h w hT
  · by_cases ho : a < 0 ∨ (0 ≤ a ∧ (s.size : Int) + 4 ≤ a)
    · exact told_out s a x0 x1 x2 x3 (by omega) ho w hT
    · obtain ⟨c0, rfl⟩ := toByte x0 h0.1 h0.2
      obtain ⟨c1, rfl⟩ := toByte x1 h1.1 h1.2
      obtain ⟨c2, rfl⟩ := toByte x2 h2.1 h2.2
      obtain ⟨c3, rfl⟩ := toByte x3 h3.1 h3.2
      obtain ⟨m, rfl⟩ : ∃ m : Nat, a = (m : Int) := ⟨a.toNat, by omega⟩
      exact told_mid s m c0 c1 c2 c3 (by omega) (by omega) w hT
end Go.Proofs.YtiiokdgbjcnokaaDoor.PA
