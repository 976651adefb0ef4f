/- The walk of CrcXors (the rows of its region 9 are printed by wip/crc/xg.py of this session). Condition: the table lies where the text laid it. -/
import Derived.Test.YtiiokdgbjcnokaaDoorLawParts
import Derived.Outline
import Derived.Deep.RegionHeld3
import Derived.StillTailTactics
namespace Go.Proofs.YtiiokdgbjcnokaaDoor.PA
open Go.RowKit Go.Proofs.YtiiokdgbjcnokaaDoorW.PrintWords Go.Proofs.YtiiokdgbjcnokaaDoorW.PrintLast Go.Proofs.YtiiokdgbjcnokaaDoorW.PrintMore
open Go.Proofs.YtiiokdgbjcnokaaDoor.CrcMath
attribute [local go_sem] max2_int min2_int max_two min_two max_three min_three max_four min_four
set_option linter.unusedVariables false
set_option linter.unusedSimpArgs false

/-- A block of bytes. -/
def Blk8 (W : World) (g : Nat) (l : List UInt8) : Prop := W.heap[g]? = some (.cells (l.map fun c => Value.int .u8 (c.toNat : Int)).toArray 5 (0, 0))
theorem Blk8.below {W W1 : World} {g : Nat} {l : List UInt8} (h : Blk8 W g l) (hb : Below W.heap.size W W1) : Blk8 W1 g l := blk_below h hb
theorem Blk8.cell {W : World} {g : Nat} {l : List UInt8} (h : Blk8 W g l) (i : Nat) (c : UInt8) (hi : l[i]? = some c) : W.cell? ⟨g, i, none⟩ = some (.int .u8 (c.toNat : Int)) := by
  rw [blk_cell h i]
  simp [hi]
theorem Blk8.frozen {W : World} {g : Nat} {l : List UInt8} (h : Blk8 W g l) (i : Nat) : W.frozen? ⟨g, i, none⟩ = false := blk_frozen h i
theorem Blk8.set {W : World} {g : Nat} {l : List UInt8} (h : Blk8 W g l) (i : Nat) (c : UInt8) : Blk8 (W.setCell ⟨g, i, none⟩ (.int .u8 (c.toNat : Int))) g (l.set i c) := by
  unfold Blk8
  rw [blk_set h i, List.map_set]
  simp
theorem blk8_made (W : World) (n : Nat) : Blk8 (W.alloc (.cells (madeCells #[.int .u8 0] n) 5)) W.heap.size (List.replicate n 0) := by
  unfold Blk8
  rw [blk_new]
  congr 2
  apply Array.ext'
  rw [List.map_replicate]
  have := own_made W W.heap.size 5 .u8 n
  have hl : (madeCells #[Value.int .u8 0] n).toList = List.replicate n (Value.int .u8 0) := by
    apply List.ext_getElem
    · simp [size_madeCells]
    · intro i h1 h2
      simp [madeCells, Nat.mod_one]
  rw [hl]
  rfl
theorem Blk8.reads {W : World} {g : Nat} {l : List UInt8} (h : Blk8 W g l) (hl : l.length ≤ 9223372036854775807) : ReadsInt W .u8 (some ⟨g, 0, none⟩) l.length (l.map fun c => (c.toNat : Int)) := by
  refine ⟨by simp, hl, fun _ => ⟨_, rfl, fun j hj => ?_⟩⟩
  rw [add_plain, h.cell j (l[j]) (List.getElem?_eq_getElem hj)]
  simp [hj]
theorem Blk8.string {W : World} {g : Nat} {l : List UInt8} (h : Blk8 W g l) (hl : l.length ≤ 9223372036854775807) (c : Nat) : (convert 34 9 (.slice (some ⟨g, 0, none⟩) l.length c)).run Tryd.prog W = .ok (.string (strB l)) W := by
  rw [string_of_reads (P := Tryd.prog) Tryd.underlying34 Tryd.underlying5 Tryd.underlying9 (h.reads hl)]
  congr 2
  unfold strOfNums strB
  congr 2
  rw [List.map_map]
  conv => rhs; rw [← List.map_id l]
  apply List.map_congr_left
  intro c _
  simp
theorem bx8 (p q : UInt8) : Go.bits .xor .u8 (p.toNat : Int) (q.toNat : Int) = ((p ^^^ q).toNat : Int) := by
  have h : (p ^^^ q).toNat < 256 := (p ^^^ q).toBitVec.isLt
  unfold Go.bits
  simp only [IntKind.bits]
  rw [IntKind.wrap_u8]
  have e : ∀ r : UInt8, BitVec.ofInt 8 (r.toNat : Int) = r.toBitVec := fun r => by
    apply BitVec.eq_of_toNat_eq
    rw [BitVec.toNat_ofInt]
    have : r.toNat < 256 := r.toBitVec.isLt
    simp; omega
  rw [e, e]
  show (((p ^^^ q).toBitVec.toNat : Nat) : Int) % 256 = ((p ^^^ q).toNat : Int)
  show (((p ^^^ q).toNat : Nat) : Int) % 256 = ((p ^^^ q).toNat : Int)
  omega
theorem more_xor3 (a b c : List UInt8) (h1 : a.length = b.length) (h2 : b.length = c.length) : more 0#32 (List.zipWith (· ^^^ ·) (List.zipWith (· ^^^ ·) a b) c) = more 0#32 a ^^^ more 0#32 b ^^^ more 0#32 c := by
  unfold more
  have e : (~~~ (0#32 : R)) = (~~~ 0#32 ^^^ ~~~ 0#32) ^^^ ~~~ 0#32 := by decide
  have h := run_xor (~~~ (0#32 : R) ^^^ ~~~ 0#32) (~~~ 0#32) (List.zipWith (· ^^^ ·) a b) c (by simp; omega)
  rw [← e, run_xor _ _ a b h1] at h
  rw [h]
  generalize run (~~~0#32) a = p
  generalize run (~~~0#32) b = q
  generalize run (~~~0#32) c = r
  apply BitVec.eq_of_getLsbD_eq
  intro i hi
  simp only [BitVec.getLsbD_not, BitVec.getLsbD_xor, hi, decide_true, Bool.true_and]
  cases p.getLsbD i <;> cases q.getLsbD i <;> cases r.getLsbD i <;> rfl

/-- The first i bytes are the sums, the others 0. -/
def Xd (a b c : ByteArray) (n i : Nat) (l : List UInt8) : Prop := l.length = n ∧ ∀ j, j < i → l[j]? = (List.zipWith (· ^^^ ·) (List.zipWith (· ^^^ ·) (a.data.toList.take n) (b.data.toList.take n)) (c.data.toList.take n))[j]?
theorem xd_step (a b c : ByteArray) (n i : Nat) (l : List UInt8) (ha : n ≤ a.size) (hb : n ≤ b.size) (hc : n ≤ c.size) (hi : i < n) (hn : l.length = n) (hX : ∀ j, j < i → l[j]? = (List.zipWith (· ^^^ ·) (List.zipWith (· ^^^ ·) (a.data.toList.take n) (b.data.toList.take n)) (c.data.toList.take n))[j]?) :
    ∀ j, j < i + 1 → (l.set i (a[i] ^^^ b[i] ^^^ c[i]))[j]? = (List.zipWith (· ^^^ ·) (List.zipWith (· ^^^ ·) (a.data.toList.take n) (b.data.toList.take n)) (c.data.toList.take n))[j]? := by
  intro j hj
  by_cases e : j = i
  · subst e
    have ha' : j < a.data.size := by show j < a.size; omega
    have hb' : j < b.data.size := by show j < b.size; omega
    have hc' : j < c.data.size := by show j < c.size; omega
    rw [List.getElem?_set_self (by omega)]
    simp only [List.getElem?_zipWith, List.getElem?_take, if_pos hi, Array.getElem?_toList, Array.getElem?_eq_getElem ha', Array.getElem?_eq_getElem hb', Array.getElem?_eq_getElem hc']
    rfl
  · rw [List.getElem?_set_ne (by omega)]
    exact hX j (by omega)
theorem xd_full (a b c : ByteArray) (n : Nat) (l : List UInt8) (ha : n ≤ a.size) (hb : n ≤ b.size) (hc : n ≤ c.size) (h : Xd a b c n n l) : l = (List.zipWith (· ^^^ ·) (List.zipWith (· ^^^ ·) (a.data.toList.take n) (b.data.toList.take n)) (c.data.toList.take n)) := by
  obtain ⟨hn, hX⟩ := h
  have ha' : n ≤ a.data.size := ha
  have hb' : n ≤ b.data.size := hb
  have hc' : n ≤ c.data.size := hc
  apply List.ext_getElem?
  intro j
  by_cases hj : j < n
  · exact hX j hj
  · rw [List.getElem?_eq_none (by omega), List.getElem?_eq_none (by simp; omega)]
theorem ex_list (a : ByteArray) (n : Nat) : (a.extract 0 n).data.toList = a.data.toList.take n := by
  simp [ByteArray.data_extract]
theorem bx32 (p q : R) : Go.bits .xor .u32 (p.toNat : Int) (q.toNat : Int) = ((p ^^^ q).toNat : Int) := by
  have h : (p ^^^ q).toNat < 4294967296 := (p ^^^ q).isLt
  unfold Go.bits
  simp only [IntKind.bits]
  rw [IntKind.wrap_u32]
  have e : ∀ r : R, BitVec.ofInt 32 (r.toNat : Int) = r := fun r => by
    apply BitVec.eq_of_toNat_eq
    rw [BitVec.toNat_ofInt]
    have := r.isLt
    simp; omega
  rw [e, e]
  show (((p ^^^ q).toNat : Nat) : Int) % 4294967296 = ((p ^^^ q).toNat : Int)
  omega
def xors.T9 : Bool × List (List Nat × List Nat) := (true, [([], []), ([0], [0]), ([1], [1]), ([2], [2]), ([], []), ([], []), ([4, 5], [4, 5]), ([6], [6]), ([7, 3], [7]), ([], []), ([], []), ([9, 10], [9, 10]), ([11], [11]), ([12, 8], [12]), ([8, 13], [8, 13]), ([], []), ([], []), ([15, 16], [15, 16]), ([17], [17]), ([18, 13], [18]), ([14, 19], [14, 19]), ([3, 20], [3, 20]), ([21, 19], [21]), ([22, 22], [22]), ([22, 23], [22, 23]), ([24, 23, 0, 1, 2, 3, 4, 5, 6, 7, 8, 9, 10, 11, 12, 13, 14, 15, 16, 17, 18, 19, 20, 21, 22, 23, 24], [24])])
def xors.B9 : List Nat := [0, 1, 3, 7, 0, 0, 48, 112, 255, 0, 0, 1536, 3584, 8191, 16383, 0, 0, 98304, 229376, 507903, 1048575, 2097151, 4194303, 8388607, 16777215, 33554431]
theorem xors.tab9 : rtab .any (opsOf Tryd.f9 9) = xors.T9 := by kernel_rfl
theorem xors.bits9 : waitsOk xors.T9.2 xors.B9 = true := by kernel_rfl
set_option maxHeartbeats 1000000 in
theorem xors_high (a b c : ByteArray) (n : Nat) (hmin : (if (c.size:Int) < (if b.size < a.size then (b.size : Int) else (a.size : Int)) then (c.size : Int) else if b.size < a.size then (b.size : Int) else (a.size : Int)) = (n : Int)) (h0 : 500 < n) (w : World) (hT : Tab w) :
    Calls Tryd.prog 9 #[.string a, .string b, .string c] w fun e w' => e = .returned (.bool true) ∧ Below w.heap.size w w' := by
  have HT := Aside0.mk hT
  clear hT
  go_enter Tryd.func9, Tryd.ntmps9
  go_wp2_with (fail)
  refine (awake_calls _ HT.out).mono ?_
  rintro e w9 ⟨rfl, hb⟩
  have HB := Aside0.mk hb
  clear hb
  go_wp2_with (fail)
  go_ret
  exact ⟨rfl, HB.out⟩

set_option maxHeartbeats 4000000 in
theorem xors_low (sa sb sc : ByteArray) (n : Nat) (hmin : (if (sc.size:Int) < (if sb.size < sa.size then (sb.size : Int) else (sa.size : Int)) then (sc.size : Int) else if sb.size < sa.size then (sb.size : Int) else (sa.size : Int)) = (n : Int)) (h0 : n ≤ 500) (ha : n ≤ sa.size) (hb : n ≤ sb.size) (hc : n ≤ sc.size) (w : World) (hT : Tab w) :
    Calls Tryd.prog 9 #[.string sa, .string sb, .string sc] w fun e w' => e = .returned (.bool true) ∧ Below w.heap.size w w' := by
  have HT := Aside0.mk hT
  clear hT
  have hmk := print_make (P := Tryd.prog) 34 5 .u8 1 Tryd.underlying34 info5 (by decide) n (by omega) w
  go_enter Tryd.func9, Tryd.ntmps9
  go_wp2_with (fail)
  have HB := Aside0.mk (below_alloc (Below.refl w.heap.size w) (.cells (madeCells #[.int .u8 0] n) 5))
  have B0 := Aside0.mk (blk8_made w n)
  clear hmk
  generalize w.alloc (.cells (madeCells #[.int .u8 0] n) 5) = w1 at HB B0 ⊢
  clear hmin
  go_loopw [9] (fun v9 wr => ∃ (i : Nat) (l : List UInt8), i ≤ n ∧ v9 = .int .i64 i ∧ Xd sa sb sc n i l ∧ Blk8 wr w.heap.size l ∧ Aside0 (Below w.heap.size w wr)) (fun v9 _ => n - (intOf v9).toNat)
  case atStart => exact ⟨0, List.replicate n 0, by omega, rfl, ⟨by simp, fun j hj => by omega⟩, B0.out, HB⟩
  case round =>
    clear HB B0
    obtain ⟨i, l, hi, rfl, hX, hl, H⟩ := hrel
    by_cases hlt : i < n
    · have xa : i < sa.size := by omega
      have xb : i < sb.size := by omega
      have xc : i < sc.size := by omega
      go_wp2
      go_still_tail 14, (by kernel_rfl)
      change wpList _ _ _ _ _ (wr.drew)
      have hl2 : Blk8 (wr.drew) w.heap.size l := hl.below (below_drew (Below.refl _ _))
      have H2 := Aside0.mk (below_step H.out (below_drew (Below.refl _ _)))
      generalize wr.drew = W2 at hl2 H2 ⊢
      obtain ⟨hn, hX⟩ := hX
      have hil : i < l.length := by omega
      have hcell := hl2.cell i l[i] (List.getElem?_eq_getElem hil)
      have hfr := hl2.frozen i
      have hlow : Below w.heap.size w (W2.setCell ⟨w.heap.size, i, none⟩ (.int .u8 ((sa[i] ^^^ sb[i] ^^^ sc[i]).toNat : Int))) := H2.out.setCell (Nat.le_refl _) _
      have A2 := Aside0.mk hlow
      have A3 := Aside0.mk (hl2.set i (sa[i] ^^^ sb[i] ^^^ sc[i]))
      clear hlow
      generalize he : (W2.setCell ⟨w.heap.size, i, none⟩ (.int .u8 ((sa[i] ^^^ sb[i] ^^^ sc[i]).toNat : Int))) = W3 at A2 A3
      have He := Aside0.mk he
      clear he
      go_wp2_with (fail)
      go_roundw
      case rel => 
        refine ⟨i + 1, l.set i (sa[i] ^^^ sb[i] ^^^ sc[i]), by omega, by go_num, ⟨by simp [hn], ?_⟩, by rw [bx8, bx8, He.out]; exact A3.out, ⟨by rw [bx8, bx8, He.out]; exact A2.out⟩⟩
        exact xd_step sa sb sc n i l ha hb hc hlt hn hX
      case measure => simp [intOf]; omega
    · have e : i = n := by omega
      subst e
      have hx := xd_full sa sb sc i l ha hb hc hX
      have hn := hX.1
      have hs := hl.string (by omega) i
      rw [hn] at hs
      obtain ⟨k1, h1⟩ := (sum_ev (one_fits (s := strB l) (by rw [strB_size]; omega))).rounds
      obtain ⟨k2, h2⟩ := (sum_ev (one_fits (s := sa.extract 0 i) (by rw [ByteArray.size_extract]; omega))).rounds
      obtain ⟨k3, h3⟩ := (sum_ev (one_fits (s := sb.extract 0 i) (by rw [ByteArray.size_extract]; omega))).rounds
      obtain ⟨k4, h4⟩ := (sum_ev (one_fits (s := sc.extract 0 i) (by rw [ByteArray.size_extract]; omega))).rounds
      have hm : more 0#32 l = more 0#32 (sa.data.toList.take i) ^^^ more 0#32 (sb.data.toList.take i) ^^^ more 0#32 (sc.data.toList.take i) := by
        rw [hx, more_xor3 _ _ _ (by simp [data_length]; omega) (by simp [data_length]; omega)]
      rw [bytes_one, strB_list, hm] at h1
      rw [bytes_one, ex_list] at h2 h3 h4
      have hx1 := bx32 (more 0#32 (sa.data.toList.take i)) (more 0#32 (sb.data.toList.take i))
      have hx2 := bx32 (more 0#32 (sa.data.toList.take i) ^^^ more 0#32 (sb.data.toList.take i)) (more 0#32 (sc.data.toList.take i))
      generalize ((more 0#32 (sa.data.toList.take i) ^^^ more 0#32 (sb.data.toList.take i) ^^^ more 0#32 (sc.data.toList.take i)).toNat : Int) = y at h1 hx2
      generalize ((more 0#32 (sa.data.toList.take i) ^^^ more 0#32 (sb.data.toList.take i)).toNat : Int) = y3 at hx1 hx2
      generalize ((more 0#32 (sa.data.toList.take i)).toNat : Int) = ya at h2 hx1
      generalize ((more 0#32 (sb.data.toList.take i)).toNat : Int) = yb at h3 hx1
      generalize ((more 0#32 (sc.data.toList.take i)).toNat : Int) = yc at h4 hx2
      have A1 := Aside0.mk h1
      have A2 := Aside0.mk h2
      have A3 := Aside0.mk h3
      have A4 := Aside0.mk h4
      have HB0 := H
      have BK0 := Aside0.mk hl
      have HN := Aside0.mk hn
      clear hm hx hX hn hs h1 h2 h3 h4 hl H hi hlt
      go_wp2
      refine start_ (n := 26) (S := fun w' => True) (ds := []) #[false, false, false, false, false, false, false, false, false, false, false, false, false, false, false, false, false, false, false, false, false, false, false, false, false, false] (by kernel_rfl) rfl rfl trivial (fun hHeld => ?_)
      refine with_tabW xors.tab9 xors.bits9 (fun HT_ HW_ => ?_)
      have HB := Aside0.mk (below_step HB0.out (below_drew (Below.refl _ _)))
      have BK := Aside0.mk (BK0.out.below (below_drew (Below.refl _ _)))
      generalize wr.drew = wz at HB BK hHeld ⊢
      clear hHeld
      refine pure_ (i := 0) (N := some 41) (v := ?_) (a' := ?_) #[true, false, false, false, false, false, false, false, false, false, false, false, false, false, false, false, false, false, false, false, false, false, false, false, false, false] rfl rfl (any_of HT_.out (by kernel_rfl)) (fun _ _ _ h => h) (Or.inl ⟨by rfl, ?_⟩) ?_ ?_
      rotate_left
      · intro w'
        go_simp
        with_reducible rfl
      rotate_left
      · simp only [Act.put, List.setIfInBounds_toArray, List.set_cons_zero, List.set_cons_succ, i64_w, i32_w]
        rfl
      refine pure_ (i := 4) (N := some 45) (v := ?_) (a' := ?_) #[true, false, false, false, true, false, false, false, false, false, false, false, false, false, false, false, false, false, false, false, false, false, false, false, false, false] rfl rfl (any_of HT_.out (by kernel_rfl)) (fun _ _ _ h => h) (Or.inl ⟨by rfl, ?_⟩) ?_ ?_
      rotate_left
      · intro w'
        go_simp
        with_reducible rfl
      rotate_left
      · simp only [Act.put, List.setIfInBounds_toArray, List.set_cons_zero, List.set_cons_succ, i64_w, i32_w]
        rfl
      refine pure_ (i := 5) (N := some 46) (v := ?_) (a' := ?_) #[true, false, false, false, true, true, false, false, false, false, false, false, false, false, false, false, false, false, false, false, false, false, false, false, false, false] rfl rfl (any_of HT_.out (by kernel_rfl)) (fun _ _ _ h => h) (Or.inl ⟨by rfl, ?_⟩) ?_ ?_
      rotate_left
      · intro w'
        go_simp
        with_reducible rfl
      rotate_left
      · simp only [Act.put, List.setIfInBounds_toArray, List.set_cons_zero, List.set_cons_succ, i64_w, i32_w]
        rfl
      refine pure_ (i := 6) (N := some 47) (v := ?_) (a' := ?_) #[true, false, false, false, true, true, true, false, false, false, false, false, false, false, false, false, false, false, false, false, false, false, false, false, false, false] rfl rfl (any_of HT_.out (by kernel_rfl)) (fun _ _ _ h => h) (Or.inl ⟨by rfl, ?_⟩) ?_ ?_
      rotate_left
      · intro w'
        go_simp
        with_reducible rfl
      rotate_left
      · simp only [Act.put, List.setIfInBounds_toArray, List.set_cons_zero, List.set_cons_succ, i64_w, i32_w]
        rfl
      refine pure_ (i := 9) (N := some 50) (v := ?_) (a' := ?_) #[true, false, false, false, true, true, true, false, false, true, false, false, false, false, false, false, false, false, false, false, false, false, false, false, false, false] rfl rfl (any_of HT_.out (by kernel_rfl)) (fun _ _ _ h => h) (Or.inl ⟨by rfl, ?_⟩) ?_ ?_
      rotate_left
      · intro w'
        go_simp
        with_reducible rfl
      rotate_left
      · simp only [Act.put, List.setIfInBounds_toArray, List.set_cons_zero, List.set_cons_succ, i64_w, i32_w]
        rfl
      refine pure_ (i := 10) (N := some 51) (v := ?_) (a' := ?_) #[true, false, false, false, true, true, true, false, false, true, true, false, false, false, false, false, false, false, false, false, false, false, false, false, false, false] rfl rfl (any_of HT_.out (by kernel_rfl)) (fun _ _ _ h => h) (Or.inl ⟨by rfl, ?_⟩) ?_ ?_
      rotate_left
      · intro w'
        go_simp
        with_reducible rfl
      rotate_left
      · simp only [Act.put, List.setIfInBounds_toArray, List.set_cons_zero, List.set_cons_succ, i64_w, i32_w]
        rfl
      refine pure_ (i := 11) (N := some 52) (v := ?_) (a' := ?_) #[true, false, false, false, true, true, true, false, false, true, true, true, false, false, false, false, false, false, false, false, false, false, false, false, false, false] rfl rfl (any_of HT_.out (by kernel_rfl)) (fun _ _ _ h => h) (Or.inl ⟨by rfl, ?_⟩) ?_ ?_
      rotate_left
      · intro w'
        go_simp
        with_reducible rfl
      rotate_left
      · simp only [Act.put, List.setIfInBounds_toArray, List.set_cons_zero, List.set_cons_succ, i64_w, i32_w]
        rfl
      refine pure_ (i := 15) (N := some 56) (v := ?_) (a' := ?_) #[true, false, false, false, true, true, true, false, false, true, true, true, false, false, false, true, false, false, false, false, false, false, false, false, false, false] rfl rfl (any_of HT_.out (by kernel_rfl)) (fun _ _ _ h => h) (Or.inl ⟨by rfl, ?_⟩) ?_ ?_
      rotate_left
      · intro w'
        go_simp
        with_reducible rfl
      rotate_left
      · simp only [Act.put, List.setIfInBounds_toArray, List.set_cons_zero, List.set_cons_succ, i64_w, i32_w]
        rfl
      refine pure_ (i := 16) (N := some 57) (v := ?_) (a' := ?_) #[true, false, false, false, true, true, true, false, false, true, true, true, false, false, false, true, true, false, false, false, false, false, false, false, false, false] rfl rfl (any_of HT_.out (by kernel_rfl)) (fun _ _ _ h => h) (Or.inl ⟨by rfl, ?_⟩) ?_ ?_
      rotate_left
      · intro w'
        go_simp
        with_reducible rfl
      rotate_left
      · simp only [Act.put, List.setIfInBounds_toArray, List.set_cons_zero, List.set_cons_succ, i64_w, i32_w]
        rfl
      refine pure_ (i := 17) (N := some 58) (v := ?_) (a' := ?_) #[true, false, false, false, true, true, true, false, false, true, true, true, false, false, false, true, true, true, false, false, false, false, false, false, false, false] rfl rfl (any_of HT_.out (by kernel_rfl)) (fun _ _ _ h => h) (Or.inl ⟨by rfl, ?_⟩) ?_ ?_
      rotate_left
      · intro w'
        go_simp
        with_reducible rfl
      rotate_left
      · simp only [Act.put, List.setIfInBounds_toArray, List.set_cons_zero, List.set_cons_succ, i64_w, i32_w]
        rfl
      refine inv_at [1, 2, 3, 7, 8, 12, 13, 14, 18, 19, 20, 21, 22, 23, 24, 25] (fun a0_ b a w' => ∃ (g1_ : Nat) (g2_ : Nat) (g3_ : Nat) (g4_ : Nat) (m2_ : Value) (m7_ : Value) (m12_ : Value) (m18_ : Value), a = putSel a0_ b [(1, 42, .string (strB l)), (2, 43, m2_), (3, 44, .int .u32 y), (7, 48, m7_), (8, 49, .int .u32 ya), (12, 53, m12_), (13, 54, .int .u32 yb), (14, 55, .int .u32 y3), (18, 59, m18_), (19, 60, .int .u32 yc), (20, 61, .int .u32 y), (21, 62, .bool true), (22, 63, .bool true), (23, 64, .bool true), (24, 65, .bool true), (25, 6, .bool true)] ∧ (Below w.heap.size w w') ∧ (Blk8 w' w.heap.size l) ∧ (b 2 = true → w'.heap[g1_]? = some (.cells #[.string (strB l)] 9 (0, 0))) ∧ (b 7 = true → w'.heap[g2_]? = some (.cells #[.string (sa.extract 0 i)] 9 (0, 0))) ∧ (b 12 = true → w'.heap[g3_]? = some (.cells #[.string (sb.extract 0 i)] 9 (0, 0))) ∧ (b 18 = true → w'.heap[g4_]? = some (.cells #[.string (sc.extract 0 i)] 9 (0, 0))) ∧ (b 2 = true → (m2_ : Value) = .slice (some ⟨g1_, 0, none⟩) 1 1) ∧ (b 7 = true → (m7_ : Value) = .slice (some ⟨g2_, 0, none⟩) 1 1) ∧ (b 12 = true → (m12_ : Value) = .slice (some ⟨g3_, 0, none⟩) 1 1) ∧ (b 18 = true → (m18_ : Value) = .slice (some ⟨g4_, 0, none⟩) 1 1)) HT_.out HW_.out (by kernel_rfl) (by kernel_rfl) ?_ ?_ ?_
      · exact ⟨0, 0, 0, 0, .bool false, .bool false, .bool false, .bool false, by simp only [putSel, Bool.false_eq_true, if_false], HB.out, BK.out, fun h_ => absurd h_ (by decide), fun h_ => absurd h_ (by decide), fun h_ => absurd h_ (by decide), fun h_ => absurd h_ (by decide), fun h_ => absurd h_ (by decide), fun h_ => absurd h_ (by decide), fun h_ => absurd h_ (by decide), fun h_ => absurd h_ (by decide)⟩
      · skip
        clear BK HB
        refine steps_cons ?_ ?_
        · rintro b a w' ⟨g1_, g2_, g3_, g4_, m2_, m7_, m12_, m18_, ha, Q_HB, Q_BK, Q_F1, Q_F2, Q_F3, Q_F4, Q_X2_, Q_X7_, Q_X12_, Q_X18_⟩ hb_ hon hoff
          refine ⟨_, rfl, fun K hK => ?_⟩
          have e41 : a.tmps[41]? = some (.slice (some ⟨w.heap.size, 0, none⟩) i i) := by rw [ha]; exact (putSel_off rfl).trans rfl
          replace ha := Aside0.mk ha
          have HB := Aside0.mk Q_HB
          have BK := Aside0.mk Q_BK
          have hs_ := BK.out.string (by have := HN.out; omega) i
          rw [HN.out] at hs_
          refine value_ (w1 := w') (v := .string (strB l)) (by rfl) rfl ?_ ?_
          · go_simp
            (try simp only [i64_w])
            try rfl
          refine hK.out _ _ ⟨g1_, g2_, g3_, g4_, m2_, m7_, m12_, m18_, (by rw [ha.out]; exact putSel_upk 0 hb_ rfl rfl rfl), Q_HB, Q_BK, fun h0_ => absurd ((hoff 2 (by kernel_rfl)).symm.trans h0_) (by decide), Q_F2, Q_F3, Q_F4, fun h0_ => absurd ((hoff 2 (by kernel_rfl)).symm.trans h0_) (by decide), Q_X7_, Q_X12_, Q_X18_⟩
        refine steps_cons ?_ ?_
        · rintro b a w' ⟨g1_, g2_, g3_, g4_, m2_, m7_, m12_, m18_, ha, Q_HB, Q_BK, Q_F1, Q_F2, Q_F3, Q_F4, Q_X2_, Q_X7_, Q_X12_, Q_X18_⟩ hb_ hon hoff
          refine ⟨_, rfl, fun K hK => ?_⟩
          have e42 : a.tmps[42]? = some (.string (strB l)) := by rw [ha]; exact putSel_on (e := (1, 42, .string (strB l))) 0 rfl rfl (hon 1 (by kernel_rfl)) rfl
          replace ha := Aside0.mk ha
          have HB := Aside0.mk Q_HB
          have BK := Aside0.mk Q_BK
          refine value_ (w1 := ?_) (v := ?_) (by rfl) rfl ?_ ?_
          rotate_left 2
          · go_simp
            constructor
            · rfl
            · rfl
          refine hK.out _ _ ⟨w'.heap.size, g2_, g3_, g4_, (.slice (some ⟨w'.heap.size, 0, none⟩) 1 1), m7_, m12_, m18_, (by rw [ha.out]; exact putSel_upk 1 hb_ rfl rfl rfl), below_alloc HB.out _, BK.out.below (below_alloc (Below.refl _ _) _), fun _ => blk_new _ _, fun h0_ => blk_alloc (Q_F2 h0_) _, fun h0_ => blk_alloc (Q_F3 h0_) _, fun h0_ => blk_alloc (Q_F4 h0_) _, fun _ => rfl, Q_X7_, Q_X12_, Q_X18_⟩
        refine steps_cons ?_ ?_
        · rintro b a w' ⟨g1_, g2_, g3_, g4_, m2_, m7_, m12_, m18_, ha, Q_HB, Q_BK, Q_F1, Q_F2, Q_F3, Q_F4, Q_X2_, Q_X7_, Q_X12_, Q_X18_⟩ hb_ hon hoff
          refine ⟨_, rfl, fun K hK => ?_⟩
          have e43 : a.tmps[43]? = some (m2_) := by rw [ha]; exact putSel_on (e := (2, 43, m2_)) 1 rfl rfl (hon 2 (by kernel_rfl)) rfl
          rw [Q_X2_ (hon 2 (by kernel_rfl))] at e43
          replace ha := Aside0.mk ha
          have HB := Aside0.mk Q_HB
          have BK := Aside0.mk Q_BK
          have F1 := Aside0.mk (Q_F1 (hon 2 (by kernel_rfl)))
          refine goes_ Tryd.func14 (by kernel_rfl) rfl #[.slice (some ⟨g1_, 0, none⟩) 1 1] (by rfl) rfl rfl (by first | (simp only [List.map_toArray, List.map_cons, List.map_nil, Act.eval, Array.getD_eq_getD_getElem?, Option.getD_some, e43]; done) | (simp only [List.map_toArray, List.map_cons, List.map_nil, Act.eval, Array.getD_eq_getD_getElem?, Option.getD_some, e43]; rfl)) ?_
          with_reducible refine (sum_one k1 (strB l) _ _ _ (C_blk1 _ _ _ F1.out) A1.out).mono ?_
          rintro e w6 ⟨rfl, hd⟩
          refine ⟨_, rfl, ?_⟩
          refine hK.out _ _ ⟨g1_, g2_, g3_, g4_, m2_, m7_, m12_, m18_, (by rw [ha.out]; exact putSel_upk 2 hb_ rfl rfl rfl), below_step HB.out hd.below, BK.out.below hd.below, fun _ => blk_below F1.out hd.below, fun h0_ => blk_below (Q_F2 h0_) hd.below, fun h0_ => blk_below (Q_F3 h0_) hd.below, fun h0_ => blk_below (Q_F4 h0_) hd.below, Q_X2_, Q_X7_, Q_X12_, Q_X18_⟩
        refine steps_cons ?_ ?_
        · rintro b a w' ⟨g1_, g2_, g3_, g4_, m2_, m7_, m12_, m18_, ha, Q_HB, Q_BK, Q_F1, Q_F2, Q_F3, Q_F4, Q_X2_, Q_X7_, Q_X12_, Q_X18_⟩ hb_ hon hoff
          refine ⟨_, rfl, fun K hK => ?_⟩
          have e47 : a.tmps[47]? = some (.string (sa.extract 0 i)) := by rw [ha]; exact (putSel_off rfl).trans rfl
          replace ha := Aside0.mk ha
          have HB := Aside0.mk Q_HB
          have BK := Aside0.mk Q_BK
          refine value_ (w1 := ?_) (v := ?_) (by rfl) rfl ?_ ?_
          rotate_left 2
          · go_simp
            constructor
            · rfl
            · rfl
          refine hK.out _ _ ⟨g1_, w'.heap.size, g3_, g4_, m2_, (.slice (some ⟨w'.heap.size, 0, none⟩) 1 1), m12_, m18_, (by rw [ha.out]; exact putSel_upk 3 hb_ rfl rfl rfl), below_alloc HB.out _, BK.out.below (below_alloc (Below.refl _ _) _), fun h0_ => blk_alloc (Q_F1 h0_) _, fun _ => blk_new _ _, fun h0_ => blk_alloc (Q_F3 h0_) _, fun h0_ => blk_alloc (Q_F4 h0_) _, Q_X2_, fun _ => rfl, Q_X12_, Q_X18_⟩
        refine steps_cons ?_ ?_
        · rintro b a w' ⟨g1_, g2_, g3_, g4_, m2_, m7_, m12_, m18_, ha, Q_HB, Q_BK, Q_F1, Q_F2, Q_F3, Q_F4, Q_X2_, Q_X7_, Q_X12_, Q_X18_⟩ hb_ hon hoff
          refine ⟨_, rfl, fun K hK => ?_⟩
          have e48 : a.tmps[48]? = some (m7_) := by rw [ha]; exact putSel_on (e := (7, 48, m7_)) 3 rfl rfl (hon 7 (by kernel_rfl)) rfl
          rw [Q_X7_ (hon 7 (by kernel_rfl))] at e48
          replace ha := Aside0.mk ha
          have HB := Aside0.mk Q_HB
          have BK := Aside0.mk Q_BK
          have F1 := Aside0.mk (Q_F1 (hon 2 (by kernel_rfl)))
          have F2 := Aside0.mk (Q_F2 (hon 7 (by kernel_rfl)))
          refine goes_ Tryd.func14 (by kernel_rfl) rfl #[.slice (some ⟨g2_, 0, none⟩) 1 1] (by rfl) rfl rfl (by first | (simp only [List.map_toArray, List.map_cons, List.map_nil, Act.eval, Array.getD_eq_getD_getElem?, Option.getD_some, e48]; done) | (simp only [List.map_toArray, List.map_cons, List.map_nil, Act.eval, Array.getD_eq_getD_getElem?, Option.getD_some, e48]; rfl)) ?_
          with_reducible refine (sum_one k2 (sa.extract 0 i) _ _ _ (C_blk1 _ _ _ F2.out) A2.out).mono ?_
          rintro e w6 ⟨rfl, hd⟩
          refine ⟨_, rfl, ?_⟩
          refine hK.out _ _ ⟨g1_, g2_, g3_, g4_, m2_, m7_, m12_, m18_, (by rw [ha.out]; exact putSel_upk 4 hb_ rfl rfl rfl), below_step HB.out hd.below, BK.out.below hd.below, fun _ => blk_below F1.out hd.below, fun _ => blk_below F2.out hd.below, fun h0_ => blk_below (Q_F3 h0_) hd.below, fun h0_ => blk_below (Q_F4 h0_) hd.below, Q_X2_, Q_X7_, Q_X12_, Q_X18_⟩
        refine steps_cons ?_ ?_
        · rintro b a w' ⟨g1_, g2_, g3_, g4_, m2_, m7_, m12_, m18_, ha, Q_HB, Q_BK, Q_F1, Q_F2, Q_F3, Q_F4, Q_X2_, Q_X7_, Q_X12_, Q_X18_⟩ hb_ hon hoff
          refine ⟨_, rfl, fun K hK => ?_⟩
          have e52 : a.tmps[52]? = some (.string (sb.extract 0 i)) := by rw [ha]; exact (putSel_off rfl).trans rfl
          replace ha := Aside0.mk ha
          have HB := Aside0.mk Q_HB
          have BK := Aside0.mk Q_BK
          refine value_ (w1 := ?_) (v := ?_) (by rfl) rfl ?_ ?_
          rotate_left 2
          · go_simp
            constructor
            · rfl
            · rfl
          refine hK.out _ _ ⟨g1_, g2_, w'.heap.size, g4_, m2_, m7_, (.slice (some ⟨w'.heap.size, 0, none⟩) 1 1), m18_, (by rw [ha.out]; exact putSel_upk 5 hb_ rfl rfl rfl), below_alloc HB.out _, BK.out.below (below_alloc (Below.refl _ _) _), fun h0_ => blk_alloc (Q_F1 h0_) _, fun h0_ => blk_alloc (Q_F2 h0_) _, fun _ => blk_new _ _, fun h0_ => blk_alloc (Q_F4 h0_) _, Q_X2_, Q_X7_, fun _ => rfl, Q_X18_⟩
        refine steps_cons ?_ ?_
        · rintro b a w' ⟨g1_, g2_, g3_, g4_, m2_, m7_, m12_, m18_, ha, Q_HB, Q_BK, Q_F1, Q_F2, Q_F3, Q_F4, Q_X2_, Q_X7_, Q_X12_, Q_X18_⟩ hb_ hon hoff
          refine ⟨_, rfl, fun K hK => ?_⟩
          have e53 : a.tmps[53]? = some (m12_) := by rw [ha]; exact putSel_on (e := (12, 53, m12_)) 5 rfl rfl (hon 12 (by kernel_rfl)) rfl
          rw [Q_X12_ (hon 12 (by kernel_rfl))] at e53
          replace ha := Aside0.mk ha
          have HB := Aside0.mk Q_HB
          have BK := Aside0.mk Q_BK
          have F1 := Aside0.mk (Q_F1 (hon 2 (by kernel_rfl)))
          have F2 := Aside0.mk (Q_F2 (hon 7 (by kernel_rfl)))
          have F3 := Aside0.mk (Q_F3 (hon 12 (by kernel_rfl)))
          refine goes_ Tryd.func14 (by kernel_rfl) rfl #[.slice (some ⟨g3_, 0, none⟩) 1 1] (by rfl) rfl rfl (by first | (simp only [List.map_toArray, List.map_cons, List.map_nil, Act.eval, Array.getD_eq_getD_getElem?, Option.getD_some, e53]; done) | (simp only [List.map_toArray, List.map_cons, List.map_nil, Act.eval, Array.getD_eq_getD_getElem?, Option.getD_some, e53]; rfl)) ?_
          with_reducible refine (sum_one k3 (sb.extract 0 i) _ _ _ (C_blk1 _ _ _ F3.out) A3.out).mono ?_
          rintro e w6 ⟨rfl, hd⟩
          refine ⟨_, rfl, ?_⟩
          refine hK.out _ _ ⟨g1_, g2_, g3_, g4_, m2_, m7_, m12_, m18_, (by rw [ha.out]; exact putSel_upk 6 hb_ rfl rfl rfl), below_step HB.out hd.below, BK.out.below hd.below, fun _ => blk_below F1.out hd.below, fun _ => blk_below F2.out hd.below, fun _ => blk_below F3.out hd.below, fun h0_ => blk_below (Q_F4 h0_) hd.below, Q_X2_, Q_X7_, Q_X12_, Q_X18_⟩
        refine steps_cons ?_ ?_
        · rintro b a w' ⟨g1_, g2_, g3_, g4_, m2_, m7_, m12_, m18_, ha, Q_HB, Q_BK, Q_F1, Q_F2, Q_F3, Q_F4, Q_X2_, Q_X7_, Q_X12_, Q_X18_⟩ hb_ hon hoff
          refine ⟨_, rfl, fun K hK => ?_⟩
          have e49 : a.tmps[49]? = some (.int .u32 ya) := by rw [ha]; exact putSel_on (e := (8, 49, .int .u32 ya)) 4 rfl rfl (hon 8 (by kernel_rfl)) rfl
          have e54 : a.tmps[54]? = some (.int .u32 yb) := by rw [ha]; exact putSel_on (e := (13, 54, .int .u32 yb)) 6 rfl rfl (hon 13 (by kernel_rfl)) rfl
          replace ha := Aside0.mk ha
          have HB := Aside0.mk Q_HB
          have BK := Aside0.mk Q_BK
          have F1 := Aside0.mk (Q_F1 (hon 2 (by kernel_rfl)))
          have F2 := Aside0.mk (Q_F2 (hon 7 (by kernel_rfl)))
          have F3 := Aside0.mk (Q_F3 (hon 12 (by kernel_rfl)))
          refine value_ (w1 := w') (v := .int .u32 y3) (by rfl) rfl ?_ ?_
          · go_simp
            (try simp only [i64_w])
            try rfl
          refine hK.out _ _ ⟨g1_, g2_, g3_, g4_, m2_, m7_, m12_, m18_, (by rw [ha.out]; exact putSel_upk 7 hb_ rfl rfl rfl), Q_HB, Q_BK, Q_F1, Q_F2, Q_F3, Q_F4, Q_X2_, Q_X7_, Q_X12_, Q_X18_⟩
        refine steps_cons ?_ ?_
        · rintro b a w' ⟨g1_, g2_, g3_, g4_, m2_, m7_, m12_, m18_, ha, Q_HB, Q_BK, Q_F1, Q_F2, Q_F3, Q_F4, Q_X2_, Q_X7_, Q_X12_, Q_X18_⟩ hb_ hon hoff
          refine ⟨_, rfl, fun K hK => ?_⟩
          have e58 : a.tmps[58]? = some (.string (sc.extract 0 i)) := by rw [ha]; exact (putSel_off rfl).trans rfl
          replace ha := Aside0.mk ha
          have HB := Aside0.mk Q_HB
          have BK := Aside0.mk Q_BK
          refine value_ (w1 := ?_) (v := ?_) (by rfl) rfl ?_ ?_
          rotate_left 2
          · go_simp
            constructor
            · rfl
            · rfl
          refine hK.out _ _ ⟨g1_, g2_, g3_, w'.heap.size, m2_, m7_, m12_, (.slice (some ⟨w'.heap.size, 0, none⟩) 1 1), (by rw [ha.out]; exact putSel_upk 8 hb_ rfl rfl rfl), below_alloc HB.out _, BK.out.below (below_alloc (Below.refl _ _) _), fun h0_ => blk_alloc (Q_F1 h0_) _, fun h0_ => blk_alloc (Q_F2 h0_) _, fun h0_ => blk_alloc (Q_F3 h0_) _, fun _ => blk_new _ _, Q_X2_, Q_X7_, Q_X12_, fun _ => rfl⟩
        refine steps_cons ?_ ?_
        · rintro b a w' ⟨g1_, g2_, g3_, g4_, m2_, m7_, m12_, m18_, ha, Q_HB, Q_BK, Q_F1, Q_F2, Q_F3, Q_F4, Q_X2_, Q_X7_, Q_X12_, Q_X18_⟩ hb_ hon hoff
          refine ⟨_, rfl, fun K hK => ?_⟩
          have e59 : a.tmps[59]? = some (m18_) := by rw [ha]; exact putSel_on (e := (18, 59, m18_)) 8 rfl rfl (hon 18 (by kernel_rfl)) rfl
          rw [Q_X18_ (hon 18 (by kernel_rfl))] at e59
          replace ha := Aside0.mk ha
          have HB := Aside0.mk Q_HB
          have BK := Aside0.mk Q_BK
          have F1 := Aside0.mk (Q_F1 (hon 2 (by kernel_rfl)))
          have F2 := Aside0.mk (Q_F2 (hon 7 (by kernel_rfl)))
          have F3 := Aside0.mk (Q_F3 (hon 12 (by kernel_rfl)))
          have F4 := Aside0.mk (Q_F4 (hon 18 (by kernel_rfl)))
          refine goes_ Tryd.func14 (by kernel_rfl) rfl #[.slice (some ⟨g4_, 0, none⟩) 1 1] (by rfl) rfl rfl (by first | (simp only [List.map_toArray, List.map_cons, List.map_nil, Act.eval, Array.getD_eq_getD_getElem?, Option.getD_some, e59]; done) | (simp only [List.map_toArray, List.map_cons, List.map_nil, Act.eval, Array.getD_eq_getD_getElem?, Option.getD_some, e59]; rfl)) ?_
          with_reducible refine (sum_one k4 (sc.extract 0 i) _ _ _ (C_blk1 _ _ _ F4.out) A4.out).mono ?_
          rintro e w6 ⟨rfl, hd⟩
          refine ⟨_, rfl, ?_⟩
          refine hK.out _ _ ⟨g1_, g2_, g3_, g4_, m2_, m7_, m12_, m18_, (by rw [ha.out]; exact putSel_upk 9 hb_ rfl rfl rfl), below_step HB.out hd.below, BK.out.below hd.below, fun _ => blk_below F1.out hd.below, fun _ => blk_below F2.out hd.below, fun _ => blk_below F3.out hd.below, fun _ => blk_below F4.out hd.below, Q_X2_, Q_X7_, Q_X12_, Q_X18_⟩
        refine steps_cons ?_ ?_
        · rintro b a w' ⟨g1_, g2_, g3_, g4_, m2_, m7_, m12_, m18_, ha, Q_HB, Q_BK, Q_F1, Q_F2, Q_F3, Q_F4, Q_X2_, Q_X7_, Q_X12_, Q_X18_⟩ hb_ hon hoff
          refine ⟨_, rfl, fun K hK => ?_⟩
          have e55 : a.tmps[55]? = some (.int .u32 y3) := by rw [ha]; exact putSel_on (e := (14, 55, .int .u32 y3)) 7 rfl rfl (hon 14 (by kernel_rfl)) rfl
          have e60 : a.tmps[60]? = some (.int .u32 yc) := by rw [ha]; exact putSel_on (e := (19, 60, .int .u32 yc)) 9 rfl rfl (hon 19 (by kernel_rfl)) rfl
          replace ha := Aside0.mk ha
          have HB := Aside0.mk Q_HB
          have BK := Aside0.mk Q_BK
          have F1 := Aside0.mk (Q_F1 (hon 2 (by kernel_rfl)))
          have F2 := Aside0.mk (Q_F2 (hon 7 (by kernel_rfl)))
          have F3 := Aside0.mk (Q_F3 (hon 12 (by kernel_rfl)))
          have F4 := Aside0.mk (Q_F4 (hon 18 (by kernel_rfl)))
          refine value_ (w1 := w') (v := .int .u32 y) (by rfl) rfl ?_ ?_
          · go_simp
            (try simp only [i64_w])
            try rfl
          refine hK.out _ _ ⟨g1_, g2_, g3_, g4_, m2_, m7_, m12_, m18_, (by rw [ha.out]; exact putSel_upk 10 hb_ rfl rfl rfl), Q_HB, Q_BK, Q_F1, Q_F2, Q_F3, Q_F4, Q_X2_, Q_X7_, Q_X12_, Q_X18_⟩
        refine steps_cons ?_ ?_
        · rintro b a w' ⟨g1_, g2_, g3_, g4_, m2_, m7_, m12_, m18_, ha, Q_HB, Q_BK, Q_F1, Q_F2, Q_F3, Q_F4, Q_X2_, Q_X7_, Q_X12_, Q_X18_⟩ hb_ hon hoff
          refine ⟨_, rfl, fun K hK => ?_⟩
          have e44 : a.tmps[44]? = some (.int .u32 y) := by rw [ha]; exact putSel_on (e := (3, 44, .int .u32 y)) 2 rfl rfl (hon 3 (by kernel_rfl)) rfl
          have e61 : a.tmps[61]? = some (.int .u32 y) := by rw [ha]; exact putSel_on (e := (20, 61, .int .u32 y)) 10 rfl rfl (hon 20 (by kernel_rfl)) rfl
          replace ha := Aside0.mk ha
          have HB := Aside0.mk Q_HB
          have BK := Aside0.mk Q_BK
          have F1 := Aside0.mk (Q_F1 (hon 2 (by kernel_rfl)))
          have F2 := Aside0.mk (Q_F2 (hon 7 (by kernel_rfl)))
          have F3 := Aside0.mk (Q_F3 (hon 12 (by kernel_rfl)))
          have F4 := Aside0.mk (Q_F4 (hon 18 (by kernel_rfl)))
          refine value_ (w1 := w') (v := .bool true) (by rfl) rfl ?_ ?_
          · go_simp
            (try simp only [i64_w])
            try rfl
          refine hK.out _ _ ⟨g1_, g2_, g3_, g4_, m2_, m7_, m12_, m18_, (by rw [ha.out]; exact putSel_upk 11 hb_ rfl rfl rfl), Q_HB, Q_BK, Q_F1, Q_F2, Q_F3, Q_F4, Q_X2_, Q_X7_, Q_X12_, Q_X18_⟩
        refine steps_cons ?_ ?_
        · rintro b a w' ⟨g1_, g2_, g3_, g4_, m2_, m7_, m12_, m18_, ha, Q_HB, Q_BK, Q_F1, Q_F2, Q_F3, Q_F4, Q_X2_, Q_X7_, Q_X12_, Q_X18_⟩ hb_ hon hoff
          refine ⟨_, rfl, fun K hK => ?_⟩
          have e62 : a.tmps[62]? = some (.bool true) := by rw [ha]; exact putSel_on (e := (21, 62, .bool true)) 11 rfl rfl (hon 21 (by kernel_rfl)) rfl
          replace ha := Aside0.mk ha
          have HB := Aside0.mk Q_HB
          have BK := Aside0.mk Q_BK
          have F1 := Aside0.mk (Q_F1 (hon 2 (by kernel_rfl)))
          have F2 := Aside0.mk (Q_F2 (hon 7 (by kernel_rfl)))
          have F3 := Aside0.mk (Q_F3 (hon 12 (by kernel_rfl)))
          have F4 := Aside0.mk (Q_F4 (hon 18 (by kernel_rfl)))
          refine value_ (w1 := w') (v := .bool true) (by rfl) rfl ?_ ?_
          · go_simp
            (try simp only [i64_w])
            try rfl
          refine hK.out _ _ ⟨g1_, g2_, g3_, g4_, m2_, m7_, m12_, m18_, (by rw [ha.out]; exact putSel_upk 12 hb_ rfl rfl rfl), Q_HB, Q_BK, Q_F1, Q_F2, Q_F3, Q_F4, Q_X2_, Q_X7_, Q_X12_, Q_X18_⟩
        refine steps_cons ?_ ?_
        · rintro b a w' ⟨g1_, g2_, g3_, g4_, m2_, m7_, m12_, m18_, ha, Q_HB, Q_BK, Q_F1, Q_F2, Q_F3, Q_F4, Q_X2_, Q_X7_, Q_X12_, Q_X18_⟩ hb_ hon hoff
          refine ⟨_, rfl, fun K hK => ?_⟩
          have e63 : a.tmps[63]? = some (.bool true) := by rw [ha]; exact putSel_on (e := (22, 63, .bool true)) 12 rfl rfl (hon 22 (by kernel_rfl)) rfl
          replace ha := Aside0.mk ha
          have HB := Aside0.mk Q_HB
          have BK := Aside0.mk Q_BK
          have F1 := Aside0.mk (Q_F1 (hon 2 (by kernel_rfl)))
          have F2 := Aside0.mk (Q_F2 (hon 7 (by kernel_rfl)))
          have F3 := Aside0.mk (Q_F3 (hon 12 (by kernel_rfl)))
          have F4 := Aside0.mk (Q_F4 (hon 18 (by kernel_rfl)))
          refine goes_ Tryd.func12 (by kernel_rfl) rfl #[] (wanted_on rfl rfl rfl (e63.trans rfl)) rfl rfl (by first | (simp only [List.map_toArray, List.map_cons, List.map_nil, Act.eval, Array.getD_eq_getD_getElem?, Option.getD_some, e63]; done) | (simp only [List.map_toArray, List.map_cons, List.map_nil, Act.eval, Array.getD_eq_getD_getElem?, Option.getD_some, e63]; rfl)) ?_
          with_reducible refine (awake_calls _ (HT.out.below HB.out)).mono ?_
          rintro e w7 ⟨rfl, hb⟩
          refine ⟨_, rfl, ?_⟩
          refine hK.out _ _ ⟨g1_, g2_, g3_, g4_, m2_, m7_, m12_, m18_, (by rw [ha.out]; exact putSel_upk 13 hb_ rfl rfl rfl), below_step HB.out hb, BK.out.below hb, fun _ => blk_below F1.out hb, fun _ => blk_below F2.out hb, fun _ => blk_below F3.out hb, fun _ => blk_below F4.out hb, Q_X2_, Q_X7_, Q_X12_, Q_X18_⟩
        refine steps_cons ?_ ?_
        · rintro b a w' ⟨g1_, g2_, g3_, g4_, m2_, m7_, m12_, m18_, ha, Q_HB, Q_BK, Q_F1, Q_F2, Q_F3, Q_F4, Q_X2_, Q_X7_, Q_X12_, Q_X18_⟩ hb_ hon hoff
          refine ⟨_, rfl, fun K hK => ?_⟩
          have e63 : a.tmps[63]? = some (.bool true) := by rw [ha]; exact putSel_on (e := (22, 63, .bool true)) 12 rfl rfl (hon 22 (by kernel_rfl)) rfl
          have e64 : a.tmps[64]? = some (.bool true) := by rw [ha]; exact putSel_on (e := (23, 64, .bool true)) 13 rfl rfl (hon 23 (by kernel_rfl)) rfl
          replace ha := Aside0.mk ha
          have HB := Aside0.mk Q_HB
          have BK := Aside0.mk Q_BK
          have F1 := Aside0.mk (Q_F1 (hon 2 (by kernel_rfl)))
          have F2 := Aside0.mk (Q_F2 (hon 7 (by kernel_rfl)))
          have F3 := Aside0.mk (Q_F3 (hon 12 (by kernel_rfl)))
          have F4 := Aside0.mk (Q_F4 (hon 18 (by kernel_rfl)))
          refine value_ (w1 := w') (v := .bool true) (by rfl) rfl ?_ ?_
          · go_simp
            (try simp only [i64_w])
            try rfl
          refine hK.out _ _ ⟨g1_, g2_, g3_, g4_, m2_, m7_, m12_, m18_, (by rw [ha.out]; exact putSel_upk 14 hb_ rfl rfl rfl), Q_HB, Q_BK, Q_F1, Q_F2, Q_F3, Q_F4, Q_X2_, Q_X7_, Q_X12_, Q_X18_⟩
        refine steps_cons ?_ ?_
        · rintro b a w' ⟨g1_, g2_, g3_, g4_, m2_, m7_, m12_, m18_, ha, Q_HB, Q_BK, Q_F1, Q_F2, Q_F3, Q_F4, Q_X2_, Q_X7_, Q_X12_, Q_X18_⟩ hb_ hon hoff
          refine ⟨_, rfl, fun K hK => ?_⟩
          have e65 : a.tmps[65]? = some (.bool true) := by rw [ha]; exact putSel_on (e := (24, 65, .bool true)) 14 rfl rfl (hon 24 (by kernel_rfl)) rfl
          replace ha := Aside0.mk ha
          have HB := Aside0.mk Q_HB
          have BK := Aside0.mk Q_BK
          have F1 := Aside0.mk (Q_F1 (hon 2 (by kernel_rfl)))
          have F2 := Aside0.mk (Q_F2 (hon 7 (by kernel_rfl)))
          have F3 := Aside0.mk (Q_F3 (hon 12 (by kernel_rfl)))
          have F4 := Aside0.mk (Q_F4 (hon 18 (by kernel_rfl)))
          refine value_ (w1 := w') (v := .bool true) (by rfl) rfl ?_ ?_
          · go_simp
            (try simp only [i64_w])
            try rfl
          refine hK.out _ _ ⟨g1_, g2_, g3_, g4_, m2_, m7_, m12_, m18_, (by rw [ha.out]; exact putSel_upk 15 hb_ rfl rfl rfl), Q_HB, Q_BK, Q_F1, Q_F2, Q_F3, Q_F4, Q_X2_, Q_X7_, Q_X12_, Q_X18_⟩
        exact steps_nil
      rintro b a wn hall ⟨g1_, g2_, g3_, g4_, m2_, m7_, m12_, m18_, ha, Q_HB, Q_BK, Q_F1, Q_F2, Q_F3, Q_F4, Q_X2_, Q_X7_, Q_X12_, Q_X18_⟩
      clear BK HB
      have hb1_ := hall 1 (by kernel_rfl)
      have hb2_ := hall 2 (by kernel_rfl)
      have hb3_ := hall 3 (by kernel_rfl)
      have hb7_ := hall 7 (by kernel_rfl)
      have hb8_ := hall 8 (by kernel_rfl)
      have hb12_ := hall 12 (by kernel_rfl)
      have hb13_ := hall 13 (by kernel_rfl)
      have hb14_ := hall 14 (by kernel_rfl)
      have hb18_ := hall 18 (by kernel_rfl)
      have hb19_ := hall 19 (by kernel_rfl)
      have hb20_ := hall 20 (by kernel_rfl)
      have hb21_ := hall 21 (by kernel_rfl)
      have hb22_ := hall 22 (by kernel_rfl)
      have hb23_ := hall 23 (by kernel_rfl)
      have hb24_ := hall 24 (by kernel_rfl)
      have hb25_ := hall 25 (by kernel_rfl)
      subst ha
      obtain rfl := Q_X2_ hb2_
      obtain rfl := Q_X7_ hb7_
      obtain rfl := Q_X12_ hb12_
      obtain rfl := Q_X18_ hb18_
      simp only [putSel, hb1_, hb2_, hb3_, hb7_, hb8_, hb12_, hb13_, hb14_, hb18_, hb19_, hb20_, hb21_, hb22_, hb23_, hb24_, hb25_, if_true, Act.put, List.setIfInBounds_toArray, List.set_cons_zero, List.set_cons_succ]
      have HB := Aside0.mk Q_HB
      clear Q_HB
      have BK := Aside0.mk Q_BK
      clear Q_BK
      have F1 := Aside0.mk (Q_F1 hb2_)
      clear Q_F1
      have F2 := Aside0.mk (Q_F2 hb7_)
      clear Q_F2
      have F3 := Aside0.mk (Q_F3 hb12_)
      clear Q_F3
      have F4 := Aside0.mk (Q_F4 hb18_)
      clear Q_F4
      clear hall hb1_ hb2_ hb3_ hb7_ hb8_ hb12_ hb13_ hb14_ hb18_ hb19_ hb20_ hb21_ hb22_ hb23_ hb24_ hb25_
      go_wp2_with (fail)
      go_ret
      exact ⟨rfl, HB.out⟩
theorem xors_walk (w : World) (hT : Tab w) (a b c : ByteArray) :
    Calls Tryd.prog 9 #[.string a, .string b, .string c] w fun e w' => e = .returned (.bool true) ∧ Below w.heap.size w w' := by
  obtain ⟨n, hn, ha, hb, hc⟩ : ∃ n : Nat, (if (c.size:Int) < (if b.size < a.size then (b.size : Int) else (a.size : Int)) then (c.size : Int) else if b.size < a.size then (b.size : Int) else (a.size : Int)) = (n : Int) ∧ n ≤ a.size ∧ n ≤ b.size ∧ n ≤ c.size := by
    by_cases h1 : b.size < a.size
    · rw [if_pos h1]
      by_cases h2 : c.size < b.size
      · exact ⟨c.size, by rw [if_pos (by omega)], by omega, by omega, by omega⟩
      · exact ⟨b.size, by rw [if_neg (by omega)], by omega, by omega, by omega⟩
    · rw [if_neg h1]
      by_cases h2 : c.size < a.size
      · exact ⟨c.size, by rw [if_pos (by omega)], by omega, by omega, by omega⟩
      · exact ⟨a.size, by rw [if_neg (by omega)], by omega, by omega, by omega⟩
  by_cases h : 500 < n
  · exact xors_high a b c n hn h w hT
  · exact xors_low a b c n hn (by omega) ha hb hc w hT
end Go.Proofs.YtiiokdgbjcnokaaDoor.PA
