/- Key, walked, and what its reference tells. Conditions: what each theorem says. -/
import Derived.Test.YtiiokdgbjcnokaaDoorFuns2
namespace Go.Proofs.YtiiokdgbjcnokaaDoor.PA
open Go.RowKit Go.Proofs.YtiiokdgbjcnokaaDoorW.PrintWords Go.Proofs.YtiiokdgbjcnokaaDoorW.PrintLast Go.Proofs.YtiiokdgbjcnokaaDoorW.PrintMore
open Go.Proofs.YtiiokdgbjcnokaaDoor.CrcMath
set_option linter.unusedVariables false
set_option linter.unusedSimpArgs false

/-- A key's number that took a byte. -/
def kstep (x b : Int) : Int := IntKind.u64.wrap (Go.bits .xor .u64 x b * 1099511628211)
/-- .. that took the first k bytes of a length. -/
def klen (n : Nat) (x : Int) : Nat → Int
  | 0 => x
  | k + 1 => kstep (klen n x k) ((n / 2 ^ (8 * k) % 256 : Nat) : Int)
/-- .. that took bytes. -/
def kbytes (x : Int) (l : List UInt8) : Int := l.foldl (fun x c => kstep x (c.toNat : Int)) x
/-- .. that took a part. -/
def kpart (x : Int) (s : ByteArray) : Int := kbytes (klen s.size x 8) s.data.toList
/-- The key. -/
def key (l : List ByteArray) : Int := l.foldl kpart 14695981039346656037

/-- The captured number is x, and nothing old has turned. -/
def KeyW (w : World) (g : Nat) (x : Int) (w' : World) : Prop := w.heap.size ≤ g ∧ w'.heap[g]? = some (.cells #[.int .u64 x] 30 (0, 0)) ∧ Below w.heap.size w w'
theorem KeyW.cell {w w' : World} {g : Nat} {x : Int} (h : KeyW w g x w') : w'.cell? ⟨g, 0, none⟩ = some (.int .u64 x) := (blk_cell h.2.1 0).trans rfl
theorem KeyW.frozen {w w' : World} {g : Nat} {x : Int} (h : KeyW w g x w') : w'.frozen? ⟨g, 0, none⟩ = false := blk_frozen h.2.1 0
theorem KeyW.store {w w' : World} {g : Nat} {x : Int} (h : KeyW w g x w') (y : Int) : KeyW w g y (w'.setCell ⟨g, 0, none⟩ (.int .u64 y)) :=
  ⟨h.1, (blk_set h.2.1 0 _).trans rfl, below_set h.2.2 h.1⟩

set_option maxHeartbeats 400000 in
theorem put_calls (w0 w : World) (x b : Int) (g : Nat) (h : KeyW w0 g x w) (hb : 0 ≤ b) (hb2 : b < 256) :
    Calls Tryd.prog 25 #[.int .u8 b, .pointer (some ⟨g, 0, none⟩)] w fun e w' => e = .returned (.tuple #[]) ∧ KeyW w0 g (kstep x b) w' := by
  have hc := h.cell
  have hf := h.frozen
  have H := Aside0.mk h
  clear h
  go_enter Tryd.func25, Tryd.ntmps25
  go_wp2
  go_end0
  exact ⟨rfl, H.out.store _⟩

theorem kdiv (n i : Nat) : (n : Int) / 2 ^ (8 * i) % 256 = ((n / 2 ^ (8 * i) % 256 : Nat) : Int) := by
  rw [Int.natCast_emod, Int.natCast_ediv, Int.natCast_pow]; rfl

set_option maxHeartbeats 2000000 in
theorem key_calls (A : Option Addr) (c : Nat) (l : List ByteArray) (w : World) (hl : Fits l) (hr : Kd.C Kd.string w A l.length l) (hc : l.length ≤ c) :
    Calls Tryd.prog 17 #[.slice A l.length c] w fun e w' => e = .returned (.int .u64 (key l)) ∧ Below w.heap.size w w' := by
  have HR := Aside0.mk hr
  have HF := Aside0.mk hl
  have hlen : (l.length : Int) ≤ 4611686018427387904 := by have := hl.1; omega
  clear hr hl
  go_enter Tryd.func17, Tryd.ntmps17
  go_wp2
  go_loopw [12] (fun v12 wr => ∃ k : Nat, k ≤ l.length ∧ v12 = .int .i64 k ∧ Aside0 (KeyW w w.heap.size ((l.take k).foldl kpart 14695981039346656037) wr)) (fun v12 _ => l.length - (intOf v12).toNat)
  case atStart => exact ⟨0, by omega, rfl, ⟨Nat.le_refl _, blk_new w _, below_alloc (Below.refl _ _) _⟩⟩
  case round =>
    obtain ⟨k, hk, rfl, H⟩ := hrel
    by_cases hlt : k < l.length
    · obtain ⟨ad, e, hx⟩ := Kd.at_string (Kd.C_below HR.out H.out.2.2) (k : Int) (by omega) (by omega)
      cases e
      have hat := rdOf_at hlt
      rw [hat] at hx
      have hss := HF.out.2 l[k] (List.getElem_mem hlt)
      generalize hs : l[k] = s at hx hss
      have HS := Aside0.mk hs
      rw [Int.toNat_natCast] at hx
      clear hat hs
      go_wp2
      go_loopw [7, 16] (fun _ v16 wr => ∃ i : Nat, i ≤ 8 ∧ v16 = .int .i64 i ∧ Aside0 (KeyW w w.heap.size (klen s.size ((l.take k).foldl kpart 14695981039346656037) i) wr)) (fun _ v16 _ => 8 - (intOf v16).toNat)
      case atStart => exact ⟨0, by omega, rfl, H⟩
      case round =>
        clear hx H
        obtain ⟨i8, hi8, rfl, H1⟩ := hrel
        by_cases hlt1 : i8 < 8
        · go_wp2_with (fail)
          rw [kdiv]
          refine (put_calls w _ _ _ _ H1.out (by omega) (by omega)).mono ?_
          rintro e w1 ⟨rfl, H2⟩
          have H2 := Aside0.mk H2
          go_wp2_with (fail)
          go_roundw
          case rel => exact ⟨i8 + 1, by omega, by go_num, H2⟩
          case measure => simp [intOf]; omega
        · have HI8 := Aside0.mk (show i8 = 8 by omega)
          go_wp2
          go_loopw [8, 32] (fun _ v32 wr => ∃ i : Nat, i ≤ s.size ∧ v32 = .int .i64 i ∧ Aside0 (KeyW w w.heap.size (kbytes (klen s.size ((l.take k).foldl kpart 14695981039346656037) i8) (s.data.toList.take i)) wr)) (fun _ v32 _ => s.size - (intOf v32).toNat)
          case atStart => exact ⟨0, by omega, rfl, H1⟩
          case round =>
            clear H1
            obtain ⟨i, hi, rfl, H1⟩ := hrel
            by_cases hlt2 : i < s.size
            · have htake : s.data.toList.take (i + 1) = s.data.toList.take i ++ [s[i]] := by
                rw [List.take_succ_eq_append_getElem (by simpa using hlt2)]; rfl
              have HT := Aside0.mk htake
              clear htake
              have hb := s[i].toBitVec.isLt
              have hb2 : s[i].toNat < 256 := hb
              clear hb
              go_wp2_with (fail)
              refine (put_calls w _ _ _ _ H1.out (by omega) (by omega)).mono ?_
              rintro e w1 ⟨rfl, H2⟩
              have H2 := Aside0.mk H2
              go_wp2_with (fail)
              go_roundw
              case rel =>
                refine ⟨i + 1, by omega, by go_num, ⟨?_⟩⟩
                rw [HT.out]
                unfold kbytes
                rw [List.foldl_append]
                exact H2.out
              case measure => simp [intOf]; omega
            · obtain rfl : i = s.size := by omega
              have hfin : (l.take (k + 1)).foldl kpart 14695981039346656037 = kbytes (klen s.size ((l.take k).foldl kpart 14695981039346656037) i8) (s.data.toList.take s.size) := by
                rw [HI8.out, List.take_succ_eq_append_getElem hlt, List.foldl_append, HS.out, List.take_of_length_le (i := s.size) (by simp)]
                rfl
              have HFIN := Aside0.mk hfin
              clear hfin
              go_wp2
              go_roundw
              case rel => exact ⟨k + 1, by omega, by go_num, ⟨by rw [HFIN.out]; exact H1.out⟩⟩
              case measure => simp [intOf]; omega
    · obtain rfl : k = l.length := by omega
      have hcell := H.out.cell
      have hk2 : (l.take l.length).foldl kpart 14695981039346656037 = key l := by rw [List.take_length]; rfl
      rw [hk2] at hcell
      have HB := Aside0.mk H.out.2.2
      clear hk2 H
      go_wp2
      go_ret
      exact ⟨rfl, HB.out⟩

theorem refkey_l2 {l : List ByteArray} (j : Nat) (hj : j < l.length) (hs : l[j].size ≤ 4611686018427387904) (r : Int)
    (d : Nat) : ∀ (i : Nat) (x : Int), l[j].size - i = d → i ≤ l[j].size → Ev (fun k => lighterref02_Key.l0 k l (kbytes x (l[j].data.toList.drop i)) (wrap64 ((j : Int) + 1))) r →
      Ev (fun k => lighterref02_Key.l2 k l x (j : Int) (i : Int)) r := by
  have hr := rdOf_at hj
  induction d with
  | zero =>
    intro i x hd hi h
    have : l[j].data.toList.drop i = [] := by rw [List.drop_eq_nil_iff, data_length]; omega
    rw [this] at h
    refine Ev.step ?_ h
    intro k
    simp only [lighterref02_Key.l2]
    rw [if_pos (by omega), if_pos (by omega), hr, if_neg (by omega)]
    rfl
  | succ d ih =>
    intro i x hd hi h
    obtain ⟨c, hb, hdrop⟩ := bt_list l[j] i (by omega)
    have hc : c.toNat < 256 := c.toBitVec.isLt
    rw [hdrop] at h
    refine Ev.step ?_ (ih (i + 1) (kstep x (c.toNat : Int)) (by omega) (by omega) h)
    intro k
    simp only [lighterref02_Key.l2]
    rw [if_pos (by omega), if_pos (by omega), hr, if_pos (by omega), if_pos (by omega), hb, wrap_id (x := (i : Int) + 1) (by omega) (by omega), IntWalk.u64_in (c.toNat : Int) (by omega)]
    rfl

theorem refkey_l1 {l : List ByteArray} (j : Nat) (n : Nat) (hn : n ≤ 4611686018427387904) (x0 : Int) (r : Int) (d : Nat) : ∀ (i : Nat), 8 - i = d → i ≤ 8 →
    Ev (fun k => lighterref02_Key.l2 k l (klen n x0 8) (j : Int) 0) r → Ev (fun k => lighterref02_Key.l1 k l (klen n x0 i) (j : Int) ((n / 2 ^ (8 * i) : Nat) : Int) (i : Int)) r := by
  induction d with
  | zero =>
    intro i hd hi h
    obtain rfl : i = 8 := by omega
    refine Ev.step ?_ h
    intro k
    simp only [lighterref02_Key.l1]
    rw [if_neg (by omega)]
  | succ d ih =>
    intro i hd hi h
    refine Ev.step ?_ (ih (i + 1) (by omega) (by omega) h)
    intro k
    have hq : n / 2 ^ (8 * i) ≤ n := Nat.div_le_self _ _
    have e1 : n / 2 ^ (8 * (i + 1)) = n / 2 ^ (8 * i) / 256 := by
      rw [show 8 * (i + 1) = 8 * i + 8 by omega, Nat.pow_add, ← Nat.div_div_eq_div_mul]
    rw [e1]
    show _ = lighterref02_Key.l1 k l (kstep (klen n x0 i) ((n / 2 ^ (8 * i) % 256 : Nat) : Int)) (j : Int) ((n / 2 ^ (8 * i) / 256 : Nat) : Int) ((i + 1 : Nat) : Int)
    generalize n / 2 ^ (8 * i) = q at hq ⊢
    simp only [lighterref02_Key.l1]
    rw [if_pos (by omega), wrap_id (x := (i : Int) + 1) (by omega) (by omega), Int.tmod_eq_emod_of_nonneg (by omega), Int.tdiv_eq_ediv_of_nonneg (by omega), IntWalk.u64_in ((q : Int) % 256) (by omega), wrap_id (by omega) (by omega)]
    rfl

theorem refkey_l0 {l : List ByteArray} (hl : Fits l) (d : Nat) : ∀ (j : Nat) (x : Int), l.length - j = d → j ≤ l.length →
    Ev (fun k => lighterref02_Key.l0 k l x (j : Int)) ((l.drop j).foldl kpart x) := by
  obtain ⟨hl1, hl2⟩ := hl
  induction d with
  | zero =>
    intro j x hd hj
    have : l.drop j = [] := by rw [List.drop_eq_nil_iff]; omega
    rw [this]
    refine Ev.step (f := fun _ => some x) ?_ (Ev.now _)
    intro k
    simp only [lighterref02_Key.l0]
    rw [if_neg (by omega)]
  | succ d ih =>
    intro j x hd hj
    have hlt : j < l.length := by omega
    have hr := rdOf_at hlt
    have hs := hl2 l[j] (List.getElem_mem hlt)
    refine Ev.step (f := fun k => lighterref02_Key.l1 k l (klen l[j].size x 0) (j : Int) ((l[j].size / 2 ^ (8 * 0) : Nat) : Int) ((0 : Nat) : Int)) ?_ ?_
    · intro k
      simp only [lighterref02_Key.l0]
      rw [if_pos (by omega), if_pos (by omega), hr, show 2 ^ (8 * 0) = 1 by rfl, Nat.div_one]
      rfl
    · refine refkey_l1 j l[j].size hs x _ 8 0 (by omega) (by omega) ?_
      refine refkey_l2 j hlt hs _ l[j].size 0 (klen l[j].size x 8) (by omega) (by omega) ?_
      rw [List.drop_zero, wrap_id (by omega) (by omega), show ((j : Int) + 1) = ((j + 1 : Nat) : Int) by omega, List.drop_eq_getElem_cons hlt, List.foldl_cons]
      exact ih (j + 1) _ (by omega) (by omega)

theorem refkey_ev {l : List ByteArray} (hl : Fits l) : Ev (fun k => lighterref02_Key.f k l) (key l) := by
  unfold lighterref02_Key.f
  exact refkey_l0 hl l.length 0 _ (by omega) (by omega)

theorem kstep_range (x b : Int) : 0 ≤ kstep x b ∧ kstep x b < 18446744073709551616 := by
  unfold kstep
  rw [show ∀ z : Int, IntKind.u64.wrap z = z % 18446744073709551616 by intro z; simp [IntKind.wrap, IntKind.bits, IntKind.signed]]
  omega

/-- Few parts, and short ones. -/
def fewB (l : List ByteArray) : Bool := l.all (fun s => decide (s.size ≤ 300)) && decide (l.length ≤ 30)
theorem few_l0 {l : List ByteArray} (hl : l.length ≤ 9223372036854775807) (d : Nat) : ∀ (j : Nat), l.length - j = d → j ≤ l.length →
    Ev (fun k => lighterlaw02_few.l0 k l (j : Int)) ((l.drop j).all (fun s => decide (s.size ≤ 300)) && decide (l.length ≤ 30)) := by
  induction d with
  | zero =>
    intro j hd hj
    have : l.drop j = [] := by rw [List.drop_eq_nil_iff]; omega
    rw [this]
    refine Ev.step (f := fun _ => some (decide (l.length ≤ 30))) ?_ (Ev.now _)
    intro k
    simp only [lighterlaw02_few.l0]
    rw [if_neg (by omega)]
    congr 1
    simp
    omega
  | succ d ih =>
    intro j hd hj
    have hlt : j < l.length := by omega
    have hr := rdOf_at hlt
    rw [List.drop_eq_getElem_cons hlt, List.all_cons]
    by_cases h : l[j].size ≤ 300
    · have := ih (j + 1) (by omega) (by omega)
      rw [decide_eq_true h, Bool.true_and]
      refine Ev.step ?_ this
      intro k
      simp only [lighterlaw02_few.l0]
      rw [if_pos (by omega), if_pos (by omega), hr, if_neg (by omega), wrap_id (by omega) (by omega)]
      rfl
    · rw [decide_eq_false h, Bool.false_and, Bool.false_and]
      refine Ev.step (f := fun _ => some false) ?_ (Ev.now _)
      intro k
      simp only [lighterlaw02_few.l0]
      rw [if_pos (by omega), if_pos (by omega), hr, if_pos (by omega)]
theorem few_ev {l : List ByteArray} (hl : l.length ≤ 9223372036854775807) : Ev (fun k => lighterlaw02_few.f k l) (fewB l) := by
  unfold lighterlaw02_few.f
  exact few_l0 hl l.length 0 (by omega) (by omega)
theorem few_yes {l : List ByteArray} (h : fewB l = true) : l.length ≤ 30 ∧ ∀ s ∈ l, s.size ≤ 300 := by
  unfold fewB at h
  rw [Bool.and_eq_true, List.all_eq_true] at h
  exact ⟨of_decide_eq_true h.2, fun s hs => of_decide_eq_true (h.1 s hs)⟩
theorem few_fits {l : List ByteArray} (h : fewB l = true) : Fits l := by
  obtain ⟨h1, h2⟩ := few_yes h
  exact ⟨by omega, fun s hs => by have := h2 s hs; omega⟩

theorem bytes_length {l : List ByteArray} (h : ∀ s ∈ l, s.size ≤ 300) : (bytes l).length ≤ 300 * l.length := by
  induction l with
  | nil => simp [bytes]
  | cons s l ih =>
    rw [bytes_cons, List.length_append, data_length, List.length_cons]
    have h1 := h s (List.mem_cons_self ..)
    have h2 := ih (fun t ht => h t (List.mem_cons_of_mem _ ht))
    omega

theorem joined_l0 {l : List ByteArray} (h1 : l.length ≤ 30) (h2 : ∀ s ∈ l, s.size ≤ 300) (d : Nat) : ∀ (j : Nat) (x : ByteArray), l.length - j = d → j ≤ l.length → x.size ≤ 300 * j →
    Ev (fun k => lighterlaw02_joined.l0 k l x (j : Int)) (strB (x.data.toList ++ bytes (l.drop j))) := by
  induction d with
  | zero =>
    intro j x hd hj hx
    have : l.drop j = [] := by rw [List.drop_eq_nil_iff]; omega
    rw [this, bytes_nil, List.append_nil, strB_self]
    refine Ev.step (f := fun _ => some x) ?_ (Ev.now _)
    intro k
    simp only [lighterlaw02_joined.l0]
    rw [if_neg (by omega)]
  | succ d ih =>
    intro j x hd hj hx
    have hlt : j < l.length := by omega
    have hr := rdOf_at hlt
    have hs := h2 l[j] (List.getElem_mem hlt)
    have hsz : (x ++ l[j]).size = x.size + l[j].size := by rw [← data_length, append_list, List.length_append, data_length, data_length]
    have := ih (j + 1) (x ++ l[j]) (by omega) (by omega) (by omega)
    rw [List.drop_eq_getElem_cons hlt, bytes_cons, ← List.append_assoc, ← append_list]
    refine Ev.step ?_ this
    intro k
    simp only [lighterlaw02_joined.l0]
    rw [if_pos (by omega), if_pos (by omega), hr, if_pos (by omega), wrap_id (by omega) (by omega)]
    rfl
theorem joined_ev {l : List ByteArray} (h : fewB l = true) : Ev (fun k => lighterlaw02_joined.f k l) (strB (bytes l)) := by
  obtain ⟨h1, h2⟩ := few_yes h
  unfold lighterlaw02_joined.f
  exact joined_l0 h1 h2 l.length 0 _ (by omega) (by omega) (by exact Nat.zero_le _)
end Go.Proofs.YtiiokdgbjcnokaaDoor.PA
