/- Joined texts: IxBase, IxRaw, IxTold, IxCmp, IxSort, IxSpec, IxLines, IxSortOwn. No condition but what stands in each. -/
import Derived.Test.YtonhmjodgomeiaaIxLeaf
import Derived.Test.YtonhmjodgomeiaaMRef
import Derived.Test.YtonhmjodgomeiaaMBase
import Derived.Laws.MakeOwn
import Derived.Test.YtonhmjodgomeiaaShelf
import Derived.Laws.StandIn
import Derived.Lib.BytesEntry
import Derived.Shelf.SlSortCmp.NoneTotal
import Derived.Great.BuildSlice
import Derived.Deep.MidRow
/- Names and the bytes that they say, plainly; the value of a digit. No condition. -/
namespace Go.Proofs.Ytonhmjodgomeiaa.Ix
set_option linter.unusedVariables false
set_option linter.unusedSimpArgs false
open Go.RowKit Blk Dg Go.Proofs.YtonhmjodgomeiaaW.PrintWords Go.Proofs.YtonhmjodgomeiaaW.PrintLast Go.Proofs.YtonhmjodgomeiaaW.PrintMore

theorem str_at (s : ByteArray) (i : Nat) (v : Int) (h : (bytesOf s)[i]? = some v) (j : Int) (hj : j = i) (w : World) :
    (Instr.index 9 (.string s) (.int .i64 j)).run Try.prog w = .ok (.int .u8 v) w := by
  subst hj
  have hl : i < s.size := by
    rcases Nat.lt_or_ge i s.size with h1 | h1
    · exact h1
    · rw [List.getElem?_eq_none (by rw [bytesOf_length]; exact h1)] at h; cases h
  simp [Instr.index, asIntOf, Try.underlying9, hl]
  simp only [bytesOf, List.getElem?_map, Option.map_eq_some_iff] at h
  obtain ⟨a, ha, rfl⟩ := h
  have h2 : i < s.data.toList.length := by simpa using hl
  rw [List.getElem?_eq_getElem h2] at ha
  injection ha with ha
  rw [← ha]
  rfl
/-- A digit's value. -/
def dv (c : Int) : Int := if 97 ≤ c then c - 87 else c - 48
theorem hexc_dv {c : Int} (h : hexc c = true) : 0 ≤ dv c ∧ dv c < 16 ∧ hexd (dv c) = c ∧ 0 ≤ c ∧ c < 256 := by
  unfold hexc at h
  simp only [Bool.or_eq_true, Bool.and_eq_true, decide_eq_true_iff] at h
  unfold dv hexd
  split <;> split <;> omega
theorem dv_hexd {n : Int} (h0 : 0 ≤ n) (h1 : n < 16) : dv (hexd n) = n := by
  unfold dv hexd
  split <;> split <;> omega
theorem hexc_hexd {n : Int} (h0 : 0 ≤ n) (h1 : n < 16) : hexc (hexd n) = true := by
  unfold hexc hexd
  simp only [Bool.or_eq_true, Bool.and_eq_true, decide_eq_true_iff]
  split <;> omega
theorem value_at (c : Int) (w : World) (h : hexc c = true) :
    Calls Try.prog 39 #[.int .u8 c] w fun e w' => e = .returned (.int .u8 (dv c)) ∧ Below w.heap.size w w' := by
  have h' := h
  unfold hexc at h'
  simp only [Bool.or_eq_true, Bool.and_eq_true, decide_eq_true_iff] at h'
  have e : Il.index_value.f c = some (dv c) := by
    unfold Il.index_value.f dv
    by_cases h97 : 97 ≤ c
    · rw [if_pos (by omega), if_pos h97]; congr 1; omega
    · rw [if_neg (by omega), if_neg h97]; congr 1; omega
  exact (Il.index_value.calls c _ w e).mono fun e w' ⟨h1, n, hn⟩ => ⟨h1, by subst hn; exact pw_below_drewN (Below.refl _ _) n⟩
/-- The bytes that digits say. -/
def rawG : List Int → List Int
  | a :: b :: r => (dv a * 16 + dv b) :: rawG r
  | _ => []
def rawL (s : ByteArray) : List Int := rawG (bytesOf s)
theorem rawG_len : ∀ (l : List Int), (rawG l).length = l.length / 2
  | [] => by simp [rawG]
  | [_] => by simp [rawG]
  | a :: b :: r => by rw [rawG, List.length_cons, rawG_len r]; simp only [List.length_cons]; omega
theorem rawG_8 : ∀ (l : List Int), l.all hexc = true → ∀ x ∈ rawG l, 0 ≤ x ∧ x < 256
  | [], _, x, h => by simp [rawG] at h
  | [_], _, x, h => by simp [rawG] at h
  | a :: b :: r, h, x, hx => by
    simp only [List.all_cons, Bool.and_eq_true] at h
    have ha := hexc_dv h.1
    have hb := hexc_dv h.2.1
    rcases List.mem_cons.1 hx with rfl | hx
    · omega
    · exact rawG_8 r h.2.2 x hx
theorem name_raw : ∀ (l : List Int), l.all hexc = true → l.length % 2 = 0 → nameL (rawG l) = l
  | [], _, _ => by simp [rawG, nameL]
  | [_], _, h => by simp at h
  | a :: b :: r, h, hl => by
    simp only [List.all_cons, Bool.and_eq_true] at h
    have ha := hexc_dv h.1
    have hb := hexc_dv h.2.1
    have ih := name_raw r h.2.2 (by simp only [List.length_cons] at hl; omega)
    rw [rawG, nameL, List.flatMap_cons, ← nameL, ih, show (dv a * 16 + dv b) / 16 = dv a by omega, show (dv a * 16 + dv b) % 16 = dv b by omega, ha.2.2.1, hb.2.2.1]
    rfl
theorem raw_name : ∀ (r : List Int), (∀ x ∈ r, 0 ≤ x ∧ x < 256) → rawG (nameL r) = r
  | [], _ => by simp [rawG, nameL]
  | x :: r, h => by
    have hx := h x List.mem_cons_self
    rw [nameL, List.flatMap_cons, ← nameL]
    show rawG (hexd (x / 16) :: hexd (x % 16) :: nameL r) = x :: r
    rw [rawG, raw_name r (fun y hy => h y (List.mem_cons_of_mem _ hy)), dv_hexd (by omega) (by omega), dv_hexd (by omega) (by omega), show x / 16 * 16 + x % 16 = x by omega]
theorem name_hexc : ∀ (r : List Int), (∀ x ∈ r, 0 ≤ x ∧ x < 256) → (nameL r).all hexc = true
  | [], _ => rfl
  | x :: r, h => by
    have hx := h x List.mem_cons_self
    rw [nameL, List.flatMap_cons, ← nameL, List.all_append, name_hexc r (fun y hy => h y (List.mem_cons_of_mem _ hy))]
    simp [hexc_hexd (n := x / 16) (by omega) (by omega), hexc_hexd (n := x % 16) (by omega) (by omega)]
theorem named_iff (l : List Int) : namedL l = true ↔ l.length = 64 ∧ l.all hexc = true := by
  rw [namedL, Bool.and_eq_true, decide_eq_true_iff]
theorem rawL_len {s : ByteArray} (h : namedL (bytesOf s) = true) : (rawL s).length = 32 := by rw [rawL, rawG_len, ((named_iff _).1 h).1]
theorem rawL_8 {s : ByteArray} (h : namedL (bytesOf s) = true) : ∀ x ∈ rawL s, 0 ≤ x ∧ x < 256 := rawG_8 _ ((named_iff _).1 h).2
/-- The name that bytes say. -/
def toldS (r : List Int) : ByteArray := strOfNums (nameL r)
theorem nameL_8 (r : List Int) (h : ∀ x ∈ r, 0 ≤ x ∧ x < 256) : ∀ x ∈ nameL r, 0 ≤ x ∧ x < 256 := by
  intro x hx
  obtain ⟨y, hy, hx⟩ := List.mem_flatMap.1 hx
  have := h y hy
  have h1 := hexd_8 (y / 16) (by omega) (by omega)
  have h2 := hexd_8 (y % 16) (by omega) (by omega)
  simp only [List.mem_cons, List.not_mem_nil, or_false] at hx
  rcases hx with rfl | rfl
  · exact h1
  · exact h2
end Go.Proofs.Ytonhmjodgomeiaa.Ix

/- index.raw: the bytes that a name says. No condition but that it is a name. -/
namespace Go.Proofs.Ytonhmjodgomeiaa.Ix
set_option linter.unusedVariables false
set_option linter.unusedSimpArgs false
open Go.RowKit Blk Dg Go.Proofs.YtonhmjodgomeiaaW.PrintWords Go.Proofs.YtonhmjodgomeiaaW.PrintLast Go.Proofs.YtonhmjodgomeiaaW.PrintMore

theorem rawG_at : ∀ (l : List Int) (i : Nat), 2 * i + 1 < l.length → (rawG l)[i]? = some (dv (l.getD (2 * i) 0) * 16 + dv (l.getD (2 * i + 1) 0))
  | [], _, h => by simp at h
  | [_], _, h => by simp at h
  | a :: b :: r, 0, _ => by simp [rawG]
  | a :: b :: r, i + 1, h => by
    have := rawG_at r i (by simp only [List.length_cons] at h; omega)
    simp only [rawG, List.getElem?_cons_succ, this]
    simp [show 2 * (i + 1) = 2 * i + 1 + 1 by omega]
theorem nib : ∀ (x y : Fin 16), Go.bits .or .u8 ((x.val : Int) * 16) (y.val : Int) = (x.val : Int) * 16 + y.val := by decide +kernel
theorem or_nib (x y : Int) (hx : 0 ≤ x ∧ x < 16) (hy : 0 ≤ y ∧ y < 16) : Go.bits .or .u8 (x * 16) y = x * 16 + y := by
  have := nib ⟨x.toNat, by omega⟩ ⟨y.toNat, by omega⟩
  simpa [Int.toNat_of_nonneg hx.1, Int.toNat_of_nonneg hy.1] using this
theorem wr_s (x : Int) (h0 : 0 ≤ x) (h1 : x < 65536) : wrap64 x = x := by unfold wrap64; omega
theorem wr_u8 (x : Int) (h0 : 0 ≤ x) (h1 : x < 256) : IntKind.u8.wrap x = x := by
  rw [show IntKind.u8.wrap x = x % 256 from rfl]; omega
theorem byte_at (s : ByteArray) (i : Nat) (v : Int) (h : (bytesOf s)[i]? = some v) (j : Int) (hj : j = i) (hl : j.toNat < s.size) : ((s[j.toNat]'hl).toNat : Int) = v := by
  subst hj
  simp only [bytesOf, List.getElem?_map, Option.map_eq_some_iff] at h
  obtain ⟨a, ha, rfl⟩ := h
  have h2 : i < s.data.toList.length := by simpa using hl
  rw [List.getElem?_eq_getElem h2] at ha
  injection ha with ha
  rw [← ha]
  rfl
theorem fill_at (R : List Int) (i n : Nat) (h : i < n) (hR : R.length = n) : (((R.take i).map (Value.int .u8)) ++ List.replicate (n - i) (.int .u8 0))[i]? = some (.int .u8 0) := by
  have : ((R.take i).map (Value.int .u8)).length = i := by simp; omega
  rw [List.getElem?_append_right (by omega), this, Nat.sub_self, List.getElem?_replicate, if_pos (by omega)]
theorem fill_set (R : List Int) (i n : Nat) (v : Int) (h : i < n) (hR : R.length = n) (hv : R[i]? = some v) :
    (((R.take i).map (Value.int .u8)) ++ List.replicate (n - i) (Value.int .u8 0)).set i (Value.int .u8 v) = ((R.take (i + 1)).map (Value.int .u8)) ++ List.replicate (n - (i + 1)) (Value.int .u8 0) := by
  have hl : ((R.take i).map (Value.int .u8)).length = i := by simp; omega
  have hlt : i < R.length := by omega
  have hg : R[i] = v := by
    rw [List.getElem?_eq_getElem hlt] at hv
    exact Option.some.inj hv
  rw [List.set_append_right _ _ (by omega), hl, Nat.sub_self, show n - i = (n - (i + 1)) + 1 by omega, List.replicate_succ, List.set_cons_zero, List.take_succ_eq_append_getElem hlt, hg]
  simp
set_option maxHeartbeats 4000000 in
set_option maxRecDepth 100000 in
theorem raw_calls (s : ByteArray) (w : World) (hn : namedL (bytesOf s) = true) :
    Calls Try.prog 23 #[.string s] w fun e w' => e = .returned (.agg ((rawL s).map (Value.int .u8)).toArray) ∧ Below w.heap.size w w' := by
  have hz := zero_32
  have hl := rawL_len hn
  have hbl := ((named_iff _).1 hn).1
  have hall := ((named_iff _).1 hn).2
  have hss : s.size = 64 := by rw [← bytesOf_length]; exact hbl
  obtain ⟨L, hL⟩ : ∃ L, bytesOf s = L := ⟨_, rfl⟩
  obtain ⟨R, hR⟩ : ∃ R, rawL s = R := ⟨_, rfl⟩
  have hRG : As (rawG L = R) := ⟨by rw [← hR, rawL, hL]⟩
  have HL := As.mk hL
  rw [hR] at hl ⊢
  rw [hL] at hbl hall
  have HRl := As.mk hl
  have HLl := As.mk hbl
  have HLa := As.mk hall
  clear hn hl hR hL hbl hall
  go_enter Try.func23, Try.ntmps23
  go_wp2_with (fail)
  have hr0 : As (Row ((w.alloc (.cells Z32 45)).alloc (.cells Z32 45)) w.heap.size 45 (List.replicate 32 (.int .u8 0))) := ⟨(Row.new w (List.replicate 32 (.int .u8 0)) 45).alloc _⟩
  have hr1 : As (Row ((w.alloc (.cells Z32 45)).alloc (.cells Z32 45)) (w.heap.size + 1) 45 (((R.take 0).map (Value.int .u8)) ++ List.replicate (32 - 0) (.int .u8 0))) := ⟨by
    have := Row.new (w.alloc (.cells Z32 45)) (List.replicate 32 (.int .u8 0)) 45
    rw [World.size_alloc] at this
    exact this⟩
  have hb1 : As (Below w.heap.size w ((w.alloc (.cells Z32 45)).alloc (.cells Z32 45))) := ⟨((Below.refl _ w).alloc (Nat.le_refl _) _).alloc (by simp) _⟩
  go_loopw [5] (fun v5 wr => ∃ i : Nat, i ≤ 32 ∧ v5 = .int .i64 i ∧ As (Row wr w.heap.size 45 (List.replicate 32 (.int .u8 0))) ∧ As (Row wr (w.heap.size + 1) 45 (((R.take i).map (Value.int .u8)) ++ List.replicate (32 - i) (.int .u8 0))) ∧ As (Below w.heap.size w wr)) (fun v5 _ => 32 - (intOf v5).toNat)
  case atStart => exact ⟨0, by omega, rfl, hr0, hr1, hb1⟩
  case round =>
    clear hr0 hr1 hb1
    obtain ⟨i, hi, rfl, HRa, HRb, HB⟩ := hrel
    by_cases hlt : i < 32
    · obtain ⟨c1, hc1⟩ : ∃ c, L.getD (2 * i) 0 = c := ⟨_, rfl⟩
      obtain ⟨c2, hc2⟩ : ∃ c, L.getD (2 * i + 1) 0 = c := ⟨_, rfl⟩
      have g1 : L[2 * i]? = some c1 := by rw [← hc1, List.getD_eq_getElem?_getD]; simp [show 2 * i < L.length by have := HLl.out; omega]
      have g2 : L[2 * i + 1]? = some c2 := by rw [← hc2, List.getD_eq_getElem?_getD]; simp [show 2 * i + 1 < L.length by have := HLl.out; omega]
      have h1 : hexc c1 = true := List.all_eq_true.1 HLa.out c1 (List.mem_of_getElem? g1)
      have h2 : hexc c2 = true := List.all_eq_true.1 HLa.out c2 (List.mem_of_getElem? g2)
      have hv := rawG_at L i (by have := HLl.out; omega)
      rw [hc1, hc2, hRG.out] at hv
      have hj1 : 0 ≤ (2 : Int) * i ∧ (2 : Int) * i < 64 := by omega
      have hj2 : 0 ≤ (2 : Int) * i + 1 ∧ (2 : Int) * i + 1 < 64 := by omega
      have hb1 := byte_at s (2 * i) c1 (by rw [HL.out]; exact g1) ((2 : Int) * i) (by omega) (by omega)
      have hb2 := byte_at s (2 * i + 1) c2 (by rw [HL.out]; exact g2) ((2 : Int) * i + 1) (by omega) (by omega)
      have HW1 := As.mk (wr_s (2 * (i : Int)) (by omega) (by omega))
      have HW2 := As.mk (wr_s (2 * (i : Int) + 1) (by omega) (by omega))
      have d1 := hexc_dv h1
      have d2 := hexc_dv h2
      have HV := As.mk hv
      obtain ⟨v1, hv1⟩ : ∃ v, dv c1 = v := ⟨_, rfl⟩
      obtain ⟨v2, hv2⟩ : ∃ v, dv c2 = v := ⟨_, rfl⟩
      have k1 := fun W => value_at c1 W h1
      have k2 := fun W => value_at c2 W h2
      rw [hv1] at k1 d1 HV
      rw [hv2] at k2 d2 HV
      have K1 := As.mk k1
      have K2 := As.mk k2
      have d10 := d1.1
      have d11 := d1.2.1
      have d20 := d2.1
      have d21 := d2.2.1
      have HS1 := As.mk (wr_u8 (v1 * 16) (by omega) (by omega))
      have HS2 := As.mk (or_nib v1 v2 ⟨d10, d11⟩ ⟨d20, d21⟩)
      clear hc1 hc2 g1 g2 h1 h2 hv hv1 hv2 k1 k2 d1 d2
      go_wp2_with (fail)
      refine start_ (n := 16) (S := fun w' => Below w.heap.size w w') (ds := []) #[false, false, false, false, false, false, false, false, false, false, false, false, false, false, false, false] (by kernel_rfl) rfl rfl (HB.out.drew) (fun hHeld => ?_)
      refine pure_ (i := 0) (N := some 8) (v := ?_) (a' := ?_) #[true, false, false, false, false, false, false, false, false, false, false, false, false, false, false, false] rfl rfl (by kernel_rfl) (fun _ _ _ h => h) (Or.inl ⟨by rfl, ?_⟩) ?_ ?_
      rotate_left
      · intro w'
        go_simp
        with_reducible rfl
      rotate_left
      · simp only [Act.put, List.setIfInBounds_toArray, List.set_cons_zero, List.set_cons_succ, i64_w, i32_w]
        rfl
      refine pure_ (i := 1) (N := some 9) (v := ?_) (a' := ?_) #[true, true, false, false, false, false, false, false, false, false, false, false, false, false, false, false] rfl rfl (by kernel_rfl) (fun _ _ _ h => h) (Or.inl ⟨by rfl, ?_⟩) ?_ ?_
      rotate_left
      · intro w'
        go_simp
        with_reducible rfl
      rotate_left
      · simp only [Act.put, List.setIfInBounds_toArray, List.set_cons_zero, List.set_cons_succ, i64_w, i32_w]
        rfl
      refine pure_ (i := 2) (N := some 10) (v := ?_) (a' := ?_) #[true, true, true, false, false, false, false, false, false, false, false, false, false, false, false, false] rfl rfl (by kernel_rfl) (fun _ _ _ h => h) (Or.inl ⟨by rfl, ?_⟩) ?_ ?_
      rotate_left
      · intro w'
        go_simp
        with_reducible rfl
      rotate_left
      · simp only [Act.put, List.setIfInBounds_toArray, List.set_cons_zero, List.set_cons_succ, i64_w, i32_w]
        rfl
      refine pure_ (i := 3) (N := some 11) (v := ?_) (a' := ?_) #[true, true, true, true, false, false, false, false, false, false, false, false, false, false, false, false] rfl rfl (by kernel_rfl) (fun _ _ _ h => h) (Or.inl ⟨by rfl, ?_⟩) ?_ ?_
      rotate_left
      · intro w'
        go_simp
        with_reducible rfl
      rotate_left
      · simp only [Act.put, List.setIfInBounds_toArray, List.set_cons_zero, List.set_cons_succ, i64_w, i32_w]
        rw [HW1.out]
      refine pure_ (i := 7) (N := some 15) (v := ?_) (a' := ?_) #[true, true, true, true, false, false, false, true, false, false, false, false, false, false, false, false] rfl rfl (by kernel_rfl) (fun _ _ _ h => h) (Or.inl ⟨by rfl, ?_⟩) ?_ ?_
      rotate_left
      · intro w'
        go_simp
        with_reducible rfl
      rotate_left
      · simp only [Act.put, List.setIfInBounds_toArray, List.set_cons_zero, List.set_cons_succ, i64_w, i32_w]
        rfl
      refine pure_ (i := 8) (N := some 16) (v := ?_) (a' := ?_) #[true, true, true, true, false, false, false, true, true, false, false, false, false, false, false, false] rfl rfl (by kernel_rfl) (fun _ _ _ h => h) (Or.inl ⟨by rfl, ?_⟩) ?_ ?_
      rotate_left
      · intro w'
        go_simp
        with_reducible rfl
      rotate_left
      · simp only [Act.put, List.setIfInBounds_toArray, List.set_cons_zero, List.set_cons_succ, i64_w, i32_w]
        rfl
      refine pure_ (i := 9) (N := some 17) (v := ?_) (a' := ?_) #[true, true, true, true, false, false, false, true, true, true, false, false, false, false, false, false] rfl rfl (by kernel_rfl) (fun _ _ _ h => h) (Or.inl ⟨by rfl, ?_⟩) ?_ ?_
      rotate_left
      · intro w'
        go_simp
        with_reducible rfl
      rotate_left
      · simp only [Act.put, List.setIfInBounds_toArray, List.set_cons_zero, List.set_cons_succ, i64_w, i32_w]
        rw [HW1.out]
      refine pure_ (i := 10) (N := some 18) (v := ?_) (a' := ?_) #[true, true, true, true, false, false, false, true, true, true, true, false, false, false, false, false] rfl rfl (by kernel_rfl) (fun _ _ _ h => h) (Or.inl ⟨by rfl, ?_⟩) ?_ ?_
      rotate_left
      · intro w'
        go_simp
        with_reducible rfl
      rotate_left
      · simp only [Act.put, List.setIfInBounds_toArray, List.set_cons_zero, List.set_cons_succ, i64_w, i32_w]
        rw [HW2.out]
      refine take_ (i := 4) (N := some 12) (v := ?_) (a' := ?_) #[true, true, true, true, true, false, false, true, true, true, true, false, false, false, false, false] rfl rfl (by kernel_rfl) (fun _ _ _ h => h) (Or.inl ⟨by rfl, ?_⟩) hHeld ?_ ?_
      rotate_left
      · intro w' s0
        go_simp
        with_reducible rfl
      rotate_left
      · simp only [Act.put, List.setIfInBounds_toArray, List.set_cons_zero, List.set_cons_succ, i64_w, i32_w]
        rfl
      refine take_ (i := 11) (N := some 19) (v := ?_) (a' := ?_) #[true, true, true, true, true, false, false, true, true, true, true, true, false, false, false, false] rfl rfl (by kernel_rfl) (fun _ _ _ h => h) (Or.inl ⟨by rfl, ?_⟩) hHeld ?_ ?_
      rotate_left
      · intro w' s0
        go_simp
        with_reducible rfl
      rotate_left
      · simp only [Act.put, List.setIfInBounds_toArray, List.set_cons_zero, List.set_cons_succ, i64_w, i32_w]
        rfl
      refine one_ (i := 5) (N := some 13) #[true, true, true, true, true, true, false, true, true, true, true, true, false, false, false, false] rfl rfl (by kernel_rfl) (by decide) (fun K hK => ?_)
      refine goes_ Try.func39 (by kernel_rfl) rfl #[.int .u8 c1] (by rfl) rfl rfl (by simp only [List.map_toArray, List.map_cons, List.map_nil]; rfl) ?_
      with_reducible refine (K1.out _).mono ?_
      rintro e x1 ⟨rfl, hb1⟩
      refine ⟨_, rfl, ?_⟩
      have HX1 := (HB.out.drew).trans (hb1.mono (HB.out.drew).size)
      have HRa1 := HRa.out.drew.below' hb1
      have HRb1 := HRb.out.drew.below' hb1
      clear hb1
      refine hK.out _ _ (HX1) (fun hHeld => ?_)
      clear hK K
      refine norm_ (a' := ?_) ?_ ?_
      rotate_left
      · show Act.put _ (some 13) _ = _
        simp only [Act.put, List.setIfInBounds_toArray, List.set_cons_zero, List.set_cons_succ, i64_w, i32_w]
        rfl
      refine pure_ (i := 6) (N := some 14) (v := ?_) (a' := ?_) #[true, true, true, true, true, true, true, true, true, true, true, true, false, false, false, false] rfl rfl (by kernel_rfl) (fun _ _ _ h => h) (Or.inl ⟨by rfl, ?_⟩) ?_ ?_
      rotate_left
      · intro w'
        go_simp
        with_reducible rfl
      rotate_left
      · simp only [Act.put, List.setIfInBounds_toArray, List.set_cons_zero, List.set_cons_succ, i64_w, i32_w]
        rw [HS1.out]
      refine one_ (i := 12) (N := some 20) #[true, true, true, true, true, true, true, true, true, true, true, true, true, false, false, false] rfl rfl (by kernel_rfl) (by decide) (fun K hK => ?_)
      refine goes_ Try.func39 (by kernel_rfl) rfl #[.int .u8 c2] (by rfl) rfl rfl (by simp only [List.map_toArray, List.map_cons, List.map_nil]; rfl) ?_
      with_reducible refine (K2.out _).mono ?_
      rintro e x2 ⟨rfl, hb2⟩
      refine ⟨_, rfl, ?_⟩
      have HX2 := (HX1).trans (hb2.mono (HX1).size)
      have HRa2 := HRa1.below' hb2
      have HRb2 := HRb1.below' hb2
      clear hb2
      refine hK.out _ _ (HX2) (fun hHeld => ?_)
      clear hK K
      refine norm_ (a' := ?_) ?_ ?_
      rotate_left
      · show Act.put _ (some 20) _ = _
        simp only [Act.put, List.setIfInBounds_toArray, List.set_cons_zero, List.set_cons_succ, i64_w, i32_w]
        rfl
      refine pure_ (i := 13) (N := some 21) (v := ?_) (a' := ?_) #[true, true, true, true, true, true, true, true, true, true, true, true, true, true, false, false] rfl rfl (by kernel_rfl) (fun _ _ _ h => h) (Or.inl ⟨by rfl, ?_⟩) ?_ ?_
      rotate_left
      · intro w'
        go_simp
        with_reducible rfl
      rotate_left
      · simp only [Act.put, List.setIfInBounds_toArray, List.set_cons_zero, List.set_cons_succ, i64_w, i32_w]
        rw [HS2.out]
      refine pure_ (i := 14) (N := some 22) (v := ?_) (a' := ?_) #[true, true, true, true, true, true, true, true, true, true, true, true, true, true, true, false] rfl rfl (by kernel_rfl) (fun _ _ _ h => h) (Or.inl ⟨by rfl, ?_⟩) ?_ ?_
      rotate_left
      · intro w'
        go_simp
        with_reducible rfl
      rotate_left
      · simp only [Act.put, List.setIfInBounds_toArray, List.set_cons_zero, List.set_cons_succ, i64_w, i32_w]
        rfl
      refine one_ (i := 15) (N := none) #[true, true, true, true, true, true, true, true, true, true, true, true, true, true, true, true] rfl rfl (by kernel_rfl) (by decide) (fun K hK => ?_)
      have q1 := HRb2.cell (i := i) (v := .int .u8 0) (fill_at R i 32 hlt HRl.out)
      have q2 := HRb2.free i none
      refine skip_ (w1 := x2.setCell ⟨w.heap.size + 1, i, none⟩ (.int .u8 (v1 * 16 + v2))) (by rfl) rfl ?_ ?_
      · go_simp
      refine hK.out _ _ (HX2.setCell (by simp) _) (fun hHeld => ?_)
      clear hK K
      refine done_ (by kernel_rfl) ?_
      have HRb9 := As.mk (HRb2.set i (.int .u8 (v1 * 16 + v2)))
      have HRa9 := As.mk (HRa2.set_ne (a := ⟨w.heap.size + 1, i, none⟩) (by simp) (.int .u8 (v1 * 16 + v2)))
      have HB9 : As (Below w.heap.size w (x2.setCell ⟨w.heap.size + 1, i, none⟩ (.int .u8 (v1 * 16 + v2)))) := ⟨HX2.setCell (by simp) _⟩
      rw [fill_set R i 32 _ hlt HRl.out HV.out] at HRb9
      clear hHeld q1 q2
      go_wp2_with (fail)
      exact ⟨⟨i + 1, by omega, by go_num, HRa9, HRb9, HB9⟩, by simp [intOf]; omega⟩
    · have hi2 : i = 32 := by omega
      subst hi2
      have hRT : R.take 32 = R := List.take_of_length_le (by rw [HRl.out]; exact Nat.le_refl _)
      have HRc : As (Row wr (w.heap.size + 1) 45 (R.map (Value.int .u8))) := ⟨by have := HRb.out; simpa [hRT] using this⟩
      clear HRb hRT
      go_wp2_with (first
        | (refine wpList_load_row rfl 45 (.tmp 3) rfl (w.heap.size + 1) rfl 45 _ (0, 0) _ HRc.out Try.underlying45 rfl (by rw [info_32]; simp [HRl.out]) ?_)
        | (refine wpList_store_row rfl 45 (.tmp 2) (.tmp 24) rfl w.heap.size (R.map (Value.int .u8)).toArray rfl rfl 45 _ HRa.out (by rw [info_32]; simp [HRl.out]) (by simp [HRl.out]) (all_u8 _) ?_)
        | fail)
      refine bodyPost_ret (v := .agg (R.map (Value.int .u8)).toArray) (results_cell_row rfl _ _ w.heap.size 45 _ (0, 0) _ rfl (setRow_heap _ _ _ _ _ _ HRa.out) Try.underlying45 rfl (by rw [info_32]; simp [HRl.out])) rfl ⟨rfl, below_setRow HB.out (Nat.le_refl _) _⟩
end Go.Proofs.Ytonhmjodgomeiaa.Ix

/- index.told: the name that bytes say. No condition but the bytes' number. -/
namespace Go.Proofs.Ytonhmjodgomeiaa.Ix
set_option linter.unusedVariables false
set_option linter.unusedSimpArgs false
open Go.RowKit Blk Dg Go.Proofs.YtonhmjodgomeiaaW.PrintWords Go.Proofs.YtonhmjodgomeiaaW.PrintLast Go.Proofs.YtonhmjodgomeiaaW.PrintMore

/-- make([]byte, 0, c). -/
theorem make_own8 (c : Nat) (z : Int) (hz : z = c) (hc : c ≤ 1099511627776) (w : World) : ∃ w', (Instr.makeSlice 23 (.int .i64 0) (.int .i64 z)).run Try.prog w = .ok (.slice (some ⟨w.heap.size, 0, none⟩) 0 c) w' ∧
    (Kd.int .u8).R 5 w' w.heap.size (fun _ => True) (.slice (some ⟨w.heap.size, 0, none⟩) 0 c) [] ∧ Below w.heap.size w w' := by
  subst hz
  obtain ⟨i, hi, hzz⟩ := Option.map_eq_some_iff.1 Il.info5
  simp only [Prod.mk.injEq] at hzz
  obtain ⟨w', h1, h2, h3⟩ := run_make_own (P := Try.prog) w w.heap.size 23 5 i (.int .u8 0) 1 Try.underlying23 hi hzz.1 hzz.2.1 .i64 .i64 c (by rw [hzz.2.2]; omega) (by simp only [maxLen]; omega) (Nat.le_refl _)
  exact ⟨w', h1, Kd.R_of_own h2 (fun _ _ => trivial), (Below.refl _ w).grown h3 (Nat.le_refl _) (fun _ h => by cases h)⟩
set_option maxHeartbeats 4000000 in
set_option maxRecDepth 100000 in
theorem told_calls (A : Option Addr) (c n : Nat) (r : List Int) (w : World) (hC : (Kd.int .u8).C w A n r) (hn : r.length = n) (hc : n ≤ c) (hz : n ≤ 1073741824) (h8 : ∀ x ∈ r, 0 ≤ x ∧ x < 256) :
    Calls Try.prog 35 #[.slice A n c] w fun e w' => e = .returned (.string (toldS r)) ∧ Below w.heap.size w w' := by
  obtain ⟨w1, hm, hO, hb⟩ := make_own8 (2 * n) (2 * (n : Int)) (by omega) (by omega) w
  have HO := As.mk hO
  have HB := As.mk hb
  have HC := As.mk hC
  have H8 := As.mk h8
  have HN := As.mk hn
  clear hO hb hC h8 hn
  go_enter Try.func35, Try.ntmps35
  go_wp2_with (fail)
  clear hm
  go_loopw [3, 12] (fun v3 v12 wr => ∃ i : Nat, i ≤ n ∧ v12 = .int .i64 i ∧ As ((Kd.int .u8).R 5 wr w.heap.size (fun _ => True) v3 (nameL (r.take i))) ∧ As (Below w.heap.size w wr)) (fun _ v12 _ => n - (intOf v12).toNat)
  case atStart => exact ⟨0, by omega, rfl, HO, HB⟩
  case round =>
    clear HB HO
    obtain ⟨i, hi, rfl, HO, HB⟩ := hrel
    by_cases hlt : i < n
    · obtain ⟨ad, rfl, hcell⟩ := Kd.at_int (Kd.C_below HC.out HB.out) (i : Int) (by omega) (by omega)
      rw [Int.toNat_natCast] at hcell
      obtain ⟨x, hx⟩ : ∃ x, rd r i = x := ⟨_, rfl⟩
      have hxr : r[i]? = some x := by
        rw [← hx]
        have : i < r.length := by rw [HN.out]; exact hlt
        simp [rd, this]
      have hx8 := H8.out x (List.mem_of_getElem? hxr)
      rw [hx] at hcell
      have hx0 := hx8.1
      have hx1 := hx8.2
      have q1 := fun w => digit_at (x / 16) (by omega) (by omega) w
      have q2 := fun w => digit_at (x % 16) (by omega) (by omega) w
      obtain ⟨y1, hy1⟩ : ∃ y, hexd (x / 16) = y := ⟨_, rfl⟩
      obtain ⟨y2, hy2⟩ : ∃ y, hexd (x % 16) = y := ⟨_, rfl⟩
      rw [hy1] at q1
      rw [hy2] at q2
      have HNX : As (nameL (r.take (i + 1)) = nameL (r.take i) ++ [y1, y2]) := ⟨by
        have hil : i < r.length := by rw [HN.out]; exact hlt
        rw [nameL_snoc r i hil, show r.getD i 0 = x by rw [List.getD_eq_getElem?_getD, hxr]; rfl, hy1, hy2]⟩
      have hnl : (nameL (r.take i)).length = 2 * i := by rw [nameL_len, List.length_take, HN.out]; omega
      have HNL := As.mk hnl
      clear hx hx8 hxr hy1 hy2 hnl
      go_wp2_with (fail)
      refine QTail.wp_region_pre 1 7 (by kernel_rfl) (by kernel_rfl) (by intro _ _ d _ _ h; cases d <;> exact h) ?_
      simp only [List.take_succ_cons, List.take_zero, List.drop_succ_cons, List.drop_zero, QTail.pre]
      go_simp
      repeat (go_big_quiet_step (fail))
      refine wpQuiet_nil ?_
      intro nq
      have HO1 : As ((Kd.int .u8).R 5 ((wr.drewN nq).alloc (.cells #[.int .u8 y1, .int .u8 y2] 5)) w.heap.size (fun _ => True) u3 (nameL (r.take i))) := ⟨Kd.R_alloc (Kd.R_drewN HO.out nq) _⟩
      have HB1 : As (Below w.heap.size w ((wr.drewN nq).alloc (.cells #[.int .u8 y1, .int .u8 y2] 5))) := ⟨(Blk.pw_drewN HB.out nq).alloc (below_size (Blk.pw_drewN HB.out nq)) _⟩
      have HC2 := As.mk (C_new2 (wr.drewN nq) y1 y2)
      have hll : ((nameL (r.take i)).length + 2) * 1 ≤ 140737488355328 := by rw [HNL.out]; omega
      go_wp2_with (first
        | ((with_reducible refine gate_builtin (b := .append) (xs := #[.tmp 16, .tmp 23]) rfl ?_); at_builtin; refine Kd.R_append_rows (Kd.int .u8) (Rr := (Kd.int .u8).K ((wr.drewN nq).alloc (.cells #[.int .u8 y1, .int .u8 y2] 5))) (w0 := w) w.heap.size rfl (.tmp 16) (.tmp 23) 23 5 (.int .u8 0) 1 rfl Try.underlying23 info_u8 rfl (by decide) (by omega) _ (nameL (r.take i)) [y1, y2] (some ⟨wr.heap.size, 0, none⟩) 2 2 (fun _ => True) (fun _ => False) rfl rfl HO1.out HC2.out (fun _ _ h => h) (fun _ hk => hk.elim) (fun _ _ => trivial) HB1.out (below_size HB1.out) hll ?_; intro v1 w1 ho hb1 hg hat; have HO2 := As.mk ho; have HB2 := As.mk hb1; clear ho hb1 hat hg)
        | fail)
      refine ⟨⟨i + 1, by omega, by go_num, ⟨by rw [HNX.out]; exact HO2.out⟩, HB2⟩, by simp [intOf]; omega⟩
    · have : i = n := by omega
      subst this
      obtain ⟨A1, c1, rfl, hc1, hC1⟩ := Kd.R_reads HO.out
      have hcv := Kd.C_string (P := Try.prog) (A := A1) (c := c1) Try.underlying23 Try.underlying5 Try.underlying9 hC1
      have ht : r.take i = r := List.take_of_length_le (by rw [HN.out]; exact Nat.le_refl _)
      have HT : As (toldS r = strOfNums (nameL (r.take i))) := ⟨by rw [toldS, ht]⟩
      clear hC1 ht
      go_wp2_with (fail)
      go_ret
      refine ⟨by rw [HT.out]; rfl, HB.out⟩
end Go.Proofs.Ytonhmjodgomeiaa.Ix

/- bytes.Compare, and the order of an index's lines: what slices.SortFunc makes of them. No condition but the reach of what comes in. -/
namespace Go.Proofs.Ytonhmjodgomeiaa.Ix
set_option linter.unusedVariables false
set_option linter.unusedSimpArgs false
open Go.RowKit Blk Dg Go.Proofs.YtonhmjodgomeiaaW.PrintWords Go.Proofs.YtonhmjodgomeiaaW.PrintLast Go.Proofs.YtonhmjodgomeiaaW.PrintMore

/-- How two rows of bytes compare. -/
def cmpL : List Int → List Int → Int
  | [], [] => 0
  | [], _ :: _ => -1
  | _ :: _, [] => 1
  | a :: r, b :: s => if a < b then -1 else if b < a then 1 else cmpL r s
def cmpU : List UInt8 → List UInt8 → Int
  | [], [] => 0
  | [], _ :: _ => -1
  | _ :: _, [] => 1
  | a :: r, b :: s => if a != b then (if a < b then -1 else 1) else cmpU r s
def cmpF (a b : List UInt8) : Int :=
  match (List.range (min a.length b.length)).find? (fun i => a[i]! != b[i]!) with
  | some i => if a[i]! < b[i]! then -1 else 1
  | none => if a.length < b.length then -1 else if a.length > b.length then 1 else 0
theorem cmpF_cons (x y : UInt8) (r s : List UInt8) : cmpF (x :: r) (y :: s) = if x != y then (if x < y then -1 else 1) else cmpF r s := by
  unfold cmpF
  rw [show min (x :: r).length (y :: s).length = min r.length s.length + 1 by simp only [List.length_cons]; omega, List.range_succ_eq_map, List.find?_cons]
  by_cases h : x = y
  · subst h
    simp only [List.getElem!_cons_zero, bne_self_eq_false, List.find?_map, Function.comp_def, List.getElem!_cons_succ]
    cases hf : List.find? (fun i => r[i]! != s[i]!) (List.range (min r.length s.length)) with
    | none => simp
    | some i => simp
  · have hb : (x != y) = true := by simpa using h
    simp only [List.getElem!_cons_zero, hb]
    simp
theorem cmpF_eq : ∀ (a b : List UInt8), cmpF a b = cmpU a b
  | [], [] => by simp [cmpF, cmpU]
  | [], y :: s => by simp [cmpF, cmpU]
  | x :: r, [] => by simp [cmpF, cmpU]
  | x :: r, y :: s => by rw [cmpF_cons, cmpU, cmpF_eq r s]
theorem cmp_eq (a b : List UInt8) : Go.Extern.BytealgCompare.cmp ⟨a.toArray⟩ ⟨b.toArray⟩ = cmpF a b := by
  have hg : ∀ (l : List UInt8) (i : Nat), (⟨l.toArray⟩ : ByteArray)[i]! = l[i]! := by
    intro l i
    by_cases hi : i < l.length
    · rw [getElem!_pos (⟨l.toArray⟩ : ByteArray) i (by simpa [ByteArray.size] using hi), getElem!_pos l i hi]
      rfl
    · rw [getElem!_neg (⟨l.toArray⟩ : ByteArray) i (by simpa [ByteArray.size] using hi), getElem!_neg l i hi]
  unfold Go.Extern.BytealgCompare.cmp cmpF
  simp only [hg]
  rfl
theorem cmpU_L : ∀ (a b : List Int), (∀ x ∈ a, 0 ≤ x ∧ x < 256) → (∀ x ∈ b, 0 ≤ x ∧ x < 256) → cmpU (Lib.bytesOf a) (Lib.bytesOf b) = cmpL a b
  | [], [], _, _ => rfl
  | [], y :: s, _, _ => rfl
  | x :: r, [], _, _ => rfl
  | x :: r, y :: s, ha, hb => by
    have hx := ha x List.mem_cons_self
    have hy := hb y List.mem_cons_self
    have ih := cmpU_L r s (fun z h => ha z (List.mem_cons_of_mem _ h)) (fun z h => hb z (List.mem_cons_of_mem _ h))
    show (if x.toNat.toUInt8 != y.toNat.toUInt8 then _ else cmpU (Lib.bytesOf r) (Lib.bytesOf s)) = cmpL (x :: r) (y :: s)
    rw [ih, cmpL]
    have hlt : x.toNat.toUInt8 < y.toNat.toUInt8 ↔ x < y := by
      rw [UInt8.lt_iff_toNat_lt]
      simp only [Nat.toUInt8_eq, UInt8.toNat_ofNat']
      omega
    have heq : x.toNat.toUInt8 = y.toNat.toUInt8 ↔ x = y := by
      rw [← UInt8.toNat_inj]
      simp only [Nat.toUInt8_eq, UInt8.toNat_ofNat']
      omega
    by_cases h1 : x < y
    · have hne : (x.toNat.toUInt8 != y.toNat.toUInt8) = true := by rw [bne_iff_ne, Ne, heq]; omega
      rw [if_pos hne, if_pos (hlt.2 h1), if_pos h1]
    · rw [if_neg h1]
      by_cases h2 : y < x
      · have hne : (x.toNat.toUInt8 != y.toNat.toUInt8) = true := by rw [bne_iff_ne, Ne, heq]; omega
        rw [if_pos hne, if_neg (fun h => h1 (hlt.1 h)), if_pos h2]
      · have hne : (x.toNat.toUInt8 != y.toNat.toUInt8) = false := by rw [bne_eq_false_iff_eq, heq]; omega
        rw [if_neg h2, hne]; rfl
theorem ext_compare (args : Array Value) (w : World) : (callFunc 42 args).run Try.prog w = ((Go.Extern.BytealgCompare.compare args).run Try.prog w).andThen fun v w' => .ok (.value v) w' :=
  run_callFunc_standIn Try.func42 (by kernel_rfl) (by kernel_rfl) (by kernel_rfl) (by kernel_rfl) args w
theorem run_compare (A1 A2 : Option Addr) (c1 c2 n1 n2 : Nat) (l1 l2 : List Int) (w : World) (h1 : (Kd.int .u8).C w A1 n1 l1) (h2 : (Kd.int .u8).C w A2 n2 l2) (k1 : 0 < n1) (k2 : 0 < n2) (b1 : ∀ x ∈ l1, 0 ≤ x ∧ x < 256) (b2 : ∀ x ∈ l2, 0 ≤ x ∧ x < 256) :
    (callFunc 42 #[.slice A1 n1 c1, .slice A2 n2 c2]).run Try.prog w = .ok (.value (.int .i64 (cmpL l1 l2))) w := by
  have key : ∀ (A : Option Addr) (c n : Nat) (l : List Int), (Kd.int .u8).C w A n l → 0 < n → (Go.Extern.Bytes.bytesOf (.slice A n c)).run Try.prog w = .ok (⟨(Lib.bytesOf l).toArray⟩ : ByteArray) w := by
    intro A c n l h k
    have hr := Kd.reads_of_C (enc := Value.int .u8) (d := (0 : Int)) (h1 := fun _ => rfl) h
    obtain ⟨ad, rfl, hc⟩ := hr.2.2 k
    have hln : l.length = n := hr.1
    subst hln
    have := Lib.run_loadBytesX (P := Try.prog) w l ad .empty (fun j x hj => by
      have hjl : j < l.length := (List.getElem?_eq_some_iff.1 hj).1
      rw [hc j hjl]
      simp [rdOf, hj])
    rw [Go.Extern.Bytes.bytesOf, this]
    congr 1
    apply ByteArray.ext
    show (#[] : Array UInt8) ++ (Lib.bytesOf l).toArray = (Lib.bytesOf l).toArray
    simp
  rw [ext_compare]
  have e : Go.Extern.BytealgCompare.compare #[.slice A1 n1 c1, .slice A2 n2 c2] = (Go.Extern.Bytes.bytesOf (.slice A1 n1 c1) >>= fun a => Go.Extern.Bytes.bytesOf (.slice A2 n2 c2) >>= fun b => pure (goInt (Go.Extern.BytealgCompare.cmp a b))) := rfl
  rw [e]
  simp only [Sem.run_bind, key A1 c1 n1 l1 h1 k1, key A2 c2 n2 l2 h2 k2, Result.andThen_ok, Sem.run_pure]
  rw [cmp_eq, cmpF_eq, cmpU_L l1 l2 b1 b2]
  rfl
theorem compare_calls (A1 A2 : Option Addr) (c1 c2 n1 n2 : Nat) (l1 l2 : List Int) (w : World) (h1 : (Kd.int .u8).C w A1 n1 l1) (h2 : (Kd.int .u8).C w A2 n2 l2) (k1 : 0 < n1) (k2 : 0 < n2) (b1 : ∀ x ∈ l1, 0 ≤ x ∧ x < 256) (b2 : ∀ x ∈ l2, 0 ≤ x ∧ x < 256) :
    Calls Try.prog 26 #[.slice A1 n1 c1, .slice A2 n2 c2] w fun e w' => e = .returned (.int .i64 (cmpL l1 l2)) ∧ w' = w := by
  have hr := run_compare A1 A2 c1 c2 n1 n2 l1 l2 w h1 h2 k1 k2 b1 b2
  clear h1 h2
  go_enter Try.func26, Try.ntmps26
  go_wp2_with (fail)
  go_ret
  exact ⟨rfl, rfl⟩
end Go.Proofs.Ytonhmjodgomeiaa.Ix

/- The order of an index's lines, and what slices.SortFunc makes of them. No condition. -/
namespace Go.Proofs.Ytonhmjodgomeiaa.Ix
set_option linter.unusedVariables false
set_option linter.unusedSimpArgs false
open Go.Shelf Go.Lib Go.Sort
open Go.RowKit Blk Dg Go.Proofs.YtonhmjodgomeiaaW.PrintWords Go.Proofs.YtonhmjodgomeiaaW.PrintLast Go.Proofs.YtonhmjodgomeiaaW.PrintMore

theorem cmpL_neg : ∀ (a b : List Int), cmpL b a = - cmpL a b
  | [], [] => rfl
  | [], _ :: _ => rfl
  | _ :: _, [] => rfl
  | a :: r, b :: s => by
    rw [cmpL, cmpL]
    by_cases h1 : a < b
    · rw [if_neg (by omega), if_pos h1, if_pos h1]; rfl
    · by_cases h2 : b < a
      · rw [if_pos h2, if_neg h1, if_pos h2]
      · rw [if_neg h2, if_neg h1, if_neg h1, if_neg h2]; exact cmpL_neg r s
theorem cmpL_eq : ∀ (a b : List Int), cmpL a b = 0 ↔ a = b
  | [], [] => by simp [cmpL]
  | [], _ :: _ => by simp [cmpL]
  | _ :: _, [] => by simp [cmpL]
  | a :: r, b :: s => by
    rw [cmpL]
    by_cases h1 : a < b
    · rw [if_pos h1]; simp; omega
    · rw [if_neg h1]
      by_cases h2 : b < a
      · rw [if_pos h2]; simp; omega
      · rw [if_neg h2, cmpL_eq r s]
        have : a = b := by omega
        simp [this]
theorem cmpL_trans : ∀ (a b c : List Int), cmpL a b < 0 → cmpL b c < 0 → cmpL a c < 0
  | a, [], c, h, _ => by cases a <;> simp [cmpL] at h
  | a, b, [], _, h => by cases b <;> simp [cmpL] at h
  | [], _ :: _, _ :: _, _, _ => by simp [cmpL]
  | a :: r, b :: s, c :: t, h, k => by
    rw [cmpL] at h k ⊢
    by_cases h1 : a < b
    · by_cases k1 : b < c
      · rw [if_pos (by omega)]; omega
      · rw [if_neg k1] at k
        by_cases k2 : c < b
        · rw [if_pos k2] at k; omega
        · rw [if_pos (by omega)]; omega
    · rw [if_neg h1] at h
      by_cases h2 : b < a
      · rw [if_pos h2] at h; omega
      · rw [if_neg h2] at h
        by_cases k1 : b < c
        · rw [if_pos (by omega)]; omega
        · rw [if_neg k1] at k
          by_cases k2 : c < b
          · rw [if_pos k2] at k; omega
          · rw [if_neg k2] at k
            rw [if_neg (by omega), if_neg (by omega)]
            exact cmpL_trans r s t h k
theorem cmpL_le (a b c : List Int) (h : cmpL a b ≤ 0) (k : cmpL b c ≤ 0) : cmpL a c ≤ 0 := by
  rcases Int.lt_or_eq_of_le h with h | h
  · rcases Int.lt_or_eq_of_le k with k | k
    · have := cmpL_trans a b c h k; omega
    · rw [(cmpL_eq b c).1 k] at h; omega
  · rw [(cmpL_eq a b).1 h]; exact k
/-- A line of an index: a name's bytes, and its place. -/
structure Ln where
  id : List Int
  pl : Nat
  len : id.length = 32
  b8 : ∀ x ∈ id, 0 ≤ x ∧ x < 256
instance : Inhabited Ln := ⟨⟨List.replicate 32 0, 0, List.length_replicate, fun x h => by rw [(List.mem_replicate.1 h).2]; decide⟩⟩
def encLn (x : Ln) : List Value := x.id.map (Value.int .u8) ++ [.int .i64 x.pl]
theorem encLn_len (x : Ln) : (encLn x).length = 33 := by rw [encLn, List.length_append, List.length_map, x.len]; rfl
theorem encLn_one (x : Ln) : ∀ v ∈ encLn x, v.oneCell' = true := by
  intro v hv
  rcases List.mem_append.1 hv with h | h
  · obtain ⟨y, _, rfl⟩ := List.mem_map.1 h; rfl
  · rw [List.mem_singleton.1 h]; rfl
def cfL (x y : Ln) : Int := cmpL x.id y.id
theorem swoL : SWO (ltOf cfL) where
  irrefl x := by
    have := (cmpL_eq x.id x.id).2 rfl
    exact decide_eq_false (show ¬ cmpL x.id x.id < 0 by omega)
  trans x y z h k := decide_eq_true (cmpL_trans _ _ _ (of_decide_eq_true h) (of_decide_eq_true k))
  ntrans x y z h k := by
    have h : ¬ cmpL x.id y.id < 0 := of_decide_eq_false h
    have k : ¬ cmpL y.id z.id < 0 := of_decide_eq_false k
    have e1 := cmpL_neg x.id y.id
    have e2 := cmpL_neg y.id z.id
    have e3 := cmpL_neg x.id z.id
    have := cmpL_le z.id y.id x.id (by omega) (by omega)
    exact decide_eq_false (show ¬ cmpL x.id z.id < 0 by omega)
theorem C_line (x : Ln) (W : World) (b : Nat) (fz : Nat × Nat) (h : W.heap[b]? = some (.cells (encLn x).toArray 48 fz)) : (Kd.int .u8).C W (some ⟨b, 0, none⟩) 32 x.id := by
  refine Kd.C_of_reads (enc := Value.int .u8) (d := (0 : Int)) ⟨x.len, by decide, fun _ => ⟨_, rfl, fun j hj => ?_⟩⟩
  have hjl : j < x.id.length := by rw [x.len]; exact hj
  have hc : (encLn x)[j]? = some (.int .u8 x.id[j]) := by
    rw [encLn, List.getElem?_append_left (by simpa using hjl)]
    simp [hjl]
  have e : (⟨b, 0, none⟩ : Addr).add j = ⟨b, j, none⟩ := by unfold Addr.add; split <;> simp_all
  rw [e]
  simp [World.cell?, h, hc, rdOf, hjl]
set_option maxHeartbeats 4000000 in
set_option maxRecDepth 100000 in
/-- The comparison that Put hands in. -/
theorem closure_calls (x y : Ln) (W : World) : Calls Try.prog 25 #[.agg (encLn x).toArray, .agg (encLn y).toArray] W fun e w' => e = .returned (.int .i64 (cfL x y)) ∧ ∃ q os', w' = grow (W.drewN q) os' := by
  obtain ⟨X, hX⟩ : ∃ X, (encLn x).toArray = X := ⟨_, rfl⟩
  obtain ⟨Y, hY⟩ : ∃ Y, (encLn y).toArray = Y := ⟨_, rfl⟩
  have HX := As.mk hX
  have HY := As.mk hY
  have hXs : X.size = 33 := by rw [← hX, List.size_toArray, encLn_len]
  have hYs : Y.size = 33 := by rw [← hY, List.size_toArray, encLn_len]
  rw [hX, hY]
  clear hX hY
  go_enter Try.func25, Try.ntmps25
  go_wp2_with (fail)
  obtain ⟨wx, hwx⟩ : ∃ wx, (W.alloc (.cells X 48)).alloc (.cells Y 48) = wx := ⟨_, rfl⟩
  have hh0 : wx.heap[W.heap.size]? = some (.cells X 48 (0, 0)) := by
    rw [← hwx, ← HX.out]; exact (Row.new W (encLn x) 48).alloc _
  have hh1 : wx.heap[W.heap.size + 1]? = some (.cells Y 48 (0, 0)) := by
    have := Row.new (W.alloc (.cells X 48)) (encLn y) 48
    unfold Row at this
    rw [World.size_alloc, HY.out] at this
    rw [← hwx]; exact this
  have HC1 : As ((Kd.int .u8).C wx.drew (some ⟨W.heap.size, 0, none⟩) 32 x.id) := ⟨C_line x wx.drew _ _ (by rw [HX.out]; exact hh0)⟩
  have HC2 : As ((Kd.int .u8).C wx.drew (some ⟨W.heap.size + 1, 0, none⟩) 32 y.id) := ⟨C_line y wx.drew _ _ (by rw [HY.out]; exact hh1)⟩
  have HWX := As.mk hwx
  rw [hwx]
  clear hwx hh0 hh1
  refine start_ (n := 6) (S := fun w' => Below (wx).drew.heap.size (wx).drew w') (ds := []) #[false, false, false, false, false, false] (by kernel_rfl) rfl rfl (Below.refl _ _) (fun hHeld => ?_)
  refine pure_ (i := 0) (N := some 5) (v := ?_) (a' := ?_) #[true, false, false, false, false, false] rfl rfl (by kernel_rfl) (fun _ _ _ h => h) (Or.inl ⟨by rfl, ?_⟩) ?_ ?_
  rotate_left
  · intro w'
    go_simp
    with_reducible rfl
  rotate_left
  · simp only [Act.put, List.setIfInBounds_toArray, List.set_cons_zero, List.set_cons_succ, i64_w, i32_w]
    rfl
  refine pure_ (i := 1) (N := some 6) (v := ?_) (a' := ?_) #[true, true, false, false, false, false] rfl rfl (by kernel_rfl) (fun _ _ _ h => h) (Or.inl ⟨by rfl, ?_⟩) ?_ ?_
  rotate_left
  · intro w'
    go_simp
    with_reducible rfl
  rotate_left
  · simp only [Act.put, List.setIfInBounds_toArray, List.set_cons_zero, List.set_cons_succ, i64_w, i32_w]
    rfl
  refine pure_ (i := 2) (N := some 7) (v := ?_) (a' := ?_) #[true, true, true, false, false, false] rfl rfl (by kernel_rfl) (fun _ _ _ h => h) (Or.inl ⟨by rfl, ?_⟩) ?_ ?_
  rotate_left
  · intro w'
    go_simp
    with_reducible rfl
  rotate_left
  · simp only [Act.put, List.setIfInBounds_toArray, List.set_cons_zero, List.set_cons_succ, i64_w, i32_w]
    rfl
  refine pure_ (i := 3) (N := some 8) (v := ?_) (a' := ?_) #[true, true, true, true, false, false] rfl rfl (by kernel_rfl) (fun _ _ _ h => h) (Or.inl ⟨by rfl, ?_⟩) ?_ ?_
  rotate_left
  · intro w'
    go_simp
    with_reducible rfl
  rotate_left
  · simp only [Act.put, List.setIfInBounds_toArray, List.set_cons_zero, List.set_cons_succ, i64_w, i32_w]
    rfl
  refine one_ (i := 4) (N := some 9) #[true, true, true, true, true, false] rfl rfl (by kernel_rfl) (by decide) (fun K hK => ?_)
  refine goes_ Try.func26 (by kernel_rfl) rfl #[.slice (some ⟨W.heap.size, 0, none⟩) 32 32, .slice (some ⟨W.heap.size + 1, 0, none⟩) 32 32] (by rfl) rfl rfl (by simp only [List.map_toArray, List.map_cons, List.map_nil]; rfl) ?_
  with_reducible refine (compare_calls _ _ 32 32 32 32 x.id y.id _ HC1.out HC2.out (by decide) (by decide) x.b8 y.b8).mono ?_
  rintro e w9 ⟨rfl, rfl⟩
  refine ⟨_, rfl, ?_⟩
  refine hK.out _ _ (hHeld) (fun hHeld => ?_)
  clear hK K
  refine norm_ (a' := ?_) ?_ ?_
  rotate_left
  · show Act.put _ (some 9) _ = _
    simp only [Act.put, List.setIfInBounds_toArray, List.set_cons_zero, List.set_cons_succ, i64_w, i32_w]
    rfl
  refine pure_ (i := 5) (N := some 4) (v := ?_) (a' := ?_) #[true, true, true, true, true, true] rfl rfl (by kernel_rfl) (fun _ _ _ h => h) (Or.inl ⟨by rfl, ?_⟩) ?_ ?_
  rotate_left
  · intro w'
    go_simp
    with_reducible rfl
  rotate_left
  · simp only [Act.put, List.setIfInBounds_toArray, List.set_cons_zero, List.set_cons_succ, i64_w, i32_w]
    rfl
  refine done_ (by kernel_rfl) ?_
  go_wp2_with (fail)
  go_ret
  refine ⟨rfl, 1, #[.cells X 48, .cells Y 48], ?_⟩
  rw [← HWX.out, alloc_eq_grow, alloc_eq_grow, grow_grow]
  rfl
theorem cmp_lays (blk off size : Nat) (w : World) : Go.Proofs.CmpLays Try.prog 25 #[] encLn 33 cfL blk off size w := fun _ _ _ _ x y => closure_calls x y _
end Go.Proofs.Ytonhmjodgomeiaa.Ix

/- What an index is, plainly. No condition. -/
namespace Go.Proofs.Ytonhmjodgomeiaa.Ix
set_option linter.unusedVariables false
set_option linter.unusedSimpArgs false
open Go.RowKit Blk Dg Go.Proofs.YtonhmjodgomeiaaW.PrintWords Go.Proofs.YtonhmjodgomeiaaW.PrintLast Go.Proofs.YtonhmjodgomeiaaW.PrintMore

/-- Each name's bytes, and its place. -/
def keysOf (ids : List ByteArray) : List (List Int × Nat) := ids.zipIdx.map fun p => (rawL p.1, p.2)
theorem keysOf_len (ids : List ByteArray) : (keysOf ids).length = ids.length := by simp [keysOf]
theorem keysOf_at (ids : List ByteArray) (i : Nat) (h : i < ids.length) : (keysOf ids)[i]? = some (rawL ids[i], i) := by
  simp [keysOf, h]
theorem keysOf_fst (ids : List ByteArray) : (keysOf ids).map Prod.fst = ids.map rawL := by
  simp only [keysOf, List.map_map]
  rw [show (Prod.fst ∘ fun p : ByteArray × Nat => (rawL p.1, p.2)) = rawL ∘ Prod.fst from rfl, ← List.map_map, List.zipIdx_map_fst]
def twoI (n : Nat) : List Int := [((n / 256 % 256 : Nat) : Int), ((n % 256 : Nat) : Int)]
def cntN (K : List (List Int)) (c : Nat) : Nat := K.countP fun k => decide (k.headD 0 ≤ (c : Int))
def fanL (K : List (List Int)) : List Int := (List.range 256).flatMap fun c => twoI (cntN K c)
def rowsL (P : List (List Int × Nat)) : List Int := P.flatMap fun p => p.1 ++ twoI p.2
def bodyL (K : List (List Int)) (P : List (List Int × Nat)) : List Int := fanL K ++ rowsL P
def Srt (P : List (List Int × Nat)) : Prop := P.Pairwise fun x y => cmpL x.1 y.1 < 0
/-- b is the index of ids. -/
def IsIx (ids : List ByteArray) (b : List Int) : Prop :=
  ∃ P, P.Perm (keysOf ids) ∧ Srt P ∧ b = bodyL (ids.map rawL) P ++ shaL (bodyL (ids.map rawL) P)
def putE (ids : List ByteArray) : Int :=
  if 512 < ids.length then 2 else if ids.all (fun s => namedL (bytesOf s)) = false then 1 else if (ids.map rawL).Nodup then 0 else 91
/-- What Put answers: bytes and an error's number. -/
def PutR (ids : List ByteArray) (b : List Int) (z : Int) : Prop := z = putE ids ∧ (z = 0 → IsIx ids b) ∧ (z ≠ 0 → b = [])
theorem srt_nodup {P : List (List Int × Nat)} (h : Srt P) : (P.map Prod.fst).Nodup := by
  rw [List.nodup_iff_pairwise_ne, List.pairwise_map]
  refine List.Pairwise.imp (fun {x y} hxy he => ?_) h
  rw [(cmpL_eq x.1 y.1).2 he] at hxy
  omega
/-- Two rising rows of the same lines are one. -/
theorem srt_unique : ∀ (P Q : List (List Int × Nat)), Srt P → Srt Q → P.Perm Q → P = Q
  | [], Q, _, _, h => (List.nil_perm.1 h).symm
  | x :: P, [], _, _, h => absurd h.length_eq (by simp)
  | x :: P, y :: Q, hp, hq, h => by
    have hp1 : ∀ z ∈ P, cmpL x.1 z.1 < 0 := (List.pairwise_cons.1 hp).1
    have hq1 : ∀ z ∈ Q, cmpL y.1 z.1 < 0 := (List.pairwise_cons.1 hq).1
    have hxy : x = y := by
      have hx : x ∈ y :: Q := h.subset List.mem_cons_self
      have hy : y ∈ x :: P := h.symm.subset List.mem_cons_self
      rcases List.mem_cons.1 hx with e | hx
      · exact e
      · rcases List.mem_cons.1 hy with e | hy
        · exact e.symm
        · have k1 : cmpL y.1 x.1 < 0 := hq1 x hx
          have k2 : cmpL x.1 y.1 < 0 := hp1 y hy
          have := cmpL_neg x.1 y.1
          omega
    subst hxy
    rw [srt_unique P Q (List.Pairwise.of_cons hp) (List.Pairwise.of_cons hq) ((List.perm_cons x).1 h)]
theorem isIx_unique {ids : List ByteArray} {b c : List Int} (h : IsIx ids b) (k : IsIx ids c) : b = c := by
  obtain ⟨P, p1, p2, rfl⟩ := h
  obtain ⟨Q, q1, q2, rfl⟩ := k
  rw [srt_unique P Q p2 q2 (p1.trans q1.symm)]
theorem putR_unique {ids : List ByteArray} {b c : List Int} {z y : Int} (h : PutR ids b z) (k : PutR ids c y) : b = c ∧ z = y := by
  obtain ⟨h1, h2, h3⟩ := h
  obtain ⟨k1, k2, k3⟩ := k
  have e : z = y := by rw [h1, k1]
  subst e
  refine ⟨?_, rfl⟩
  by_cases hz : z = 0
  · exact isIx_unique (h2 hz) (k2 hz)
  · rw [h3 hz, k3 hz]
end Go.Proofs.Ytonhmjodgomeiaa.Ix

/- An index's lines in memory: built, appended, sorted; the counts. No condition. -/
namespace Go.Proofs.Ytonhmjodgomeiaa.Ix
set_option linter.unusedVariables false
set_option linter.unusedSimpArgs false
open Go.RowKit Blk Dg Go.Proofs.YtonhmjodgomeiaaW.PrintWords Go.Proofs.YtonhmjodgomeiaaW.PrintLast Go.Proofs.YtonhmjodgomeiaaW.PrintMore

def zLn : List Value := (List.replicate 32 (Value.int .u8 0)) ++ [Value.int .i64 0]
theorem info_line : (Try.prog.info? 48).map (fun i => (i.zero, i.size, i.bytes)) = some (some (.agg zLn.toArray), 33, 40) := by kernel_rfl
theorem size_line : (Try.prog.info? 48).map (·.size) = some 33 := by kernel_rfl
theorem size_256 : (Try.prog.info? 43).map (·.size) = some 256 := by kernel_rfl
theorem zero_line (w : World) : (zeroValue 48).run Try.prog w = .ok (.agg zLn.toArray) w := by kernel_rfl
theorem zero_256 (w : World) : (zeroValue 43).run Try.prog w = .ok (.agg (List.replicate 256 (Value.int .i64 0)).toArray) w := by kernel_rfl
/-- Counts, as cells. -/
def cntV (K : List (List Int)) : List Value := (List.range 256).map fun c => Value.int .i64 (cntN K c)
theorem cntV_nil : cntV [] = List.replicate 256 (Value.int .i64 0) :=
  List.eq_replicate_iff.2 ⟨by rw [cntV, List.length_map, List.length_range], fun b hb => by obtain ⟨c, _, rfl⟩ := List.mem_map.1 hb; rfl⟩
theorem cntN_le (K : List (List Int)) (c : Nat) : cntN K c ≤ K.length := List.countP_le_length
/-- Counts on the way: raised from y up to q. -/
def mixV (K : List (List Int)) (y q : Nat) : List Value := (List.range 256).map fun j => Value.int .i64 ((cntN K j + if y ≤ j ∧ j < q then 1 else 0 : Nat) : Int)
theorem mixV_start (K : List (List Int)) (y : Nat) : mixV K y y = cntV K := by
  unfold mixV cntV
  refine List.map_congr_left fun j _ => ?_
  rw [if_neg (by omega)]; rfl
theorem mixV_at (K : List (List Int)) (y q : Nat) (h : y ≤ q) (hq : q < 256) : (mixV K y q)[q]? = some (.int .i64 (cntN K q : Int)) := by
  unfold mixV
  rw [List.getElem?_map, List.getElem?_range hq]
  simp
theorem mixV_set (K : List (List Int)) (y q : Nat) (h : y ≤ q) (hq : q < 256) : (mixV K y q).set q (.int .i64 ((cntN K q : Int) + 1)) = mixV K y (q + 1) := by
  apply List.ext_getElem?
  intro j
  rw [List.getElem?_set]
  unfold mixV
  by_cases hj : q = j
  · subst hj
    rw [if_pos rfl, List.length_map, List.length_range, if_pos hq, List.getElem?_map, List.getElem?_range hq, Option.map_some, if_pos ⟨h, by omega⟩]
    congr 2
  · rw [if_neg hj, List.getElem?_map, List.getElem?_map]
    by_cases hj2 : j < 256
    · rw [List.getElem?_range hj2, Option.map_some, Option.map_some]
      by_cases h1 : y ≤ j ∧ j < q
      · rw [if_pos h1, if_pos ⟨h1.1, by omega⟩]
      · rw [if_neg h1, if_neg (by omega)]
    · rw [List.getElem?_eq_none (by simpa using hj2)]; rfl
theorem mixV_end (K : List (List Int)) (k : List Int) (y : Nat) (hk : k.head? = some (y : Int)) : mixV K y 256 = cntV (K ++ [k]) := by
  unfold mixV cntV
  refine List.map_congr_left fun j hj => ?_
  have hj2 : j < 256 := List.mem_range.1 hj
  congr 1
  rw [cntN, cntN, List.countP_append, List.countP_singleton]
  have hh : k.headD 0 = (y : Int) := by cases k <;> simp_all
  rw [hh]
  by_cases h : y ≤ j
  · rw [if_pos ⟨h, hj2⟩, if_pos (by simpa using h)]
  · rw [if_neg (fun h' => h h'.1), if_neg (by simpa using h)]
def linesV (Ls : List Ln) : List Value := Ls.flatMap encLn
def lnOf (x : Ln) : List Int × Nat := (x.id, x.pl)
theorem built_line (l : List Int) (h : l.length = 32) (i : Int) : Try.prog.built 48 [(0, .agg (l.map (Value.int .u8)).toArray), (1, .int .i64 i)] = some ((l.map (Value.int .u8) ++ [Value.int .i64 i]).toArray) := by
  rcases l with _ | ⟨c0, l⟩
  · simp at h
  rcases l with _ | ⟨c1, l⟩
  · simp at h
  rcases l with _ | ⟨c2, l⟩
  · simp at h
  rcases l with _ | ⟨c3, l⟩
  · simp at h
  rcases l with _ | ⟨c4, l⟩
  · simp at h
  rcases l with _ | ⟨c5, l⟩
  · simp at h
  rcases l with _ | ⟨c6, l⟩
  · simp at h
  rcases l with _ | ⟨c7, l⟩
  · simp at h
  rcases l with _ | ⟨c8, l⟩
  · simp at h
  rcases l with _ | ⟨c9, l⟩
  · simp at h
  rcases l with _ | ⟨c10, l⟩
  · simp at h
  rcases l with _ | ⟨c11, l⟩
  · simp at h
  rcases l with _ | ⟨c12, l⟩
  · simp at h
  rcases l with _ | ⟨c13, l⟩
  · simp at h
  rcases l with _ | ⟨c14, l⟩
  · simp at h
  rcases l with _ | ⟨c15, l⟩
  · simp at h
  rcases l with _ | ⟨c16, l⟩
  · simp at h
  rcases l with _ | ⟨c17, l⟩
  · simp at h
  rcases l with _ | ⟨c18, l⟩
  · simp at h
  rcases l with _ | ⟨c19, l⟩
  · simp at h
  rcases l with _ | ⟨c20, l⟩
  · simp at h
  rcases l with _ | ⟨c21, l⟩
  · simp at h
  rcases l with _ | ⟨c22, l⟩
  · simp at h
  rcases l with _ | ⟨c23, l⟩
  · simp at h
  rcases l with _ | ⟨c24, l⟩
  · simp at h
  rcases l with _ | ⟨c25, l⟩
  · simp at h
  rcases l with _ | ⟨c26, l⟩
  · simp at h
  rcases l with _ | ⟨c27, l⟩
  · simp at h
  rcases l with _ | ⟨c28, l⟩
  · simp at h
  rcases l with _ | ⟨c29, l⟩
  · simp at h
  rcases l with _ | ⟨c30, l⟩
  · simp at h
  rcases l with _ | ⟨c31, l⟩
  · simp at h
  rcases l with _ | ⟨c32, l⟩
  · kernel_rfl
  · simp at h
theorem build_event {P : Program} {ops : Array Oper} {rest : List Oper} {o : Oper} {a : Act} {Q : Exit → Act → World → Prop} {W : World} (hgd : o.guard = none) (t : TypeId) (parts : Array (Nat × Operand)) (_ho : o.op = .build t parts) (v : Value)
    (hrun : (execOp a.eval o).run P W = .ok (.value v) W) (h : wpList P ops Q rest (a.put o.dst v) W) : wpList P ops Q (o :: rest) a W := Kd.event_run hgd hrun h
theorem build_line (x : Ln) (X L : Array Value) (i : Int) (hX : (x.id.map (Value.int .u8)).toArray = X) (hL : (encLn x).toArray = L) (hi : (x.pl : Int) = i) (W : World) :
    (Instr.build 48 #[(0, .agg X), (1, .int .i64 i)]).run Try.prog W = .ok (.agg L) W := by
  subst hX hL hi
  exact run_build W 48 _ _ (built_line x.id x.len x.pl)
theorem fill_line (l : List Int) (h : l.length = 32) (i : Int) : Instr.fill (fun i => some (i * 33, 33)) ((Array.range (1 * 33)).map ((Value.agg zLn.toArray).cells[· % (Value.agg zLn.toArray).cells.size]!)) [(0, .agg (l.map (Value.int .u8) ++ [Value.int .i64 i]).toArray)] = some ((l.map (Value.int .u8) ++ [Value.int .i64 i]).toArray) := by
  rcases l with _ | ⟨c0, l⟩
  · simp at h
  rcases l with _ | ⟨c1, l⟩
  · simp at h
  rcases l with _ | ⟨c2, l⟩
  · simp at h
  rcases l with _ | ⟨c3, l⟩
  · simp at h
  rcases l with _ | ⟨c4, l⟩
  · simp at h
  rcases l with _ | ⟨c5, l⟩
  · simp at h
  rcases l with _ | ⟨c6, l⟩
  · simp at h
  rcases l with _ | ⟨c7, l⟩
  · simp at h
  rcases l with _ | ⟨c8, l⟩
  · simp at h
  rcases l with _ | ⟨c9, l⟩
  · simp at h
  rcases l with _ | ⟨c10, l⟩
  · simp at h
  rcases l with _ | ⟨c11, l⟩
  · simp at h
  rcases l with _ | ⟨c12, l⟩
  · simp at h
  rcases l with _ | ⟨c13, l⟩
  · simp at h
  rcases l with _ | ⟨c14, l⟩
  · simp at h
  rcases l with _ | ⟨c15, l⟩
  · simp at h
  rcases l with _ | ⟨c16, l⟩
  · simp at h
  rcases l with _ | ⟨c17, l⟩
  · simp at h
  rcases l with _ | ⟨c18, l⟩
  · simp at h
  rcases l with _ | ⟨c19, l⟩
  · simp at h
  rcases l with _ | ⟨c20, l⟩
  · simp at h
  rcases l with _ | ⟨c21, l⟩
  · simp at h
  rcases l with _ | ⟨c22, l⟩
  · simp at h
  rcases l with _ | ⟨c23, l⟩
  · simp at h
  rcases l with _ | ⟨c24, l⟩
  · simp at h
  rcases l with _ | ⟨c25, l⟩
  · simp at h
  rcases l with _ | ⟨c26, l⟩
  · simp at h
  rcases l with _ | ⟨c27, l⟩
  · simp at h
  rcases l with _ | ⟨c28, l⟩
  · simp at h
  rcases l with _ | ⟨c29, l⟩
  · simp at h
  rcases l with _ | ⟨c30, l⟩
  · simp at h
  rcases l with _ | ⟨c31, l⟩
  · simp at h
  rcases l with _ | ⟨c32, l⟩
  · kernel_rfl
  · simp at h
theorem run_build1 (x : Ln) (L : Array Value) (hL : (encLn x).toArray = L) (W : World) :
    (Instr.buildSlice 42 1 #[(0, .agg L)]).run Try.prog W = .ok (.slice (some ⟨W.heap.size, 0, none⟩) 1 1) (W.alloc (.cells (encLn x).toArray 48)) := by
  subst hL
  obtain ⟨ie, hie, hz⟩ := Option.map_eq_some_iff.1 info_line
  simp only [Prod.mk.injEq] at hz
  refine run_buildSlice W 42 48 1 #[(0, .agg (encLn x).toArray)] (encLn x).toArray ie _ Try.underlying42 hie hz.1 (by rw [hz.2.1]; decide) (by rw [hz.2.1]; decide) ?_
  rw [hz.2.1]
  exact fill_line x.id x.len x.pl
theorem bs_event {P : Program} {ops : Array Oper} {rest : List Oper} {o : Oper} {a : Act} {Q : Exit → Act → World → Prop} {W : World} (hgd : o.guard = none) (t : TypeId) (n : Nat) (parts : Array (Nat × Operand)) (_ho : o.op = .buildSlice t n parts) (v : Value) (w1 : World)
    (hrun : (execOp a.eval o).run P W = .ok (.value v) w1) (h : wpList P ops Q rest (a.put o.dst v) w1) : wpList P ops Q (o :: rest) a W := Kd.event_run hgd hrun h
theorem keys_snoc (ids : List ByteArray) (i : Nat) (s : ByteArray) (x : Ln) (Ls : List Ln) (hs : ids[i]? = some s) (hx : rawL s = x.id) (hp : x.pl = i) (h : Ls.map lnOf = (keysOf ids).take i) : (Ls ++ [x]).map lnOf = (keysOf ids).take (i + 1) := by
  have hi : i < ids.length := (List.getElem?_eq_some_iff.1 hs).1
  have hk := keysOf_at ids i hi
  have he : ids[i] = s := (List.getElem?_eq_some_iff.1 hs).2
  rw [he] at hk
  rw [List.take_add_one, hk, List.map_append, h]
  simp [lnOf, hx, hp]
theorem named_snoc (ids : List ByteArray) (i : Nat) (s : ByteArray) (hs : ids[i]? = some s) (hn : namedL (bytesOf s) = true) (h : (ids.take i).all (fun s => namedL (bytesOf s)) = true) : (ids.take (i + 1)).all (fun s => namedL (bytesOf s)) = true := by
  rw [List.take_add_one, hs, List.all_append, h]
  simp [hn]
end Go.Proofs.Ytonhmjodgomeiaa.Ix

/- slices.SortFunc over an index's own lines: the same lines, none less than one ahead. No condition but their number. -/
namespace Go.Proofs.Ytonhmjodgomeiaa.Ix
set_option linter.unusedVariables false
set_option linter.unusedSimpArgs false
open Go.Shelf Go.Lib Go.Sort
open Go.RowKit Blk Dg Go.Proofs.YtonhmjodgomeiaaW.PrintWords Go.Proofs.YtonhmjodgomeiaaW.PrintLast Go.Proofs.YtonhmjodgomeiaaW.PrintMore

theorem linesV_len (Ls : List Ln) : (linesV Ls).length = Ls.length * 33 := by
  induction Ls with
  | nil => rfl
  | cons x r ih => rw [linesV, List.flatMap_cons, ← linesV, List.length_append, ih, encLn_len, List.length_cons]; omega
theorem linesV_at : ∀ (Ls : List Ln) (t : Nat), t < Ls.length * 33 → (linesV Ls)[t]? = some ((encLn (Ls[t / 33]!))[t % 33]!)
  | [], t, h => by simp at h
  | x :: r, t, h => by
    rw [List.length_cons] at h
    rw [linesV, List.flatMap_cons, ← linesV]
    by_cases ht : t < 33
    · have hl : t < (encLn x).length := by rw [encLn_len]; exact ht
      rw [List.getElem?_append_left hl, show t / 33 = 0 by omega, show t % 33 = t by omega, List.getElem!_cons_zero, List.getElem?_eq_getElem hl, getElem!_pos (encLn x) t hl]
    · rw [List.getElem?_append_right (by rw [encLn_len]; omega), encLn_len, linesV_at r (t - 33) (by omega), show t / 33 = (t - 33) / 33 + 1 by omega, show t % 33 = (t - 33) % 33 by omega, List.getElem!_cons_succ]
theorem flat_lines (d : Array Ln) : (flatK encLn 33 d).toList = linesV d.toList := by
  apply List.ext_getElem?
  intro t
  by_cases ht : t < d.size * 33
  · rw [linesV_at d.toList t (by simpa using ht)]
    have hs : t < (flatK encLn 33 d).size := by rw [size_flatK]; exact ht
    have := get_flatK encLn 33 d t ht
    rw [getElem!_pos _ t hs] at this
    have hd : t / 33 < d.size := by omega
    have hd2 : d.toList[t / 33]! = d[t / 33]! := by
      rw [getElem!_pos d.toList (t / 33) (by simpa using hd), getElem!_pos d (t / 33) hd]; rfl
    rw [Array.getElem?_toList, Array.getElem?_eq_getElem hs, this, hd2]
  · rw [List.getElem?_eq_none (by simpa using ht), List.getElem?_eq_none (by rw [linesV_len]; simpa using ht)]
theorem putCells_take (F cur : Array Value) (h : F.size ≤ cur.size) : (putCells id 0 F cur).toList.take F.size = F.toList := by
  apply List.ext_getElem?
  intro t
  by_cases ht : t < F.size
  · rw [List.getElem?_take_of_lt ht, Array.getElem?_toList, Array.getElem?_toList, putCells, Array.getElem?_mapIdx, Array.getElem?_eq_getElem (show t < cur.size by omega), Array.getElem?_eq_getElem ht]
    simp only [Option.map_some, Nat.zero_add, Nat.zero_le, true_and, Nat.sub_zero, id]
    rw [if_pos ht, getElem!_pos F t ht]
  · rw [List.getElem?_eq_none (by simp; omega), List.getElem?_eq_none (by simpa using ht)]
theorem sort_calls (v : Value) (n base : Nat) (Ls : List Ln) (W : World) (hO : W.ownsRow base 48 33 v n (linesV Ls)) (hl : Ls.length = n) (hn : n ≤ 512) :
    Calls Try.prog 24 #[v, .func (.func 25) #[] #[]] W fun e w' => e = .returned (.tuple #[]) ∧ ∃ Ms : List Ln, Ms.Perm Ls ∧ Ms.Pairwise (fun x y => ¬ cmpL y.id x.id < 0) ∧
      w'.ownsRow base 48 33 v n (linesV Ms) ∧ W.grownBy w' v.ownBlock := by
  rcases hO.2 with ⟨rfl, h0⟩ | ⟨g, cap, cur, rfl, hbg, hh, hnc, hcm, hcs, htk⟩
  · subst h0
    have hL : Ls = [] := List.eq_nil_of_length_eq_zero hl
    subst hL
    refine (Go.Proofs.AnyF.slices_SortFunc_none Try.sortLine none 0 _ W).mono ?_
    rintro e w' ⟨rfl, rfl⟩
    exact ⟨rfl, [], List.Perm.refl _, List.Pairwise.nil, hO, ⟨rfl, rfl, rfl, Nat.le_refl _, fun _ _ _ => rfl⟩⟩
  · have hF := flat_lines Ls.toArray
    have hFs : (flatK encLn 33 Ls.toArray).size = n * 33 := by rw [size_flatK]; simp [hl]
    have hnk : n * 33 ≤ cur.size := by rw [hcs]; exact Nat.mul_le_mul_right _ hnc
    have hH : HoldsK encLn 33 W g 0 Ls.toArray := by
      intro j hj
      rw [hFs] at hj
      refine ⟨?_, by simp [World.frozen?, hh]⟩
      have hjc : j < cur.size := by omega
      have e : (flatK encLn 33 Ls.toArray)[j]! = cur[j] := by
        rw [getElem!_pos _ j (by rw [hFs]; exact hj)]
        have h1 : (flatK encLn 33 Ls.toArray).toList[j]? = (cur.toList.take (n * 33))[j]? := by rw [hF, htk]
        rw [List.getElem?_take_of_lt hj, Array.getElem?_toList, Array.getElem?_toList, Array.getElem?_eq_getElem hjc, Array.getElem?_eq_getElem (by rw [hFs]; exact hj)] at h1
        exact Option.some.inj h1
      rw [Nat.zero_add, e]
      simp [World.cell?, hh, hjc]
    have hblk : g < W.heap.size := (Array.getElem?_eq_some_iff.1 hh).1
    have hc := Go.Proofs.AnyQ.slices_SortFunc Try.sortLine 33 Try.isAgg48 Try.sizeOf48 encLn encLn_len encLn_one cfL swoL 25 #[] g 0 cap Ls.toArray W
      (fun args w => enters_of Try.func25 (by kernel_rfl) rfl args w) (cmp_lays g 0 _ W) hH hblk (by simp [hl]; omega)
    rw [show Ls.toArray.size = n by simp [hl]] at hc
    refine hc.mono ?_
    rintro e w' ⟨rfl, d', k, os, hp, hs, rfl⟩
    have hds : d'.size = n := by rw [hp.1]; simp [hl]
    have hFs' : (flatK encLn 33 d').size = n * 33 := by rw [size_flatK, hds]
    refine ⟨rfl, d'.toList, ?_, ?_, ⟨by rw [linesV_len]; simp [hds], .inr ⟨g, cap, putCells id 0 (flatK encLn 33 d') cur, rfl, hbg, ?_, hnc, hcm, by rw [putCells, Array.size_mapIdx, hcs], ?_⟩⟩, ⟨rfl, rfl, rfl, ?_, ?_⟩⟩
    · have := hp.2.2
      rw [← hds, Array.extract_size] at this
      rw [hds, show n = Ls.toArray.size by simp [hl], Array.extract_size] at this
      exact this
    · rw [List.pairwise_iff_getElem]
      intro i j hi hj hij
      have hi' : i < d'.size := by simpa using hi
      have hj' : j < d'.size := by simpa using hj
      have := hs i j (Nat.zero_le _) hij (by omega)
      rw [getElem!_pos d' j hj', getElem!_pos d' i hi'] at this
      exact of_decide_eq_false this
    · show ((W.heap.modify g (onCells (putCells id 0 (flatK encLn 33 d')))) ++ os)[g]? = _
      rw [Array.getElem?_append_left (by simpa using hblk), Array.getElem?_modify, if_pos rfl, hh]
      rfl
    · rw [← flat_lines, ← hFs']
      exact putCells_take _ _ (by rw [hFs']; exact hnk)
    · show W.heap.size ≤ ((W.heap.modify g (onCells (putCells id 0 (flatK encLn 33 d')))) ++ os).size
      simp
    · intro q hq hne
      show ((W.heap.modify g (onCells (putCells id 0 (flatK encLn 33 d')))) ++ os)[q]? = _
      rw [Array.getElem?_append_left (by simpa using hq), Array.getElem?_modify, if_neg (fun h => hne (by rw [← h]; rfl))]
/-- A line lies in its row. -/
theorem line_range (W : World) (g n q : Nat) (cur : Array Value) (Ms : List Ln) (x : Ln) (hh : W.heap[g]? = some (.cells cur 48 (0, 0))) (htk : cur.toList.take (n * 33) = linesV Ms) (hl : Ms.length = n) (hx : Ms[q]? = some x) : W.rangeAt g (q * 33) (encLn x) := by
  intro j v hv
  have hq : q < n := by rw [← hl]; exact (List.getElem?_eq_some_iff.1 hx).1
  have hj : j < 33 := by rw [← encLn_len x]; exact (List.getElem?_eq_some_iff.1 hv).1
  have ht : q * 33 + j < n * 33 := by omega
  have h1 := linesV_at Ms (q * 33 + j) (by rw [hl]; exact ht)
  rw [show (q * 33 + j) / 33 = q by omega, show (q * 33 + j) % 33 = j by omega] at h1
  have e1 : Ms[q]! = x := by
    rw [getElem!_pos Ms q (by rw [hl]; exact hq)]
    exact (List.getElem?_eq_some_iff.1 hx).2
  have e2 : (encLn x)[j]! = v := by
    rw [getElem!_pos (encLn x) j (by rw [encLn_len]; exact hj)]
    exact (List.getElem?_eq_some_iff.1 hv).2
  rw [e1, e2, ← htk, List.getElem?_take_of_lt ht, Array.getElem?_toList] at h1
  simp [World.cell?, hh, h1]
theorem id_range (W : World) (g o : Nat) (x : Ln) (h : W.rangeAt g o (encLn x)) : W.rangeAt g o (x.id.map (Value.int .u8)) := by
  intro j v hv
  have hj : j < (x.id.map (Value.int .u8)).length := (List.getElem?_eq_some_iff.1 hv).1
  exact h j v (by rw [encLn, List.getElem?_append_left hj]; exact hv)
theorem strict_snoc (Ms : List Ln) (q : Nat) (x y : Ln) (hs : Ms.Pairwise (fun a b => ¬ cmpL b.id a.id < 0)) (hq : (Ms.take (q + 1)).Pairwise (fun a b => cmpL a.id b.id < 0)) (hx : Ms[q]? = some x) (hy : Ms[q + 1]? = some y) (hne : x.id ≠ y.id) :
    (Ms.take (q + 2)).Pairwise (fun a b => cmpL a.id b.id < 0) := by
  have hyl : q + 1 < Ms.length := (List.getElem?_eq_some_iff.1 hy).1
  have hle : ∀ p, p ≤ q → ∀ z, Ms[p]? = some z → cmpL z.id y.id ≤ 0 := by
    intro p hp z hz
    have h := (List.pairwise_iff_getElem.1 hs) p (q + 1) (by omega) hyl (by omega)
    rw [(List.getElem?_eq_some_iff.1 hz).2, (List.getElem?_eq_some_iff.1 hy).2] at h
    have := cmpL_neg z.id y.id
    omega
  have hxy : cmpL x.id y.id < 0 := by
    have h1 := hle q (Nat.le_refl _) x hx
    have h2 : cmpL x.id y.id ≠ 0 := fun h => hne ((cmpL_eq _ _).1 h)
    omega
  rw [List.take_add_one, hy, List.pairwise_append]
  refine ⟨hq, by simp, ?_⟩
  intro z hz y' hy'
  obtain rfl : y' = y := by simpa using hy'
  obtain ⟨p, hp, hzp⟩ := List.getElem_of_mem hz
  have hpl : p < q + 1 := by rw [List.length_take] at hp; omega
  have hzp2 : Ms[p]? = some z := by
    rw [← hzp, List.getElem_take]
    exact List.getElem?_eq_getElem _
  by_cases he : p = q
  · subst he
    rw [hx] at hzp2
    rw [← Option.some.inj hzp2]; exact hxy
  · have h := (List.pairwise_iff_getElem.1 hq) p q (by rw [List.length_take]; omega) (by rw [List.length_take]; omega) (by omega)
    rw [List.getElem_take, List.getElem_take, (List.getElem?_eq_some_iff.1 hzp2).2, (List.getElem?_eq_some_iff.1 hx).2] at h
    exact cmpL_trans _ _ _ h hxy
end Go.Proofs.Ytonhmjodgomeiaa.Ix
