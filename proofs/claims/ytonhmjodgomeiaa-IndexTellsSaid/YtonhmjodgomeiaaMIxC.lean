/- Joined texts: IxFindP, IxFind, IxBackP, IxText, IxSha3, IxHeadP, IxHead. No condition but what stands in each. -/
import Derived.Test.YtonhmjodgomeiaaMIxB
import Derived.Test.YtonhmjodgomeiaaMDigB
import Derived.Lib.SlBytesConst
/- How a name is found in an index, plainly. No condition. -/
namespace Go.Proofs.Ytonhmjodgomeiaa.Ix
set_option linter.unusedVariables false
set_option linter.unusedSimpArgs false
open Go.RowKit Blk Dg Go.Proofs.YtonhmjodgomeiaaW.PrintWords Go.Proofs.YtonhmjodgomeiaaW.PrintLast Go.Proofs.YtonhmjodgomeiaaW.PrintMore

theorem fan_drop (K : List (List Int)) (c : Nat) (hc : c < 256) : ∃ r, (fanL K).drop (2 * c) = twoI (cntN K c) ++ r := by
  have h1 : List.range 256 = List.range c ++ (c :: List.range' (c + 1) (255 - c)) := by
    rw [List.range_eq_range', List.range_eq_range', show 256 = c + (255 - c + 1) by omega, ← List.range'_append_1, Nat.zero_add, List.range'_succ]
  refine ⟨(List.range' (c + 1) (255 - c)).flatMap fun j => twoI (cntN K j), ?_⟩
  rw [fanL, h1, List.flatMap_append, List.drop_append_of_le_length (by rw [fan_len]; exact Nat.le_refl _), List.drop_of_length_le (by rw [fan_len]; exact Nat.le_refl _), List.nil_append, List.flatMap_cons]
theorem num_two (m : Nat) (r : List Int) (h : m < 65536) : numL (twoI m ++ r) = m := by
  simp only [numL, twoI, List.cons_append, List.nil_append, List.getD_cons_zero, List.getD_cons_succ, Int.toNat_natCast]
  omega
theorem cnt_le (K : List (List Int)) (c : Nat) : cntN K c ≤ K.length := cntN_le K c
theorem rowsL_len' (P : List (List Int × Nat)) (h : ∀ p ∈ P, p.1.length = 32) : (rowsL P).length = 34 * P.length := by
  induction P with
  | nil => rfl
  | cons x r ih =>
    rw [rowsL, List.flatMap_cons, ← rowsL, List.length_append, ih (fun p hp => h p (List.mem_cons_of_mem _ hp)), List.length_append, h x List.mem_cons_self]
    simp [twoI]; omega
theorem rows_drop (P : List (List Int × Nat)) (h : ∀ p ∈ P, p.1.length = 32) (m : Nat) (p : List Int × Nat) (hp : P[m]? = some p) : ∃ r, (rowsL P).drop (34 * m) = p.1 ++ (twoI p.2 ++ r) := by
  have hm : m < P.length := (List.getElem?_eq_some_iff.1 hp).1
  have h1 : P = P.take m ++ (p :: P.drop (m + 1)) := by
    have := List.take_append_drop m P
    rw [List.drop_eq_getElem_cons hm, (List.getElem?_eq_some_iff.1 hp).2] at this
    exact this.symm
  have h2 : (rowsL (P.take m)).length = 34 * m := by
    rw [rowsL_len' _ (fun q hq => h q (List.mem_of_mem_take hq)), List.length_take]; omega
  refine ⟨rowsL (P.drop (m + 1)), ?_⟩
  have h3 : rowsL P = rowsL (P.take m) ++ (p.1 ++ (twoI p.2 ++ rowsL (P.drop (m + 1)))) := by
    conv => lhs; rw [h1]
    rw [rowsL, List.flatMap_append, List.flatMap_cons, ← rowsL, ← rowsL, List.append_assoc]
  rw [h3, List.drop_append_of_le_length (by omega), List.drop_of_length_le (by omega), List.nil_append]
/-- What an index is made of, by its bytes. -/
theorem right_parts {b : List Int} (h : rightB b = true) : ∃ (ids : List ByteArray) (P : List (List Int × Nat)), idsOf b = some ids ∧ putE ids = 0 ∧ P.Perm (keysOf ids) ∧ Srt P ∧ (∀ p ∈ P, p.1.length = 32 ∧ ∀ x ∈ p.1, 0 ≤ x ∧ x < 256) ∧
    (∀ c, c < 256 → numL (b.drop (2 * c)) = cntN (ids.map rawL) c) ∧ midL b = rowsL P ∧ (b.length - 544) / 34 = P.length ∧ b.length = 544 + 34 * P.length := by
  obtain ⟨ids, h1, h2⟩ := (rightB_iff b).1 h
  have he := putE_0 h2.1.symm
  obtain ⟨P, p1, p2, p3⟩ := h2.2.1 rfl
  have hP : ∀ p ∈ P, p.1.length = 32 ∧ ∀ x ∈ p.1, 0 ≤ x ∧ x < 256 := by
    intro p hp
    obtain ⟨q, hq, rfl⟩ := List.mem_map.1 (p1.subset hp)
    have h3 := List.mem_zipIdx hq
    have hm : q.1 ∈ ids := by rw [h3.2.2]; exact List.getElem_mem _
    have hn := List.all_eq_true.1 he.2.1 q.1 hm
    exact ⟨rawL_len hn, rawL_8 hn⟩
  have hl := rowsL_len' P (fun p hp => (hP p hp).1)
  have hfl := fanL_len (ids.map rawL)
  have hs := shaL_len (bodyL (ids.map rawL) P)
  have hbl : (bodyL (ids.map rawL) P).length = 512 + 34 * P.length := by rw [bodyL, List.length_append, hfl, hl]
  have hb : b.length = 544 + 34 * P.length := by rw [p3, List.length_append, hbl, hs]; omega
  refine ⟨ids, P, h1, h2.1.symm, p1, p2, hP, ?_, ?_, by omega, hb⟩
  · intro c hc
    obtain ⟨r, hr⟩ := fan_drop (ids.map rawL) c hc
    have hle : 2 * c ≤ (fanL (ids.map rawL)).length := by rw [hfl]; omega
    rw [p3, bodyL, List.append_assoc, List.drop_append_of_le_length hle, hr, List.append_assoc]
    refine num_two _ _ ?_
    have := cnt_le (ids.map rawL) c
    rw [List.length_map] at this
    have := he.1
    omega
  · rw [midL, hb, p3, show 544 + 34 * P.length - 32 = (bodyL (ids.map rawL) P).length by omega, List.take_append_of_le_length (Nat.le_refl _), List.take_length, bodyL, List.drop_append_of_le_length (by rw [hfl]; exact Nat.le_refl _), List.drop_of_length_le (by rw [hfl]; exact Nat.le_refl _), List.nil_append]
/-- The place of a name. -/
noncomputable def findL (b : List Int) (s : ByteArray) : Option Nat := by
  classical exact if rightB b = true then ((idsOf b).getD []).findIdx? (fun t => decide (t = s)) else none
theorem rawL_inj {s t : ByteArray} (hs : namedL (bytesOf s) = true) (ht : namedL (bytesOf t) = true) (h : rawL s = rawL t) : s = t := by
  have e : ∀ u : ByteArray, namedL (bytesOf u) = true → nameL (rawL u) = bytesOf u := fun u hu =>
    name_raw _ ((named_iff _).1 hu).2 (by rw [((named_iff _).1 hu).1])
  rw [str_inj, ← e s hs, ← e t ht, h]
theorem find_no {b : List Int} {s : ByteArray} (h : rightB b = false) : findL b s = none := by
  unfold findL; rw [if_neg (by rw [h]; decide)]
theorem find_bad {b : List Int} {s : ByteArray} (h : namedL (bytesOf s) = false) : findL b s = none := by
  unfold findL
  by_cases hr : rightB b = true
  · rw [if_pos hr]
    obtain ⟨ids, P, h1, h2, _⟩ := right_parts hr
    rw [h1, Option.getD_some, List.findIdx?_eq_none_iff]
    intro t ht
    have := List.all_eq_true.1 (putE_0 h2).2.1 t ht
    refine decide_eq_false (fun e => ?_)
    subst e
    rw [h] at this; cases this
  · rw [if_neg hr]
theorem key_mem {ids : List ByteArray} {p : List Int × Nat} (h : p ∈ keysOf ids) : ∃ t, ids[p.2]? = some t ∧ p.1 = rawL t := by
  obtain ⟨q, hq, rfl⟩ := List.mem_map.1 h
  have h3 := List.mem_zipIdx hq
  refine ⟨q.1, ?_, rfl⟩
  have hl : q.2 < ids.length := by omega
  rw [List.getElem?_eq_getElem hl]
  congr 1
  simpa using h3.2.2.symm
theorem find_hit {b : List Int} {s : ByteArray} {ids : List ByteArray} {P : List (List Int × Nat)} {p : List Int × Nat} (hr : rightB b = true) (h1 : idsOf b = some ids) (h2 : putE ids = 0) (h3 : P.Perm (keysOf ids)) (hn : namedL (bytesOf s) = true) (hp : p ∈ P) (he : p.1 = rawL s) : findL b s = some p.2 := by
  unfold findL
  rw [if_pos hr, h1, Option.getD_some]
  obtain ⟨t, ht, hpt⟩ := key_mem (h3.subset hp)
  have h0 := putE_0 h2
  have hnt := List.all_eq_true.1 h0.2.1 t (List.mem_of_getElem? ht)
  have hts : t = s := rawL_inj hnt hn (by rw [← hpt, he])
  have hl : p.2 < ids.length := (List.getElem?_eq_some_iff.1 ht).1
  have hg : ids[p.2] = t := (List.getElem?_eq_some_iff.1 ht).2
  rw [List.findIdx?_eq_some_iff_getElem]
  refine ⟨hl, by rw [hg, hts]; simp, fun j hj => ?_⟩
  have hnd := h0.2.2
  rw [List.nodup_iff_pairwise_ne, List.pairwise_iff_getElem] at hnd
  have := hnd j p.2 (by rw [List.length_map]; omega) (by rw [List.length_map]; exact hl) hj
  rw [List.getElem_map, List.getElem_map, hg, hts] at this
  simp only [decide_eq_true_iff]
  exact fun e => this (by rw [e])
theorem find_miss {b : List Int} {s : ByteArray} {ids : List ByteArray} {P : List (List Int × Nat)} (hr : rightB b = true) (h1 : idsOf b = some ids) (h3 : P.Perm (keysOf ids)) (hno : ∀ p ∈ P, p.1 ≠ rawL s) : findL b s = none := by
  unfold findL
  rw [if_pos hr, h1, Option.getD_some, List.findIdx?_eq_none_iff]
  intro t ht
  refine decide_eq_false (fun e => ?_)
  subst e
  obtain ⟨k, hk, hkt⟩ := List.getElem_of_mem ht
  have hmem : (rawL t, k) ∈ keysOf ids := by
    have := keysOf_at ids k hk
    rw [hkt] at this
    exact List.mem_of_getElem? this
  exact hno _ (h3.symm.subset hmem) rfl
theorem head_le {a b : List Int} (ha : a.length = 32) (hb : b.length = 32) (h : cmpL a b < 0) : a.headD 0 ≤ b.headD 0 := by
  rcases a with _ | ⟨x, r⟩
  · simp at ha
  · rcases b with _ | ⟨y, s⟩
    · simp at hb
    · rw [cmpL] at h
      simp only [List.headD_cons]
      by_cases h1 : x < y
      · omega
      · rw [if_neg h1] at h
        by_cases h2 : y < x
        · rw [if_pos h2] at h; omega
        · omega
theorem head_lt {a b : List Int} (ha : a.length = 32) (hb : b.length = 32) (h : a.headD 0 < b.headD 0) : cmpL a b < 0 := by
  rcases a with _ | ⟨x, r⟩
  · simp at ha
  · rcases b with _ | ⟨y, s⟩
    · simp at hb
    · simp only [List.headD_cons] at h
      rw [cmpL, if_pos h]; decide
theorem cnt_at (c : Nat) : ∀ (P : List (List Int × Nat)), Srt P → (∀ p ∈ P, p.1.length = 32) → ∀ (j : Nat) (p : List Int × Nat), P[j]? = some p → (j < cntN (P.map Prod.fst) c ↔ p.1.headD 0 ≤ (c : Int))
  | [], _, _, j, p, h => by simp at h
  | x :: r, hs, hl, j, p, h => by
    have hx := (List.pairwise_cons.1 hs).1
    have hr := (List.pairwise_cons.1 hs).2
    have ih := cnt_at c r hr (fun q hq => hl q (List.mem_cons_of_mem _ hq))
    have hc : cntN ((x :: r).map Prod.fst) c = cntN (r.map Prod.fst) c + if x.1.headD 0 ≤ (c : Int) then 1 else 0 := by
      rw [List.map_cons, cntN, List.countP_cons, ← cntN]
      simp
    have hz : ¬ x.1.headD 0 ≤ (c : Int) → cntN (r.map Prod.fst) c = 0 := by
      intro hn
      rw [cntN, List.countP_eq_zero]
      intro k hk
      obtain ⟨q, hq, rfl⟩ := List.mem_map.1 hk
      have := head_le (hl x List.mem_cons_self) (hl q (List.mem_cons_of_mem _ hq)) (hx q hq)
      simp only [decide_eq_true_iff]
      omega
    rw [hc]
    rcases j with _ | j
    · obtain rfl : x = p := by simpa using h
      by_cases hn : x.1.headD 0 ≤ (c : Int)
      · rw [if_pos hn]; constructor <;> intro <;> omega
      · rw [if_neg hn, hz hn]; constructor <;> intro <;> omega
    · have hj : r[j]? = some p := by simpa using h
      have := ih j p hj
      by_cases hn : x.1.headD 0 ≤ (c : Int)
      · rw [if_pos hn]; omega
      · have h1 := hz hn
        have h2 := head_le (hl x List.mem_cons_self) (hl p (List.mem_cons_of_mem _ (List.mem_of_getElem? hj))) (hx p (List.mem_of_getElem? hj))
        rw [if_neg hn, h1]
        constructor <;> intro <;> omega
theorem cnt_perm {ids : List ByteArray} {P : List (List Int × Nat)} (h : P.Perm (keysOf ids)) (c : Nat) : cntN (ids.map rawL) c = cntN (P.map Prod.fst) c := by
  rw [← keysOf_fst, cntN, cntN]
  exact ((h.map Prod.fst).countP_eq _).symm
end Go.Proofs.Ytonhmjodgomeiaa.Ix

/- index.Find: the place of a name. No condition but the bytes' number and the text's length. -/
namespace Go.Proofs.Ytonhmjodgomeiaa.Ix
set_option linter.unusedVariables false
set_option linter.unusedSimpArgs false
open Go.RowKit Blk Dg Go.Proofs.YtonhmjodgomeiaaW.PrintWords Go.Proofs.YtonhmjodgomeiaaW.PrintLast Go.Proofs.YtonhmjodgomeiaaW.PrintMore

set_option maxHeartbeats 4000000 in
set_option maxRecDepth 100000 in
theorem find_calls (A : Option Addr) (c n : Nat) (b : List Int) (s : ByteArray) (w : World) (hC : (Kd.int .u8).C w A n b) (hn : b.length = n) (hc : n ≤ c) (hz : n ≤ 1073741824) (h8 : ∀ x ∈ b, 0 ≤ x ∧ x < 256) (hs : s.size ≤ 4611686018427387904) :
    Calls Try.prog 13 #[.slice A n c, .string s] w fun e w' => e = .returned (.tuple #[.int .i64 ((findL b s).getD 0 : Nat), .bool (findL b s).isSome]) ∧ Below w.heap.size w w' := by
  have hnc := fun W => named_calls s W hs
  by_cases hnm : namedL (bytesOf s) = true
  · rw [hnm] at hnc
    have hrc := fun W hW => right_calls A c n b W hW hn hc hz h8
    by_cases hr : rightB b = true
    · rw [hr] at hrc
      obtain ⟨ids, P, p1, p2, p3, p4, p5, p6, p7, p8, p9⟩ := right_parts hr
      obtain ⟨A1, n1, c1, L1, hL1, hl1, hc1, hC1, hrows⟩ := rows_yes A c n b hn hc hz (by rw [← hn]; exact right_ok hr)
      have hn1 : n1 = 34 * P.length := by
        rw [← hl1, ← hL1, midL, List.length_drop, List.length_take, hn]; omega
      subst hn1
      obtain ⟨F, hF⟩ : ∃ F, findL b s = F := ⟨_, rfl⟩
      have hPl : P.length ≤ 512 := by
        have := (putE_0 p2).1
        rw [p3.length_eq, keysOf_len]; exact this
      have hkl := rawL_len hnm
      have hk8 := rawL_8 hnm
      have hrw := fun W => raw_calls s W hnm
      obtain ⟨key, hkey⟩ : ∃ key, rawL s = key := ⟨_, rfl⟩
      rw [hkey] at hkl hk8 hrw
      obtain ⟨y, kr, hyk, hy8⟩ : ∃ (y : Nat) (kr : List Int), key = (y : Int) :: kr ∧ y < 256 := by
        rcases key with _ | ⟨z, kr⟩
        · simp at hkl
        · have := hk8 z List.mem_cons_self
          exact ⟨z.toNat, kr, by congr 1; omega, by omega⟩
      have hNC := As.mk hnc
      have HRC := As.mk hrc
      have HRW := As.mk hrw
      have HF := As.mk hF
      have HC := As.mk hC
      have HN := As.mk hn
      have H8 := As.mk h8
      rw [hF]
      clear hnc hrc hrw hF hC hn h8
      go_enter Try.func13, Try.ntmps13
      go_wp2_with (fail)
      refine (hNC.out _).mono ?_
      rintro e w1 ⟨rfl, k1⟩
      have HB1 := As.mk k1
      clear k1 hNC
      go_wp2_with (fail)
      refine (HRC.out _ (Kd.C_below HC.out HB1.out)).mono ?_
      rintro e w2 ⟨rfl, k2⟩
      have HB2 : As (Below w.heap.size w w2) := ⟨HB1.out.trans (k2.mono HB1.out.size)⟩
      clear k2 HRC HB1
      go_wp2_with (fail)
      refine (HRW.out _).mono ?_
      rintro e w3 ⟨rfl, k3⟩
      have HB3 : As (Below w.heap.size w w3) := ⟨HB2.out.trans (k3.mono HB2.out.size)⟩
      clear k3 HRW HB2
      have hz32 := zero_32
      obtain ⟨KX, hKX⟩ : ∃ KX, (key.map (Value.int .u8)).toArray = KX := ⟨_, rfl⟩
      rw [hKX]
      obtain ⟨Z3, hZ3⟩ : ∃ Z3, Z32 = Z3 := ⟨_, rfl⟩
      rw [hZ3] at hz32
      obtain ⟨xb, hxb⟩ : ∃ xb, w3.heap.size = xb := ⟨_, rfl⟩
      obtain ⟨we, hwe⟩ : ∃ we, (w3.alloc (.cells Z3 45)).setRow xb KX = we := ⟨_, rfl⟩
      have HZr : As ((w3.alloc (.cells Z3 45)).heap[xb]? = some (.cells Z3 45 (0, 0))) := ⟨by
        have := Row.new w3 (List.replicate 32 (.int .u8 0)) 45
        unfold Row at this
        rw [hxb] at this
        rw [← hZ3]; exact this⟩
      have HZs : As (Z3.size = 32) := ⟨by rw [← hZ3]; rfl⟩
      have HSs : As (KX.size = 32) := ⟨by rw [← hKX]; simp [hkl]⟩
      have HS1 : As (KX.all (·.oneCell') = true) := ⟨by rw [← hKX]; exact all_u8 _⟩
      have hwg : w.heap.size ≤ xb := by rw [← hxb]; exact HB3.out.size
      have hrow : we.heap[xb]? = some (.cells KX 45 (0, 0)) := by rw [← hwe]; exact setRow_heap _ _ _ _ _ _ HZr.out
      have HCk : As ((Kd.int .u8).C we (some ⟨w3.heap.size, 0, none⟩) 32 key) := ⟨by
        rw [hxb]
        exact C_row we xb key 32 (0, 0) (by rw [hKX]; exact hrow) hkl (by decide)⟩
      have hck : we.cell? ⟨w3.heap.size, 0, none⟩ = some (.int .u8 (y : Int)) := by
        rw [hxb]
        have : KX[0]? = some (.int .u8 (y : Int)) := by rw [← hKX, hyk]; simp
        simp [World.cell?, hrow, this]
      have HBe : As (Below w.heap.size w we) := ⟨by rw [← hwe]; exact below_setRow (HB3.out.alloc HB3.out.size _) hwg _⟩
      have HXB := As.mk hxb
      have HWE := As.mk hwe
      have HCb := As.mk (Kd.C_below HC.out HBe.out)
      have HC1e := As.mk (Kd.C_below (hC1 w HC.out) HBe.out)
      obtain ⟨Ad, nd, cd, Ld, hLd, hld, hcd, hsd, hCd⟩ := slice_drop .i64 A n c b (2 * (y : Int)) (by omega) HN.out (by have := HN.out; omega) hc
      rw [show (2 * (y : Int)).toNat = 2 * y by omega] at hLd
      have hnd : 2 ≤ nd := by have := HN.out; rw [← hld, ← hLd, List.length_drop]; omega
      have hLdn : numL Ld = cntN (ids.map rawL) y := by rw [← hLd]; exact p6 y hy8
      have hLd8 : ∀ x ∈ Ld, 0 ≤ x ∧ x < 256 := fun x hx => H8.out x (by rw [← hLd] at hx; exact List.mem_of_mem_drop hx)
      obtain ⟨hi, hhi⟩ : ∃ hi, cntN (ids.map rawL) y = hi := ⟨_, rfl⟩
      have hncl := fun W hW => number_calls Ad cd nd Ld W hW hld hnd hcd hLd8
      rw [hLdn, hhi] at hncl
      have HNC2 := As.mk hncl
      have HCd := As.mk (hCd we HCb.out)
      have hhl : hi ≤ P.length := by
        rw [← hhi, cnt_perm p3]
        have := cnt_le (P.map Prod.fst) y
        rwa [List.length_map] at this
      have hP32 : ∀ p ∈ P, p.1.length = 32 := fun p hp => (p5 p hp).1
      have HH : As (∀ j p, P[j]? = some p → hi ≤ j → cmpL key p.1 < 0) := ⟨fun j p hj hle => by
        have h1 := cnt_at y P p4 hP32 j p hj
        rw [← cnt_perm p3, hhi] at h1
        exact head_lt hkl (hP32 p (List.mem_of_getElem? hj)) (by rw [hyk, List.headD_cons]; omega)⟩
      have HYK := As.mk hyk
      clear hyk
      clear hKX hZ3 hxb hwe hrow HB3 hncl hLd hld hLdn hLd8 hCd hhi hnd hcd
      go_wp2_with (first
        | (refine wpList_store_row rfl 45 (.tmp 6) (.tmp 24) rfl xb KX (by rw [← HXB.out]; rfl) rfl 45 Z3 HZr.out (by rw [info_32, HSs.out]) (by rw [HZs.out, HSs.out]) HS1.out ?_; rw [HWE.out])
        | fail)
      clear hck hz32
      refine (HNC2.out _ HCd.out).mono ?_
      rintro e w4 ⟨rfl, k4⟩
      have HB4 := As.mk k4
      clear k4 HNC2 HCd
      rcases y with _ | y
      · have hlol : 0 ≤ 512 := by decide
        have HLo : As (∀ j p, P[j]? = some p → j < 0 → cmpL p.1 key < 0) := ⟨fun j p _ h => by omega⟩
        have HBq := HB4
        clear HB4
        go_wp2_with (fail)
        refine (hrows _).mono ?_
        rintro e w7 ⟨rfl, rfl⟩
        go_wp2_with (fail)
        go_loopw [8, 9] (fun v8 v9 wr => ∃ l h : Nat, v8 = .int .i64 l ∧ v9 = .int .i64 h ∧ l ≤ 512 ∧ h ≤ P.length ∧ As (∀ j p, P[j]? = some p → j < l → cmpL p.1 key < 0) ∧ As (∀ j p, P[j]? = some p → h ≤ j → cmpL key p.1 < 0) ∧ As (Below we.heap.size we wr)) (fun v8 v9 _ => (intOf v9).toNat - (intOf v8).toNat)
        case atStart => exact ⟨0, hi, rfl, rfl, hlol, hhl, HLo, HH, HBq⟩
        case round =>
          clear HLo HH HBq hlol hhl
          obtain ⟨l, h, rfl, rfl, hl5, hhl, HLo, HH, HBq⟩ := hrel
          have HBw : As (Below w.heap.size w wr) := ⟨HBe.out.trans (HBq.out.mono HBe.out.size)⟩
          by_cases hlh : l < h
          · obtain ⟨m, hm⟩ : ∃ m, (l + h) / 2 = m := ⟨_, rfl⟩
            have hmI : ((l : Int) + h) / 2 = m := by omega
            have hml : l ≤ m ∧ m < h := by omega
            have hmP : m < P.length := by omega
            obtain ⟨p, hp⟩ : ∃ p, P[m]? = some p := ⟨P[m]'hmP, List.getElem?_eq_getElem _⟩
            have hp5 := p5 p (List.mem_of_getElem? hp)
            obtain ⟨rr, hrr⟩ := rows_drop P (fun q hq => (p5 q hq).1) m p hp
            obtain ⟨A2, n2, c2, L2, hL2, hl2, hc2, hs2, hC2⟩ := slice_mid A1 (34 * P.length) c1 L1 ((m : Int) * 34) ((m : Int) * 34 + 34) (by omega) (by omega) hl1 (by omega) hc1
            have hL2' : L2 = p.1 ++ twoI p.2 := by
              rw [← hL2, show ((m : Int) * 34).toNat = 34 * m by omega, show ((m : Int) * 34 + 34).toNat = 34 * m + 34 by omega, ← hL1, p7, List.drop_take, show 34 * m + 34 - 34 * m = 34 by omega, hrr, ← List.append_assoc, List.take_append_of_le_length (by rw [List.length_append, hp5.1]; simp [twoI]), List.take_of_length_le (by rw [List.length_append, hp5.1]; simp [twoI])]
            have hn2 : n2 = 34 := by rw [← hl2, hL2', List.length_append, hp5.1]; rfl
            subst hn2
            have HC2 := As.mk (hC2 w (hC1 w HC.out))
            obtain ⟨n3, L3, hL3, hl3, hc3, hs3, hC3⟩ := slice_take .i64 A2 34 c2 L2 32 (by decide) hl2 (by decide) hc2
            have hL3' : L3 = p.1 := by
              rw [← hL3, hL2', List.take_append_of_le_length (by rw [hp5.1]; decide)]
              exact List.take_of_length_le (by rw [hp5.1]; decide)
            have hn3 : n3 = 32 := by rw [← hl3, hL3', hp5.1]
            subst hn3 hL3'
            obtain ⟨A6, n6, c6, L6, hL6, hl6, hc6, hs6, hC6⟩ := slice_drop .i64 A2 34 c2 L2 32 (by decide) hl2 (by decide) hc2
            have hL6' : L6 = twoI p.2 := by
              rw [← hL6, hL2', List.drop_append_of_le_length (by rw [hp5.1]; decide), List.drop_of_length_le (by rw [hp5.1]; decide), List.nil_append]
            have hn6 : n6 = 2 := by rw [← hl6, hL6']; rfl
            subst hn6 hL6'
            have hp2 : p.2 < 65536 := by
              obtain ⟨t, ht, _⟩ := key_mem (p3.subset (List.mem_of_getElem? hp))
              have := (List.getElem?_eq_some_iff.1 ht).1
              have := (putE_0 p2).1
              omega
            have HC3 := As.mk (hC3 w HC2.out)
            have HC6 := As.mk (hC6 w HC2.out)
            have HPM := As.mk hp
            have HMM := As.mk hm
            clear hL2 hL3 hL6 hrr hC2 hC3 hC6 hp hm HC2 hL2'
            go_wp2_with (fail)
            refine start_ (n := 5) (S := fun w' => Below (wr).drew.heap.size (wr).drew w') (ds := []) #[false, false, false, false, false] (by kernel_rfl) rfl rfl (Below.refl _ _) (fun hHeld => ?_)
            refine pure_ (i := 0) (N := some 60) (v := ?_) (a' := ?_) #[true, false, false, false, false] rfl rfl (by kernel_rfl) (fun _ _ _ h => h) (Or.inl ⟨by rfl, ?_⟩) ?_ ?_
            rotate_left
            · intro w'
              go_simp
              with_reducible rfl
            rotate_left
            · simp only [Act.put, List.setIfInBounds_toArray, List.set_cons_zero, List.set_cons_succ, i64_w, i32_w]
              rfl
            refine pure_ (i := 1) (N := some 61) (v := ?_) (a' := ?_) #[true, true, false, false, false] rfl rfl (by kernel_rfl) (fun _ _ _ h => h) (Or.inl ⟨by rfl, ?_⟩) ?_ ?_
            rotate_left
            · intro w'
              go_simp
              with_reducible rfl
            rotate_left
            · simp only [Act.put, List.setIfInBounds_toArray, List.set_cons_zero, List.set_cons_succ, i64_w, i32_w]
              rfl
            refine pure_ (i := 2) (N := some 62) (v := ?_) (a' := ?_) #[true, true, true, false, false] rfl rfl (by kernel_rfl) (fun _ _ _ h => h) (Or.inl ⟨by rfl, ?_⟩) ?_ ?_
            rotate_left
            · intro w'
              go_simp
              with_reducible rfl
            rotate_left
            · simp only [Act.put, List.setIfInBounds_toArray, List.set_cons_zero, List.set_cons_succ, i64_w, i32_w]
              rfl
            refine one_ (i := 3) (N := some 63) #[true, true, true, true, false] rfl rfl (by kernel_rfl) (by decide) (fun K hK => ?_)
            refine goes_ Try.func26 (by kernel_rfl) rfl #[.slice A2 32 c2, .slice (some ⟨w3.heap.size, 0, none⟩) 32 32] (by rfl) rfl rfl (by simp only [List.map_toArray, List.map_cons, List.map_nil]; rfl) ?_
            with_reducible refine (compare_calls _ _ c2 32 32 32 p.1 key _ (Kd.C_below HC3.out HBw.out.drew) (Kd.C_below HCk.out HBq.out.drew) (by decide) (by decide) hp5.2 hk8).mono ?_
            rintro e w9 ⟨rfl, rfl⟩
            refine ⟨_, rfl, ?_⟩
            refine hK.out _ _ (hHeld) (fun hHeld => ?_)
            clear hK K
            refine norm_ (a' := ?_) ?_ ?_
            rotate_left
            · show Act.put _ (some 63) _ = _
              simp only [Act.put, List.setIfInBounds_toArray, List.set_cons_zero, List.set_cons_succ, i64_w, i32_w]
              rfl
            refine pure_ (i := 4) (N := some 14) (v := ?_) (a' := ?_) #[true, true, true, true, true] rfl rfl (by kernel_rfl) (fun _ _ _ h => h) (Or.inl ⟨by rfl, ?_⟩) ?_ ?_
            rotate_left
            · intro w'
              go_simp
              with_reducible rfl
            rotate_left
            · simp only [Act.put, List.setIfInBounds_toArray, List.set_cons_zero, List.set_cons_succ, i64_w, i32_w]
              rfl
            refine done_ (by kernel_rfl) ?_
            obtain ⟨cq, hcq⟩ : ∃ cq, cmpL p.1 key = cq := ⟨_, rfl⟩
            rw [hcq]
            have HBd : As (Below we.heap.size we wr.drew) := ⟨HBq.out.drew⟩
            have HBwd : As (Below w.heap.size w wr.drew) := ⟨HBw.out.drew⟩
            by_cases hq0 : cq = 0
            · have hpe : p.1 = rawL s := by rw [hkey]; exact (cmpL_eq _ _).1 (by rw [hcq, hq0])
              have hFs : F = some p.2 := by rw [← HF.out]; exact find_hit hr p1 p2 p3 hnm (List.mem_of_getElem? HPM.out) hpe
              subst hFs
              have hq1 : (cq == 0) = true := by rw [beq_iff_eq]; exact hq0
              have hnum := number_calls A6 c6 2 (twoI p.2) wr.drew (Kd.C_below HC6.out HBwd.out) rfl (by decide) hc6 (twoI_8 p.2)
              rw [show numL (twoI p.2) = p.2 by have := num_two p.2 [] hp2; rwa [List.append_nil] at this] at hnum
              have HNUM := As.mk hnum
              clear HF hnum hcq hpe
              go_wp2_with (fail)
              refine HNUM.out.mono ?_
              rintro e w9 ⟨rfl, k9⟩
              have HB9 : As (Below w.heap.size w w9) := ⟨HBwd.out.trans (k9.mono HBwd.out.size)⟩
              clear k9
              go_wp2_with (fail)
              go_ret2
              exact ⟨rfl, HB9.out⟩
            · have hq1 : (cq == 0) = false := by rw [beq_eq_false_iff_ne]; exact hq0
              by_cases hq2 : cq < 0
              · have hq3 : decide (cq < 0) = true := decide_eq_true hq2
                have HLo2 : As (∀ j q, P[j]? = some q → j < m + 1 → cmpL q.1 key < 0) := ⟨fun j q hj hlt => by
                  by_cases hjm : j = m
                  · subst hjm
                    rw [HPM.out] at hj
                    obtain rfl := Option.some.inj hj
                    rw [hcq]; exact hq2
                  · have hjl : j < P.length := (List.getElem?_eq_some_iff.1 hj).1
                    have h1 := (List.pairwise_iff_getElem.1 p4) j m hjl hmP (by omega)
                    rw [(List.getElem?_eq_some_iff.1 hj).2, (List.getElem?_eq_some_iff.1 HPM.out).2] at h1
                    exact cmpL_trans _ _ _ h1 (by rw [hcq]; exact hq2)⟩
                clear hcq
                go_wp2_with (fail)
                exact ⟨⟨m + 1, h, by go_num, rfl, by omega, hhl, HLo2, HH, HBd⟩, by simp [intOf]; omega⟩
              · have hq3 : decide (cq < 0) = false := decide_eq_false hq2
                have hkp : cmpL key p.1 < 0 := by rw [cmpL_neg p.1 key, hcq]; omega
                have HH2 : As (∀ j q, P[j]? = some q → m ≤ j → cmpL key q.1 < 0) := ⟨fun j q hj hle => by
                  by_cases hjm : j = m
                  · subst hjm
                    rw [HPM.out] at hj
                    obtain rfl := Option.some.inj hj
                    exact hkp
                  · have hjl : j < P.length := (List.getElem?_eq_some_iff.1 hj).1
                    have h1 := (List.pairwise_iff_getElem.1 p4) m j hmP hjl (by omega)
                    rw [(List.getElem?_eq_some_iff.1 hj).2, (List.getElem?_eq_some_iff.1 HPM.out).2] at h1
                    exact cmpL_trans _ _ _ hkp h1⟩
                clear hcq hkp
                go_wp2_with (fail)
                exact ⟨⟨l, m, rfl, by go_num, hl5, by omega, HLo, HH2, HBd⟩, by simp [intOf]; omega⟩
          · have hno : As (∀ p ∈ P, p.1 ≠ rawL s) := ⟨fun p hp => by
              obtain ⟨j, hj, hjp⟩ := List.getElem_of_mem hp
              have hj2 : P[j]? = some p := by rw [List.getElem?_eq_getElem hj, hjp]
              rw [hkey]
              intro he
              have h0 := (cmpL_eq p.1 key).2 he
              have h0' := (cmpL_eq key p.1).2 he.symm
              rcases Nat.lt_or_ge j l with h1 | h1
              · have := HLo.out j p hj2 h1; omega
              · have := HH.out j p hj2 (by omega); omega⟩
            have hFn : F = none := by rw [← HF.out]; exact find_miss hr p1 p3 hno.out
            subst hFn
            clear HF
            go_wp2_with (fail)
            go_ret2
            exact ⟨rfl, HBw.out⟩
      · obtain ⟨Ag, ng, cg, Lg, hLg, hlg, hcg, hsg, hCg⟩ := slice_drop .i64 A n c b (2 * ((y : Int) + 1) - 2) (by omega) HN.out (by have := HN.out; omega) hc
        rw [show (2 * ((y : Int) + 1) - 2).toNat = 2 * y by omega] at hLg
        have hng : 2 ≤ ng := by have := HN.out; rw [← hlg, ← hLg, List.length_drop]; omega
        have hLgn : numL Lg = cntN (ids.map rawL) y := by rw [← hLg]; exact p6 y (by omega)
        have hLg8 : ∀ x ∈ Lg, 0 ≤ x ∧ x < 256 := fun x hx => H8.out x (by rw [← hLg] at hx; exact List.mem_of_mem_drop hx)
        obtain ⟨lo, hlo⟩ : ∃ lo, cntN (ids.map rawL) y = lo := ⟨_, rfl⟩
        have hncl := fun W hW => number_calls Ag cg ng Lg W hW hlg hng hcg hLg8
        rw [hLgn, hlo] at hncl
        have HNC3 := As.mk hncl
        have HCg := As.mk (Kd.C_below (hCg we HCb.out) HB4.out)
        have hlol : lo ≤ 512 := by
          rw [← hlo]
          have := cnt_le (ids.map rawL) y
          rw [List.length_map] at this
          have := (putE_0 p2).1
          omega
        have HLo : As (∀ j p, P[j]? = some p → j < lo → cmpL p.1 key < 0) := ⟨fun j p hj hlt => by
          have h1 := cnt_at y P p4 hP32 j p hj
          rw [← cnt_perm p3, hlo] at h1
          refine head_lt (hP32 p (List.mem_of_getElem? hj)) hkl ?_
          rw [HYK.out, List.headD_cons]
          have := h1.1 hlt
          omega⟩
        clear hLg hlg hLgn hLg8 hCg hlo hng hcg hncl
        go_wp2_with (fail)
        refine (HNC3.out _ HCg.out).mono ?_
        rintro e w5 ⟨rfl, k5⟩
        have HBq : As (Below we.heap.size we w5) := ⟨HB4.out.trans (k5.mono HB4.out.size)⟩
        clear k5 HNC3 HCg HB4
        go_wp2_with (fail)
        refine (hrows _).mono ?_
        rintro e w7 ⟨rfl, rfl⟩
        go_wp2_with (fail)
        go_loopw [8, 9] (fun v8 v9 wr => ∃ l h : Nat, v8 = .int .i64 l ∧ v9 = .int .i64 h ∧ l ≤ 512 ∧ h ≤ P.length ∧ As (∀ j p, P[j]? = some p → j < l → cmpL p.1 key < 0) ∧ As (∀ j p, P[j]? = some p → h ≤ j → cmpL key p.1 < 0) ∧ As (Below we.heap.size we wr)) (fun v8 v9 _ => (intOf v9).toNat - (intOf v8).toNat)
        case atStart => exact ⟨lo, hi, rfl, rfl, hlol, hhl, HLo, HH, HBq⟩
        case round =>
          clear HLo HH HBq hlol hhl
          obtain ⟨l, h, rfl, rfl, hl5, hhl, HLo, HH, HBq⟩ := hrel
          have HBw : As (Below w.heap.size w wr) := ⟨HBe.out.trans (HBq.out.mono HBe.out.size)⟩
          by_cases hlh : l < h
          · obtain ⟨m, hm⟩ : ∃ m, (l + h) / 2 = m := ⟨_, rfl⟩
            have hmI : ((l : Int) + h) / 2 = m := by omega
            have hml : l ≤ m ∧ m < h := by omega
            have hmP : m < P.length := by omega
            obtain ⟨p, hp⟩ : ∃ p, P[m]? = some p := ⟨P[m]'hmP, List.getElem?_eq_getElem _⟩
            have hp5 := p5 p (List.mem_of_getElem? hp)
            obtain ⟨rr, hrr⟩ := rows_drop P (fun q hq => (p5 q hq).1) m p hp
            obtain ⟨A2, n2, c2, L2, hL2, hl2, hc2, hs2, hC2⟩ := slice_mid A1 (34 * P.length) c1 L1 ((m : Int) * 34) ((m : Int) * 34 + 34) (by omega) (by omega) hl1 (by omega) hc1
            have hL2' : L2 = p.1 ++ twoI p.2 := by
              rw [← hL2, show ((m : Int) * 34).toNat = 34 * m by omega, show ((m : Int) * 34 + 34).toNat = 34 * m + 34 by omega, ← hL1, p7, List.drop_take, show 34 * m + 34 - 34 * m = 34 by omega, hrr, ← List.append_assoc, List.take_append_of_le_length (by rw [List.length_append, hp5.1]; simp [twoI]), List.take_of_length_le (by rw [List.length_append, hp5.1]; simp [twoI])]
            have hn2 : n2 = 34 := by rw [← hl2, hL2', List.length_append, hp5.1]; rfl
            subst hn2
            have HC2 := As.mk (hC2 w (hC1 w HC.out))
            obtain ⟨n3, L3, hL3, hl3, hc3, hs3, hC3⟩ := slice_take .i64 A2 34 c2 L2 32 (by decide) hl2 (by decide) hc2
            have hL3' : L3 = p.1 := by
              rw [← hL3, hL2', List.take_append_of_le_length (by rw [hp5.1]; decide)]
              exact List.take_of_length_le (by rw [hp5.1]; decide)
            have hn3 : n3 = 32 := by rw [← hl3, hL3', hp5.1]
            subst hn3 hL3'
            obtain ⟨A6, n6, c6, L6, hL6, hl6, hc6, hs6, hC6⟩ := slice_drop .i64 A2 34 c2 L2 32 (by decide) hl2 (by decide) hc2
            have hL6' : L6 = twoI p.2 := by
              rw [← hL6, hL2', List.drop_append_of_le_length (by rw [hp5.1]; decide), List.drop_of_length_le (by rw [hp5.1]; decide), List.nil_append]
            have hn6 : n6 = 2 := by rw [← hl6, hL6']; rfl
            subst hn6 hL6'
            have hp2 : p.2 < 65536 := by
              obtain ⟨t, ht, _⟩ := key_mem (p3.subset (List.mem_of_getElem? hp))
              have := (List.getElem?_eq_some_iff.1 ht).1
              have := (putE_0 p2).1
              omega
            have HC3 := As.mk (hC3 w HC2.out)
            have HC6 := As.mk (hC6 w HC2.out)
            have HPM := As.mk hp
            have HMM := As.mk hm
            clear hL2 hL3 hL6 hrr hC2 hC3 hC6 hp hm HC2 hL2'
            go_wp2_with (fail)
            refine start_ (n := 5) (S := fun w' => Below (wr).drew.heap.size (wr).drew w') (ds := []) #[false, false, false, false, false] (by kernel_rfl) rfl rfl (Below.refl _ _) (fun hHeld => ?_)
            refine pure_ (i := 0) (N := some 60) (v := ?_) (a' := ?_) #[true, false, false, false, false] rfl rfl (by kernel_rfl) (fun _ _ _ h => h) (Or.inl ⟨by rfl, ?_⟩) ?_ ?_
            rotate_left
            · intro w'
              go_simp
              with_reducible rfl
            rotate_left
            · simp only [Act.put, List.setIfInBounds_toArray, List.set_cons_zero, List.set_cons_succ, i64_w, i32_w]
              rfl
            refine pure_ (i := 1) (N := some 61) (v := ?_) (a' := ?_) #[true, true, false, false, false] rfl rfl (by kernel_rfl) (fun _ _ _ h => h) (Or.inl ⟨by rfl, ?_⟩) ?_ ?_
            rotate_left
            · intro w'
              go_simp
              with_reducible rfl
            rotate_left
            · simp only [Act.put, List.setIfInBounds_toArray, List.set_cons_zero, List.set_cons_succ, i64_w, i32_w]
              rfl
            refine pure_ (i := 2) (N := some 62) (v := ?_) (a' := ?_) #[true, true, true, false, false] rfl rfl (by kernel_rfl) (fun _ _ _ h => h) (Or.inl ⟨by rfl, ?_⟩) ?_ ?_
            rotate_left
            · intro w'
              go_simp
              with_reducible rfl
            rotate_left
            · simp only [Act.put, List.setIfInBounds_toArray, List.set_cons_zero, List.set_cons_succ, i64_w, i32_w]
              rfl
            refine one_ (i := 3) (N := some 63) #[true, true, true, true, false] rfl rfl (by kernel_rfl) (by decide) (fun K hK => ?_)
            refine goes_ Try.func26 (by kernel_rfl) rfl #[.slice A2 32 c2, .slice (some ⟨w3.heap.size, 0, none⟩) 32 32] (by rfl) rfl rfl (by simp only [List.map_toArray, List.map_cons, List.map_nil]; rfl) ?_
            with_reducible refine (compare_calls _ _ c2 32 32 32 p.1 key _ (Kd.C_below HC3.out HBw.out.drew) (Kd.C_below HCk.out HBq.out.drew) (by decide) (by decide) hp5.2 hk8).mono ?_
            rintro e w9 ⟨rfl, rfl⟩
            refine ⟨_, rfl, ?_⟩
            refine hK.out _ _ (hHeld) (fun hHeld => ?_)
            clear hK K
            refine norm_ (a' := ?_) ?_ ?_
            rotate_left
            · show Act.put _ (some 63) _ = _
              simp only [Act.put, List.setIfInBounds_toArray, List.set_cons_zero, List.set_cons_succ, i64_w, i32_w]
              rfl
            refine pure_ (i := 4) (N := some 14) (v := ?_) (a' := ?_) #[true, true, true, true, true] rfl rfl (by kernel_rfl) (fun _ _ _ h => h) (Or.inl ⟨by rfl, ?_⟩) ?_ ?_
            rotate_left
            · intro w'
              go_simp
              with_reducible rfl
            rotate_left
            · simp only [Act.put, List.setIfInBounds_toArray, List.set_cons_zero, List.set_cons_succ, i64_w, i32_w]
              rfl
            refine done_ (by kernel_rfl) ?_
            obtain ⟨cq, hcq⟩ : ∃ cq, cmpL p.1 key = cq := ⟨_, rfl⟩
            rw [hcq]
            have HBd : As (Below we.heap.size we wr.drew) := ⟨HBq.out.drew⟩
            have HBwd : As (Below w.heap.size w wr.drew) := ⟨HBw.out.drew⟩
            by_cases hq0 : cq = 0
            · have hpe : p.1 = rawL s := by rw [hkey]; exact (cmpL_eq _ _).1 (by rw [hcq, hq0])
              have hFs : F = some p.2 := by rw [← HF.out]; exact find_hit hr p1 p2 p3 hnm (List.mem_of_getElem? HPM.out) hpe
              subst hFs
              have hq1 : (cq == 0) = true := by rw [beq_iff_eq]; exact hq0
              have hnum := number_calls A6 c6 2 (twoI p.2) wr.drew (Kd.C_below HC6.out HBwd.out) rfl (by decide) hc6 (twoI_8 p.2)
              rw [show numL (twoI p.2) = p.2 by have := num_two p.2 [] hp2; rwa [List.append_nil] at this] at hnum
              have HNUM := As.mk hnum
              clear HF hnum hcq hpe
              go_wp2_with (fail)
              refine HNUM.out.mono ?_
              rintro e w9 ⟨rfl, k9⟩
              have HB9 : As (Below w.heap.size w w9) := ⟨HBwd.out.trans (k9.mono HBwd.out.size)⟩
              clear k9
              go_wp2_with (fail)
              go_ret2
              exact ⟨rfl, HB9.out⟩
            · have hq1 : (cq == 0) = false := by rw [beq_eq_false_iff_ne]; exact hq0
              by_cases hq2 : cq < 0
              · have hq3 : decide (cq < 0) = true := decide_eq_true hq2
                have HLo2 : As (∀ j q, P[j]? = some q → j < m + 1 → cmpL q.1 key < 0) := ⟨fun j q hj hlt => by
                  by_cases hjm : j = m
                  · subst hjm
                    rw [HPM.out] at hj
                    obtain rfl := Option.some.inj hj
                    rw [hcq]; exact hq2
                  · have hjl : j < P.length := (List.getElem?_eq_some_iff.1 hj).1
                    have h1 := (List.pairwise_iff_getElem.1 p4) j m hjl hmP (by omega)
                    rw [(List.getElem?_eq_some_iff.1 hj).2, (List.getElem?_eq_some_iff.1 HPM.out).2] at h1
                    exact cmpL_trans _ _ _ h1 (by rw [hcq]; exact hq2)⟩
                clear hcq
                go_wp2_with (fail)
                exact ⟨⟨m + 1, h, by go_num, rfl, by omega, hhl, HLo2, HH, HBd⟩, by simp [intOf]; omega⟩
              · have hq3 : decide (cq < 0) = false := decide_eq_false hq2
                have hkp : cmpL key p.1 < 0 := by rw [cmpL_neg p.1 key, hcq]; omega
                have HH2 : As (∀ j q, P[j]? = some q → m ≤ j → cmpL key q.1 < 0) := ⟨fun j q hj hle => by
                  by_cases hjm : j = m
                  · subst hjm
                    rw [HPM.out] at hj
                    obtain rfl := Option.some.inj hj
                    exact hkp
                  · have hjl : j < P.length := (List.getElem?_eq_some_iff.1 hj).1
                    have h1 := (List.pairwise_iff_getElem.1 p4) m j hmP hjl (by omega)
                    rw [(List.getElem?_eq_some_iff.1 hj).2, (List.getElem?_eq_some_iff.1 HPM.out).2] at h1
                    exact cmpL_trans _ _ _ hkp h1⟩
                clear hcq hkp
                go_wp2_with (fail)
                exact ⟨⟨l, m, rfl, by go_num, hl5, by omega, HLo, HH2, HBd⟩, by simp [intOf]; omega⟩
          · have hno : As (∀ p ∈ P, p.1 ≠ rawL s) := ⟨fun p hp => by
              obtain ⟨j, hj, hjp⟩ := List.getElem_of_mem hp
              have hj2 : P[j]? = some p := by rw [List.getElem?_eq_getElem hj, hjp]
              rw [hkey]
              intro he
              have h0 := (cmpL_eq p.1 key).2 he
              have h0' := (cmpL_eq key p.1).2 he.symm
              rcases Nat.lt_or_ge j l with h1 | h1
              · have := HLo.out j p hj2 h1; omega
              · have := HH.out j p hj2 (by omega); omega⟩
            have hFn : F = none := by rw [← HF.out]; exact find_miss hr p1 p3 hno.out
            subst hFn
            clear HF
            go_wp2_with (fail)
            go_ret2
            exact ⟨rfl, HBw.out⟩
    · rw [Bool.not_eq_true] at hr
      rw [hr] at hrc
      rw [find_no hr]
      have HRC := As.mk (fun W hW => hrc W hW)
      have HC := As.mk hC
      clear hrc hC h8 hr
      go_enter Try.func13, Try.ntmps13
      go_wp2_with (fail)
      refine (hnc _).mono ?_
      rintro e w1 ⟨rfl, k1⟩
      have HB1 := As.mk k1
      clear k1 hnc
      go_wp2_with (fail)
      refine (HRC.out _ (Kd.C_below HC.out HB1.out)).mono ?_
      rintro e w2 ⟨rfl, k2⟩
      have HB2 : As (Below w.heap.size w w2) := ⟨HB1.out.trans (k2.mono HB1.out.size)⟩
      clear k2
      go_wp2_with (fail)
      go_ret2
      exact ⟨rfl, HB2.out⟩
  · rw [Bool.not_eq_true] at hnm
    rw [hnm] at hnc
    rw [find_bad hnm]
    clear hC h8
    go_enter Try.func13, Try.ntmps13
    go_wp2_with (fail)
    refine (hnc _).mono ?_
    rintro e w1 ⟨rfl, k1⟩
    have HB1 := As.mk k1
    clear k1
    go_wp2_with (fail)
    go_ret2
    exact ⟨rfl, HB1.out⟩
end Go.Proofs.Ytonhmjodgomeiaa.Ix

/- An index is right, and tells the names that it was made of. No condition. -/
namespace Go.Proofs.Ytonhmjodgomeiaa.Ix
set_option linter.unusedVariables false
set_option linter.unusedSimpArgs false
open Go.RowKit Blk Dg Go.Proofs.YtonhmjodgomeiaaW.PrintWords Go.Proofs.YtonhmjodgomeiaaW.PrintLast Go.Proofs.YtonhmjodgomeiaaW.PrintMore

theorem fillG_rows (m : Nat) (hm : m ≤ 512) : ∀ (Q : List (List Int × Nat)) (xs : List ByteArray), (∀ p ∈ Q, p.1.length = 32 ∧ p.2 < m) → fillG m Q.length (rowsL Q) xs = some (Q.foldl (fun xs p => xs.set p.2 (toldS p.1)) xs)
  | [], xs, _ => rfl
  | p :: Q, xs, h => by
    have hp := h p List.mem_cons_self
    have e : rowsL (p :: Q) = p.1 ++ (twoI p.2 ++ rowsL Q) := by rw [rowsL, List.flatMap_cons, ← rowsL, List.append_assoc]
    have h1 : (rowsL (p :: Q)).drop 32 = twoI p.2 ++ rowsL Q := by
      rw [e, List.drop_append_of_le_length (by rw [hp.1]; decide), List.drop_of_length_le (by rw [hp.1]; decide), List.nil_append]
    have h2 : (rowsL (p :: Q)).take 32 = p.1 := by
      rw [e, List.take_append_of_le_length (by rw [hp.1]; decide), List.take_of_length_le (by rw [hp.1]; decide)]
    have h3 : (rowsL (p :: Q)).drop 34 = rowsL Q := by
      rw [show 34 = 32 + 2 from rfl, ← List.drop_drop, h1]; rfl
    rw [List.length_cons, fillG, h1, h2, h3, num_two p.2 _ (by omega), if_neg (by omega), List.foldl_cons]
    exact fillG_rows m hm Q _ (fun q hq => h q (List.mem_cons_of_mem _ hq))
theorem foldl_set (ids : List ByteArray) : ∀ (Q : List (List Int × Nat)) (xs : List ByteArray), (∀ p ∈ Q, ids[p.2]? = some (toldS p.1)) → xs.length = ids.length → (∀ k t, ids[k]? = some t → (∃ p ∈ Q, p.2 = k) ∨ xs[k]? = some t) →
    Q.foldl (fun xs p => xs.set p.2 (toldS p.1)) xs = ids
  | [], xs, _, hl, h => by
    rw [List.foldl_nil]
    apply List.ext_getElem?
    intro k
    by_cases hk : k < ids.length
    · rcases h k ids[k] (List.getElem?_eq_getElem hk) with ⟨p, hp, _⟩ | h
      · cases hp
      · rw [h, List.getElem?_eq_getElem hk]
    · rw [List.getElem?_eq_none (by omega), List.getElem?_eq_none (by omega)]
  | p :: Q, xs, hp, hl, h => by
    rw [List.foldl_cons]
    refine foldl_set ids Q _ (fun q hq => hp q (List.mem_cons_of_mem _ hq)) (by rw [List.length_set]; exact hl) ?_
    intro k t hk
    have hpk := hp p List.mem_cons_self
    have hpl : p.2 < xs.length := by rw [hl]; exact (List.getElem?_eq_some_iff.1 hpk).1
    by_cases hpe : p.2 = k
    · right
      subst hpe
      rw [hk] at hpk
      rw [List.getElem?_set_self hpl, Option.some.inj hpk]
    · rcases h k t hk with ⟨q, hq, hqk⟩ | h
      · rcases List.mem_cons.1 hq with rfl | hq
        · exact absurd hqk hpe
        · exact .inl ⟨q, hq, hqk⟩
      · right
        rw [List.getElem?_set_ne hpe]; exact h
theorem told_raw {s : ByteArray} (h : namedL (bytesOf s) = true) : toldS (rawL s) = s := by
  rw [str_inj, toldS, bytesOf_str _ (nameL_8 _ (rawL_8 h)), rawL, name_raw _ ((named_iff _).1 h).2 (by rw [((named_iff _).1 h).1])]
theorem put_right {ids : List ByteArray} {b : List Int} (h : PutR ids b 0) : idsOf b = some ids ∧ rightB b = true ∧ b.length = 544 + 34 * ids.length := by
  have he := putE_0 h.1.symm
  obtain ⟨P, p1, p2, p3⟩ := h.2.1 rfl
  have hPm : ∀ p ∈ P, ∃ t, ids[p.2]? = some t ∧ p.1 = rawL t := fun p hp => key_mem (p1.subset hp)
  have hP32 : ∀ p ∈ P, p.1.length = 32 := by
    intro p hp
    obtain ⟨t, ht, e⟩ := hPm p hp
    rw [e]
    exact rawL_len (List.all_eq_true.1 he.2.1 t (List.mem_of_getElem? ht))
  have hPl : P.length = ids.length := by rw [p1.length_eq, keysOf_len]
  have hl := rowsL_len' P hP32
  have hfl := fanL_len (ids.map rawL)
  have hs := shaL_len (bodyL (ids.map rawL) P)
  have hbl : (bodyL (ids.map rawL) P).length = 512 + 34 * P.length := by rw [bodyL, List.length_append, hfl, hl]
  have hb : b.length = 544 + 34 * P.length := by rw [p3, List.length_append, hbl, hs]; omega
  have hmid : midL b = rowsL P := by
    rw [midL, hb, p3, show 544 + 34 * P.length - 32 = (bodyL (ids.map rawL) P).length by omega, List.take_append_of_le_length (Nat.le_refl _), List.take_length, bodyL, List.drop_append_of_le_length (by rw [hfl]; exact Nat.le_refl _), List.drop_of_length_le (by rw [hfl]; exact Nat.le_refl _), List.nil_append]
  have hok : rowsOk b.length := by rw [hb]; unfold rowsOk; omega
  have hid : idsOf b = some ids := by
    rw [idsOf, if_pos hok, hmid, show (b.length - 544) / 34 = P.length by omega, fillG_rows P.length (by omega) P _ (fun p hp => ⟨hP32 p hp, by
      obtain ⟨t, ht, _⟩ := hPm p hp
      rw [hPl]; exact (List.getElem?_eq_some_iff.1 ht).1⟩)]
    congr 1
    refine foldl_set ids P _ (fun p hp => ?_) (by rw [List.length_replicate, hPl]) (fun k t hk => .inl ?_)
    · obtain ⟨t, ht, e⟩ := hPm p hp
      rw [ht, e, told_raw (List.all_eq_true.1 he.2.1 t (List.mem_of_getElem? ht))]
    · have hkl : k < ids.length := (List.getElem?_eq_some_iff.1 hk).1
      exact ⟨_, p1.symm.subset (List.mem_of_getElem? (keysOf_at ids k hkl)), rfl⟩
  exact ⟨hid, (rightB_iff b).2 ⟨ids, hid, h⟩, by rw [hb, hPl]⟩
theorem find_of {ids : List ByteArray} {b : List Int} (h : PutR ids b 0) (s : ByteArray) : findL b s = by classical exact ids.findIdx? (fun t => decide (t = s)) := by
  obtain ⟨h1, h2, _⟩ := put_right h
  unfold findL
  rw [if_pos h2, h1, Option.getD_some]
end Go.Proofs.Ytonhmjodgomeiaa.Ix

/- Names' order is their bytes' order. No condition. -/
namespace Go.Proofs.Ytonhmjodgomeiaa.Ix
set_option linter.unusedVariables false
set_option linter.unusedSimpArgs false
open Go.RowKit Blk Dg Go.Proofs.YtonhmjodgomeiaaW.PrintWords Go.Proofs.YtonhmjodgomeiaaW.PrintLast Go.Proofs.YtonhmjodgomeiaaW.PrintMore

theorem less_L : ∀ (a b : List UInt8), Op.bytesLess a b = decide (cmpL (a.map fun u => (u.toNat : Int)) (b.map fun u => (u.toNat : Int)) < 0)
  | [], [] => by simp [Op.bytesLess, cmpL]
  | [], y :: s => by simp [Op.bytesLess, cmpL]
  | x :: r, [] => by simp [Op.bytesLess, cmpL]
  | x :: r, y :: s => by
    rw [List.map_cons, List.map_cons, cmpL, Op.bytesLess, less_L r s]
    have hlt : ∀ u v : UInt8, u < v ↔ (u.toNat : Int) < v.toNat := fun u v => by rw [UInt8.lt_iff_toNat_lt]; omega
    by_cases h1 : x < y
    · have := (hlt x y).1 h1
      simp [h1, this]
    · have h1' : ¬ (x.toNat : Int) < y.toNat := fun h => h1 ((hlt x y).2 h)
      by_cases h2 : y < x
      · have := (hlt y x).1 h2
        have hne : (x == y) = false := by
          rw [beq_eq_false_iff_ne]
          rintro rfl
          omega
        rw [hne, if_neg h1', if_pos this]
        simp [h1]
      · have h2' : ¬ (y.toNat : Int) < x.toNat := fun h => h2 ((hlt y x).2 h)
        have he : x = y := UInt8.toNat_inj.1 (by omega)
        subst he
        rw [if_neg h1', if_neg h1']
        simp
theorem str_less (s t : ByteArray) : Op.bytesLess s.toList t.toList = decide (cmpL (bytesOf s) (bytesOf t) < 0) := by
  rw [ByteArray.toList_eq, ByteArray.toList_eq, less_L]; rfl
theorem hexd_lt {a b : Int} (ha : 0 ≤ a ∧ a < 16) (hb : 0 ≤ b ∧ b < 16) : hexd a < hexd b ↔ a < b := by
  unfold hexd
  split <;> split <;> omega
theorem name_cmp : ∀ (r s : List Int), (∀ x ∈ r, 0 ≤ x ∧ x < 256) → (∀ x ∈ s, 0 ≤ x ∧ x < 256) → cmpL (nameL r) (nameL s) = cmpL r s
  | [], [], _, _ => rfl
  | [], y :: s, _, _ => by rw [nameL, nameL, List.flatMap_cons]; rfl
  | x :: r, [], _, _ => by rw [nameL, nameL, List.flatMap_cons]; rfl
  | x :: r, y :: s, hr, hs => by
    have hx := hr x List.mem_cons_self
    have hy := hs y List.mem_cons_self
    have ih := name_cmp r s (fun z h => hr z (List.mem_cons_of_mem _ h)) (fun z h => hs z (List.mem_cons_of_mem _ h))
    rw [nameL, nameL, List.flatMap_cons, List.flatMap_cons, ← nameL, ← nameL]
    show cmpL (hexd (x / 16) :: hexd (x % 16) :: nameL r) (hexd (y / 16) :: hexd (y % 16) :: nameL s) = _
    rw [cmpL, cmpL, cmpL, ih]
    have h1 := hexd_lt (a := x / 16) (b := y / 16) (by omega) (by omega)
    have h2 := hexd_lt (a := y / 16) (b := x / 16) (by omega) (by omega)
    have h3 := hexd_lt (a := x % 16) (b := y % 16) (by omega) (by omega)
    have h4 := hexd_lt (a := y % 16) (b := x % 16) (by omega) (by omega)
    by_cases k1 : x / 16 < y / 16
    · rw [if_pos (h1.2 k1), if_pos (show x < y by omega)]
    · rw [if_neg (fun h => k1 (h1.1 h))]
      by_cases k2 : y / 16 < x / 16
      · rw [if_pos (h2.2 k2), if_neg (show ¬ x < y by omega), if_pos (show y < x by omega)]
      · rw [if_neg (fun h => k2 (h2.1 h))]
        by_cases k3 : x % 16 < y % 16
        · rw [if_pos (h3.2 k3), if_pos (show x < y by omega)]
        · rw [if_neg (fun h => k3 (h3.1 h))]
          by_cases k4 : y % 16 < x % 16
          · rw [if_pos (h4.2 k4), if_neg (show ¬ x < y by omega), if_pos (show y < x by omega)]
          · rw [if_neg (fun h => k4 (h4.1 h)), if_neg (show ¬ x < y by omega), if_neg (show ¬ y < x by omega)]
theorem told_bytes {r : List Int} (h : ∀ x ∈ r, 0 ≤ x ∧ x < 256) : bytesOf (toldS r) = nameL r := by rw [toldS, bytesOf_str _ (nameL_8 _ h)]
theorem told_less {r s : List Int} (hr : ∀ x ∈ r, 0 ≤ x ∧ x < 256) (hs : ∀ x ∈ s, 0 ≤ x ∧ x < 256) : Op.bytesLess (toldS r).toList (toldS s).toList = decide (cmpL r s < 0) := by
  rw [str_less, told_bytes hr, told_bytes hs, name_cmp r s hr hs]
theorem told_named {r : List Int} (h : ∀ x ∈ r, 0 ≤ x ∧ x < 256) (hl : r.length = 32) : namedL (bytesOf (toldS r)) = true := by
  rw [told_bytes h, named_iff, nameL_len, hl]
  exact ⟨rfl, name_hexc r h⟩
theorem raw_told {r : List Int} (h : ∀ x ∈ r, 0 ≤ x ∧ x < 256) : rawL (toldS r) = r := by rw [rawL, told_bytes h, raw_name r h]
theorem allG_rows : ∀ (Q : List (List Int × Nat)), (∀ p ∈ Q, p.1.length = 32) → allG Q.length (rowsL Q) = Q.map fun p => toldS p.1
  | [], _ => rfl
  | p :: Q, h => by
    have hp := h p List.mem_cons_self
    have e : rowsL (p :: Q) = p.1 ++ (twoI p.2 ++ rowsL Q) := by rw [rowsL, List.flatMap_cons, ← rowsL, List.append_assoc]
    have h2 : (rowsL (p :: Q)).take 32 = p.1 := by
      rw [e, List.take_append_of_le_length (by rw [hp]; decide), List.take_of_length_le (by rw [hp]; decide)]
    have h1 : (rowsL (p :: Q)).drop 32 = twoI p.2 ++ rowsL Q := by
      rw [e, List.drop_append_of_le_length (by rw [hp]; decide), List.drop_of_length_le (by rw [hp]; decide), List.nil_append]
    have h3 : (rowsL (p :: Q)).drop 34 = rowsL Q := by
      rw [show 34 = 32 + 2 from rfl, ← List.drop_drop, h1]; rfl
    rw [List.length_cons, allG, h2, h3, allG_rows Q (fun q hq => h q (List.mem_cons_of_mem _ hq)), List.map_cons]
/-- All names of an index, rising. -/
theorem all_of {b : List Int} (h : rightB b = true) : ∃ (ids : List ByteArray) (P : List (List Int × Nat)), idsOf b = some ids ∧ PutR ids b 0 ∧ P.Perm (keysOf ids) ∧ Srt P ∧ (∀ p ∈ P, p.1.length = 32 ∧ ∀ x ∈ p.1, 0 ≤ x ∧ x < 256) ∧ allL b = P.map (fun p => toldS p.1) ∧ P.length = ids.length := by
  obtain ⟨ids, P, p1, p2, p3, p4, p5, p6, p7, p8, p9⟩ := right_parts h
  obtain ⟨ids', q1, q2⟩ := (rightB_iff b).1 h
  rw [p1] at q1
  obtain rfl := Option.some.inj q1
  refine ⟨ids, P, p1, q2, p3, p4, p5, ?_, by rw [p3.length_eq, keysOf_len]⟩
  rw [allL, if_pos h, p8, p7, allG_rows P (fun p hp => (p5 p hp).1)]
end Go.Proofs.Ytonhmjodgomeiaa.Ix

/- Three sums that are not one (reckoned by the kernel). No condition. -/
namespace Go.Proofs.Ytonhmjodgomeiaa.Ix
set_option linter.unusedVariables false
open Dg
theorem sha_ab : shaL [97] ≠ shaL [98] := by decide +kernel
theorem sha_0a : shaL [] ≠ shaL [97] := by decide +kernel
theorem sha_0b : shaL [] ≠ shaL [98] := by decide +kernel
end Go.Proofs.Ytonhmjodgomeiaa.Ix

/- What the head of the statements of layer 8 asks, plainly. No condition. -/
namespace Go.Proofs.Ytonhmjodgomeiaa.Ix
set_option linter.unusedVariables false
set_option linter.unusedSimpArgs false
open Go.RowKit Blk Dg Go.Proofs.YtonhmjodgomeiaaW.PrintWords Go.Proofs.YtonhmjodgomeiaaW.PrintLast Go.Proofs.YtonhmjodgomeiaaW.PrintMore

def nm (l : List Int) : ByteArray := toldS (shaL l)
theorem nm_named (l : List Int) : namedL (bytesOf (nm l)) = true := told_named (shaL_8 l) (shaL_len l)
theorem nm_raw (l : List Int) : rawL (nm l) = shaL l := raw_told (shaL_8 l)
theorem nm_size (l : List Int) : (nm l).size = 64 := told_size _ (shaL_len l)
theorem nm_ne {l k : List Int} (h : shaL l ≠ shaL k) : nm l ≠ nm k := fun e => h (by rw [← nm_raw l, e, nm_raw k])
theorem head_put {x : List Int} {z : Int} (h : PutR [nm [97], nm [98]] x z) : z = 0 ∧ x.length = 612 ∧ findL x (nm [98]) = some 1 ∧ findL x (nm []) = none ∧ rightB x = true ∧ ∃ s t, allL x = [s, t] ∧ Op.bytesLess s.toList t.toList = true := by
  have hz : putE [nm [97], nm [98]] = 0 := by
    rw [putE, if_neg (by decide), if_neg (by simp [nm_named]), if_pos]
    simp only [List.map_cons, List.map_nil, nm_raw]
    simp [sha_ab]
  have hz0 : z = 0 := by rw [h.1, hz]
  subst hz0
  obtain ⟨h1, h2, h3⟩ := put_right h
  refine ⟨rfl, by rw [h3]; rfl, ?_, ?_, h2, ?_⟩
  · rw [find_of h]
    have := nm_ne sha_ab
    simp [List.findIdx?_cons, this]
  · rw [find_of h]
    have e1 := Ne.symm (nm_ne sha_0a)
    have e2 := Ne.symm (nm_ne sha_0b)
    simp [List.findIdx?_cons, e1, e2]
  · obtain ⟨ids, P, p1, p2, p3, p4, p5, p6, p7⟩ := all_of h2
    rw [h1] at p1
    obtain rfl := Option.some.inj p1
    rcases P with _ | ⟨p, _ | ⟨q, _ | ⟨r, P⟩⟩⟩
    · simp at p7
    · simp at p7
    · refine ⟨toldS p.1, toldS q.1, p6, ?_⟩
      rw [told_less (p5 p (by simp)).2 (p5 q (by simp)).2]
      exact decide_eq_true ((List.pairwise_cons.1 p4).1 q (by simp))
    · simp at p7
theorem head_twice {x : List Int} {z : Int} (h : PutR [nm [97], nm [97]] x z) : z = 91 := by
  rw [h.1, putE, if_neg (by decide), if_neg (by simp [nm_named]), if_neg (by simp)]
theorem head_bad {x : List Int} {z : Int} (h : PutR [⟨#[97]⟩] x z) : z = 1 := by
  rw [h.1, putE, if_neg (by decide), if_pos (by decide)]
theorem right_nil : rightB [] = false := right_none _ (by rw [idsOf, if_neg (by decide)])
theorem C_bytes1 (W : World) (x : Int) : (Kd.int .u8).C (W.alloc (.cells #[.int .u8 x] 5)) (some ⟨W.heap.size, 0, none⟩) 1 [x] := by
  refine Kd.C_of_reads (enc := Value.int .u8) (d := (0 : Int)) ⟨rfl, by decide, fun _ => ⟨_, rfl, fun j hj => ?_⟩⟩
  obtain rfl : j = 0 := by omega
  have h : (W.alloc (.cells #[.int .u8 x] 5)).heap[W.heap.size]? = some (.cells #[.int .u8 x] 5 (0, 0)) := Row.new W [Value.int .u8 x] 5
  unfold Row at h
  generalize W.alloc (.cells #[.int .u8 x] 5) = w1 at h ⊢
  simp [World.cell?, Addr.add, h, rdOf]
theorem C_strs (W : World) (l : List ByteArray) (hl : l.length ≤ 600) : Kd.string.C (W.alloc (.cells (l.map Value.string).toArray 9)) (some ⟨W.heap.size, 0, none⟩) l.length l := by
  refine Kd.C_of_reads (enc := Value.string) (d := ByteArray.empty) ⟨rfl, by omega, fun _ => ⟨_, rfl, fun j hj => ?_⟩⟩
  have h : (W.alloc (.cells (l.map Value.string).toArray 9)).heap[W.heap.size]? = some (.cells (l.map Value.string).toArray 9 (0, 0)) := Row.new W (l.map Value.string) 9
  have e : (⟨W.heap.size, 0, none⟩ : Addr).add j = ⟨W.heap.size, j, none⟩ := by unfold Addr.add; split <;> simp_all
  rw [e]
  have hj2 : j < l.length := hj
  unfold Row at h
  generalize W.alloc (.cells (l.map Value.string).toArray 9) = w1 at h ⊢
  simp [World.cell?, h, rdOf, hj2]
end Go.Proofs.Ytonhmjodgomeiaa.Ix

/- The head of the statements of layer 8 answers true. No condition. -/
namespace Go.Proofs.Ytonhmjodgomeiaa.Ix
set_option linter.unusedVariables false
set_option linter.unusedSimpArgs false
open Go.RowKit Blk Dg Go.Proofs.YtonhmjodgomeiaaW.PrintWords Go.Proofs.YtonhmjodgomeiaaW.PrintLast Go.Proofs.YtonhmjodgomeiaaW.PrintMore

theorem rn_calls (A : Option Addr) (c n : Nat) (l : List Int) (w : World) (hC : (Kd.int .u8).C w A n l) (hn : l.length = n) (hc : n ≤ c) (hl : n ≤ 1099511627776) (h8 : ∀ x ∈ l, 0 ≤ x ∧ x < 256) :
    Calls Try.prog 21 #[.slice A n c] w fun e w' => e = .returned (.string (nm l)) ∧ Below w.heap.size w w' := by
  subst hn
  exact rname_calls A c l w hC hc hl h8
theorem C_const1 (W : World) (x : Int) : (Kd.int .u8).C (W.alloc (.cells #[.int .u8 x] 5 (1, 2))) (some ⟨W.heap.size, 0, none⟩) 1 [x] := by
  refine Kd.C_of_reads (enc := Value.int .u8) (d := (0 : Int)) ⟨rfl, by decide, fun _ => ⟨_, rfl, fun j hj => ?_⟩⟩
  obtain rfl : j = 0 := by omega
  have h : (W.alloc (.cells #[.int .u8 x] 5 (1, 2))).heap[W.heap.size]? = some (.cells #[.int .u8 x] 5 (1, 2)) := by
    show (W.heap.push _)[W.heap.size]? = _
    simp
  generalize W.alloc (.cells #[.int .u8 x] 5 (1, 2)) = w1 at h ⊢
  simp [World.cell?, Addr.add, h, rdOf]
theorem nm_small (l : List Int) : (nm l).size ≤ 4611686018427387904 := by rw [nm_size]; decide
set_option maxHeartbeats 4000000 in
set_option maxRecDepth 100000 in
theorem head_calls (w : World) : Calls Try.prog 9 #[] w fun e w' => e = .returned (.bool true) ∧ Below w.heap.size w w' := by
  obtain ⟨a, ha⟩ : ∃ a, nm [97] = a := ⟨_, rfl⟩
  obtain ⟨b, hb⟩ : ∃ b, nm [98] = b := ⟨_, rfl⟩
  obtain ⟨o, ho⟩ : ∃ o, nm [] = o := ⟨_, rfl⟩
  have hza : a.size ≤ 4611686018427387904 := by rw [← ha]; exact nm_small _
  have hzb : b.size ≤ 4611686018427387904 := by rw [← hb]; exact nm_small _
  have hzo : o.size ≤ 4611686018427387904 := by rw [← ho]; exact nm_small _
  have HPX := As.mk (fun x z => head_put (x := x) (z := z))
  have HPT := As.mk (fun x z => head_twice (x := x) (z := z))
  rw [ha, hb, ho] at HPX
  rw [ha] at HPT
  have HA := As.mk ha
  have HBb := As.mk hb
  have HO := As.mk ho
  clear ha hb ho
  have hcv := fun (W : World) (x : Int) => Lib.run_convert_bytes_const (P := Try.prog) W 23 5 #[.int .u8 x] 1 1 Try.underlying23 Try.underlying5
  go_enter Try.func9, Try.ntmps9
  go_wp2_with (fail)
  refine (rn_calls _ 1 1 [97] _ (C_const1 w 97) rfl (by decide) (by decide) (by decide)).mono ?_
  rintro e w1 ⟨rfl, k⟩
  have HB1 : As (Below w.heap.size w w1) := ⟨((Below.refl _ w).alloc (Nat.le_refl _) _).trans (k.mono (by simp))⟩
  clear k
  rw [HA.out]
  go_wp2_with (fail)
  refine (rn_calls _ 1 1 [98] _ (C_const1 w1 98) rfl (by decide) (by decide) (by decide)).mono ?_
  rintro e w2 ⟨rfl, k⟩
  have HB2 : As (Below w.heap.size w w2) := ⟨(HB1.out.alloc HB1.out.size _).trans (k.mono (by rw [World.size_alloc]; have := HB1.out.size; omega))⟩
  clear k HB1
  rw [HBb.out]
  go_wp2_with (fail)
  refine (put_calls (some ⟨w2.heap.size, 0, none⟩) 2 2 [a, b] _ (C_strs w2 [a, b] (by simp)) rfl (by decide) (by
    intro s hs
    rcases List.mem_cons.1 hs with rfl | hs
    · exact hza
    · rw [List.mem_singleton.1 hs]; exact hzb)).mono ?_
  rintro e w3 ⟨vx, x, z, rfl, hp, hR, k⟩
  have HB3 : As (Below w.heap.size w w3) := ⟨(HB2.out.alloc HB2.out.size _).trans (k.mono (by rw [World.size_alloc]; have := HB2.out.size; omega))⟩
  obtain ⟨rfl, hx2, hx3, hx4, hx5, s0_, s1_, hx6, hx7⟩ := HPX.out x z hp
  have hx8 := putR_8 hp
  obtain ⟨Ax, cx, rfl, hcx, hCx⟩ := Kd.R_reads hR
  rw [hx2] at hCx hcx ⊢
  have HCx := As.mk hCx
  have hxz : 612 ≤ 1073741824 := by decide
  have hfb := fun W h => find_calls Ax cx 612 x b W h hx2 hcx hxz hx8 hzb
  have hfo := fun W h => find_calls Ax cx 612 x o W h hx2 hcx hxz hx8 hzo
  have hax := fun W h => all_calls Ax cx 612 x W h hx2 hcx hxz hx8
  have hrx := fun W h => right_calls Ax cx 612 x W h hx2 hcx hxz hx8
  have hrn := fun W => right_calls none 0 0 [] W (Kd.C_nil _ _) rfl (by decide) (by decide) (by simp)
  rw [hx3] at hfb
  rw [hx4] at hfo
  rw [hx5] at hrx
  rw [hx6] at hax
  rw [right_nil] at hrn
  have HFB := As.mk hfb
  have HFO := As.mk hfo
  have HAX := As.mk hax
  have HRX := As.mk hrx
  have HRN := As.mk hrn
  have HX2 := As.mk hx2
  have HLS := As.mk hx7
  clear k hp hR hCx hfb hfo hax hrx hrn hx3 hx4 hx5 hx6 hx8 HB2 hx7 HPX hx2 hxz
  go_wp2_with (fail)
  refine (HFB.out _ HCx.out).mono ?_
  rintro e w4 ⟨rfl, k⟩
  have HB4 : As (Below w.heap.size w w4) := ⟨HB3.out.trans (k.mono HB3.out.size)⟩
  have HCx4 := As.mk (Kd.C_below HCx.out k)
  clear k HB3 HCx HFB
  simp only [Option.getD_some, Option.isSome_some]
  go_wp2_with (fail)
  refine (rn_calls none 0 0 [] _ (Kd.C_nil _ _) rfl (by decide) (by decide) (by simp)).mono ?_
  rintro e w5 ⟨rfl, k⟩
  have HB5 : As (Below w.heap.size w w5) := ⟨HB4.out.trans (k.mono HB4.out.size)⟩
  have HCx5 := As.mk (Kd.C_below HCx4.out k)
  clear k HB4 HCx4
  rw [HO.out]
  go_wp2_with (fail)
  refine (HFO.out _ HCx5.out).mono ?_
  rintro e w6 ⟨rfl, k⟩
  have HB6 : As (Below w.heap.size w w6) := ⟨HB5.out.trans (k.mono HB5.out.size)⟩
  have HCx6 := As.mk (Kd.C_below HCx5.out k)
  clear k HB5 HCx5 HFO
  simp only [Option.getD_none, Option.isSome_none]
  go_wp2_with (fail)
  refine (put_calls (some ⟨w6.heap.size, 0, none⟩) 2 2 [a, a] _ (C_strs w6 [a, a] (by simp)) rfl (by decide) (by
    intro s hs
    rcases List.mem_cons.1 hs with rfl | hs
    · exact hza
    · rw [List.mem_singleton.1 hs]; exact hza)).mono ?_
  rintro e w7 ⟨vy, y, z, rfl, hp, hR, k⟩
  have HB7 : As (Below w.heap.size w w7) := ⟨(HB6.out.alloc HB6.out.size _).trans (k.mono (by rw [World.size_alloc]; have := HB6.out.size; omega))⟩
  have HCx7 := As.mk (Kd.C_below HCx6.out (((Below.refl _ w6).alloc (Nat.le_refl _) _).trans (k.mono (by simp))))
  obtain rfl := HPT.out y z hp
  clear k hp hR HB6 HCx6 HPT
  go_wp2_with (fail)
  refine (put_calls (some ⟨w7.heap.size, 0, none⟩) 1 1 [⟨#[97]⟩] _ (C_strs w7 [⟨#[97]⟩] (by decide)) rfl (by decide) (by
    intro s hs
    rw [List.mem_singleton.1 hs]; decide)).mono ?_
  rintro e w8 ⟨vz, u, z, rfl, hp, hR, k⟩
  have HB8 : As (Below w.heap.size w w8) := ⟨(HB7.out.alloc HB7.out.size _).trans (k.mono (by rw [World.size_alloc]; have := HB7.out.size; omega))⟩
  have HCx8 := As.mk (Kd.C_below HCx7.out (((Below.refl _ w7).alloc (Nat.le_refl _) _).trans (k.mono (by simp))))
  obtain rfl := head_bad hp
  clear k hp hR HB7 HCx7
  go_wp2_with (fail)
  refine (HAX.out _ HCx8.out).mono ?_
  rintro e w9 ⟨vl, rfl, hR, k⟩
  have HB9 : As (Below w.heap.size w w9) := ⟨HB8.out.trans (k.mono HB8.out.size)⟩
  have HCX := As.mk (Kd.C_below HCx8.out k)
  obtain ⟨g, cl, rfl, _⟩ := Kd.R_form hR (by simp)
  have hCl := (Kd.R_reads' hR).2.2
  obtain ⟨ad, had0, hc0⟩ := Kd.at_string hCl 0 (by decide) (by simp)
  obtain ⟨ad', had, hc1⟩ := Kd.at_string hCl 1 (by decide) (by simp)
  obtain rfl : (⟨g, 0, none⟩ : Addr) = ad := by injection had0
  obtain rfl : (⟨g, 0, none⟩ : Addr) = ad' := by injection had
  have HCA : As (w9.cell? ⟨g, 0, none⟩ = some (.string s0_)) := ⟨by have := hc0; simpa [Addr.add, rdOf] using this⟩
  have HCB : As (w9.cell? ⟨g, 1, none⟩ = some (.string s1_)) := ⟨by have := hc1; simpa [Addr.add, rdOf] using this⟩
  clear k hR hCl hc0 hc1 HAX HCx8 HB8
  go_wp2_with (fail)
  refine start_ (n := 49) (S := fun w' => Below (w9).drew.heap.size (w9).drew w') (ds := []) #[false, false, false, false, false, false, false, false, false, false, false, false, false, false, false, false, false, false, false, false, false, false, false, false, false, false, false, false, false, false, false, false, false, false, false, false, false, false, false, false, false, false, false, false, false, false, false, false, false] (by kernel_rfl) rfl rfl (Below.refl _ _) (fun hHeld => ?_)
  refine pure_ (i := 0) (N := some 53) (v := ?_) (a' := ?_) #[true, false, false, false, false, false, false, false, false, false, false, false, false, false, false, false, false, false, false, false, false, false, false, false, false, false, false, false, false, false, false, false, false, false, false, false, false, false, false, false, false, false, false, false, false, false, false, false, false] rfl rfl (by kernel_rfl) (fun _ _ _ h => h) (Or.inl ⟨by rfl, ?_⟩) ?_ ?_
  rotate_left
  · intro w'
    go_simp
    with_reducible rfl
  rotate_left
  · simp only [Act.put, List.setIfInBounds_toArray, List.set_cons_zero, List.set_cons_succ, i64_w, i32_w]
    rfl
  refine pure_ (i := 1) (N := some 54) (v := ?_) (a' := ?_) #[true, true, false, false, false, false, false, false, false, false, false, false, false, false, false, false, false, false, false, false, false, false, false, false, false, false, false, false, false, false, false, false, false, false, false, false, false, false, false, false, false, false, false, false, false, false, false, false, false] rfl rfl (by kernel_rfl) (fun _ _ _ h => h) (Or.inl ⟨by rfl, ?_⟩) ?_ ?_
  rotate_left
  · intro w'
    go_simp
    with_reducible rfl
  rotate_left
  · simp only [Act.put, List.setIfInBounds_toArray, List.set_cons_zero, List.set_cons_succ, i64_w, i32_w]
    rfl
  refine pure_ (i := 2) (N := some 55) (v := ?_) (a' := ?_) #[true, true, true, false, false, false, false, false, false, false, false, false, false, false, false, false, false, false, false, false, false, false, false, false, false, false, false, false, false, false, false, false, false, false, false, false, false, false, false, false, false, false, false, false, false, false, false, false, false] rfl rfl (by kernel_rfl) (fun _ _ _ h => h) (Or.inl ⟨by rfl, ?_⟩) ?_ ?_
  rotate_left
  · intro w'
    go_simp
    with_reducible rfl
  rotate_left
  · simp only [Act.put, List.setIfInBounds_toArray, List.set_cons_zero, List.set_cons_succ, i64_w, i32_w]
    rfl
  refine pure_ (i := 3) (N := some 56) (v := ?_) (a' := ?_) #[true, true, true, true, false, false, false, false, false, false, false, false, false, false, false, false, false, false, false, false, false, false, false, false, false, false, false, false, false, false, false, false, false, false, false, false, false, false, false, false, false, false, false, false, false, false, false, false, false] rfl rfl (by kernel_rfl) (fun _ _ _ h => h) (Or.inl ⟨by rfl, ?_⟩) ?_ ?_
  rotate_left
  · intro w'
    go_simp
    with_reducible rfl
  rotate_left
  · simp only [Act.put, List.setIfInBounds_toArray, List.set_cons_zero, List.set_cons_succ, i64_w, i32_w]
    rfl
  refine pure_ (i := 4) (N := some 57) (v := ?_) (a' := ?_) #[true, true, true, true, true, false, false, false, false, false, false, false, false, false, false, false, false, false, false, false, false, false, false, false, false, false, false, false, false, false, false, false, false, false, false, false, false, false, false, false, false, false, false, false, false, false, false, false, false] rfl rfl (by kernel_rfl) (fun _ _ _ h => h) (Or.inl ⟨by rfl, ?_⟩) ?_ ?_
  rotate_left
  · intro w'
    go_simp
    with_reducible rfl
  rotate_left
  · simp only [Act.put, List.setIfInBounds_toArray, List.set_cons_zero, List.set_cons_succ, i64_w, i32_w]
    rfl
  refine pure_ (i := 5) (N := some 58) (v := ?_) (a' := ?_) #[true, true, true, true, true, true, false, false, false, false, false, false, false, false, false, false, false, false, false, false, false, false, false, false, false, false, false, false, false, false, false, false, false, false, false, false, false, false, false, false, false, false, false, false, false, false, false, false, false] rfl rfl (by kernel_rfl) (fun _ _ _ h => h) (Or.inl ⟨by rfl, ?_⟩) ?_ ?_
  rotate_left
  · intro w'
    go_simp
    with_reducible rfl
  rotate_left
  · simp only [Act.put, List.setIfInBounds_toArray, List.set_cons_zero, List.set_cons_succ, i64_w, i32_w]
    rfl
  refine pure_ (i := 6) (N := some 59) (v := ?_) (a' := ?_) #[true, true, true, true, true, true, true, false, false, false, false, false, false, false, false, false, false, false, false, false, false, false, false, false, false, false, false, false, false, false, false, false, false, false, false, false, false, false, false, false, false, false, false, false, false, false, false, false, false] rfl rfl (by kernel_rfl) (fun _ _ _ h => h) (Or.inl ⟨by rfl, ?_⟩) ?_ ?_
  rotate_left
  · intro w'
    go_simp
    with_reducible rfl
  rotate_left
  · simp only [Act.put, List.setIfInBounds_toArray, List.set_cons_zero, List.set_cons_succ, i64_w, i32_w]
    rfl
  refine pure_ (i := 7) (N := some 60) (v := ?_) (a' := ?_) #[true, true, true, true, true, true, true, true, false, false, false, false, false, false, false, false, false, false, false, false, false, false, false, false, false, false, false, false, false, false, false, false, false, false, false, false, false, false, false, false, false, false, false, false, false, false, false, false, false] rfl rfl (by kernel_rfl) (fun _ _ _ h => h) (Or.inl ⟨by rfl, ?_⟩) ?_ ?_
  rotate_left
  · intro w'
    go_simp
    with_reducible rfl
  rotate_left
  · simp only [Act.put, List.setIfInBounds_toArray, List.set_cons_zero, List.set_cons_succ, i64_w, i32_w]
    rfl
  refine pure_ (i := 8) (N := some 61) (v := ?_) (a' := ?_) #[true, true, true, true, true, true, true, true, true, false, false, false, false, false, false, false, false, false, false, false, false, false, false, false, false, false, false, false, false, false, false, false, false, false, false, false, false, false, false, false, false, false, false, false, false, false, false, false, false] rfl rfl (by kernel_rfl) (fun _ _ _ h => h) (Or.inl ⟨by rfl, ?_⟩) ?_ ?_
  rotate_left
  · intro w'
    go_simp
    with_reducible rfl
  rotate_left
  · simp only [Act.put, List.setIfInBounds_toArray, List.set_cons_zero, List.set_cons_succ, i64_w, i32_w]
    rfl
  refine pure_ (i := 9) (N := some 62) (v := ?_) (a' := ?_) #[true, true, true, true, true, true, true, true, true, true, false, false, false, false, false, false, false, false, false, false, false, false, false, false, false, false, false, false, false, false, false, false, false, false, false, false, false, false, false, false, false, false, false, false, false, false, false, false, false] rfl rfl (by kernel_rfl) (fun _ _ _ h => h) (Or.inl ⟨by rfl, ?_⟩) ?_ ?_
  rotate_left
  · intro w'
    go_simp
    with_reducible rfl
  rotate_left
  · simp only [Act.put, List.setIfInBounds_toArray, List.set_cons_zero, List.set_cons_succ, i64_w, i32_w]
    rfl
  refine pure_ (i := 10) (N := some 63) (v := ?_) (a' := ?_) #[true, true, true, true, true, true, true, true, true, true, true, false, false, false, false, false, false, false, false, false, false, false, false, false, false, false, false, false, false, false, false, false, false, false, false, false, false, false, false, false, false, false, false, false, false, false, false, false, false] rfl rfl (by kernel_rfl) (fun _ _ _ h => h) (Or.inl ⟨by rfl, ?_⟩) ?_ ?_
  rotate_left
  · intro w'
    go_simp
    with_reducible rfl
  rotate_left
  · simp only [Act.put, List.setIfInBounds_toArray, List.set_cons_zero, List.set_cons_succ, i64_w, i32_w]
    rfl
  refine pure_ (i := 11) (N := some 64) (v := ?_) (a' := ?_) #[true, true, true, true, true, true, true, true, true, true, true, true, false, false, false, false, false, false, false, false, false, false, false, false, false, false, false, false, false, false, false, false, false, false, false, false, false, false, false, false, false, false, false, false, false, false, false, false, false] rfl rfl (by kernel_rfl) (fun _ _ _ h => h) (Or.inl ⟨by rfl, ?_⟩) ?_ ?_
  rotate_left
  · intro w'
    go_simp
    with_reducible rfl
  rotate_left
  · simp only [Act.put, List.setIfInBounds_toArray, List.set_cons_zero, List.set_cons_succ, i64_w, i32_w]
    rfl
  refine pure_ (i := 12) (N := some 65) (v := ?_) (a' := ?_) #[true, true, true, true, true, true, true, true, true, true, true, true, true, false, false, false, false, false, false, false, false, false, false, false, false, false, false, false, false, false, false, false, false, false, false, false, false, false, false, false, false, false, false, false, false, false, false, false, false] rfl rfl (by kernel_rfl) (fun _ _ _ h => h) (Or.inl ⟨by rfl, ?_⟩) ?_ ?_
  rotate_left
  · intro w'
    go_simp
    with_reducible rfl
  rotate_left
  · simp only [Act.put, List.setIfInBounds_toArray, List.set_cons_zero, List.set_cons_succ, i64_w, i32_w]
    rfl
  refine pure_ (i := 13) (N := some 66) (v := ?_) (a' := ?_) #[true, true, true, true, true, true, true, true, true, true, true, true, true, true, false, false, false, false, false, false, false, false, false, false, false, false, false, false, false, false, false, false, false, false, false, false, false, false, false, false, false, false, false, false, false, false, false, false, false] rfl rfl (by kernel_rfl) (fun _ _ _ h => h) (Or.inl ⟨by rfl, ?_⟩) ?_ ?_
  rotate_left
  · intro w'
    go_simp
    with_reducible rfl
  rotate_left
  · simp only [Act.put, List.setIfInBounds_toArray, List.set_cons_zero, List.set_cons_succ, i64_w, i32_w]
    rfl
  refine pure_ (i := 14) (N := some 67) (v := ?_) (a' := ?_) #[true, true, true, true, true, true, true, true, true, true, true, true, true, true, true, false, false, false, false, false, false, false, false, false, false, false, false, false, false, false, false, false, false, false, false, false, false, false, false, false, false, false, false, false, false, false, false, false, false] rfl rfl (by kernel_rfl) (fun _ _ _ h => h) (Or.inl ⟨by rfl, ?_⟩) ?_ ?_
  rotate_left
  · intro w'
    go_simp
    with_reducible rfl
  rotate_left
  · simp only [Act.put, List.setIfInBounds_toArray, List.set_cons_zero, List.set_cons_succ, i64_w, i32_w]
    rfl
  refine pure_ (i := 15) (N := some 68) (v := ?_) (a' := ?_) #[true, true, true, true, true, true, true, true, true, true, true, true, true, true, true, true, false, false, false, false, false, false, false, false, false, false, false, false, false, false, false, false, false, false, false, false, false, false, false, false, false, false, false, false, false, false, false, false, false] rfl rfl (by kernel_rfl) (fun _ _ _ h => h) (Or.inl ⟨by rfl, ?_⟩) ?_ ?_
  rotate_left
  · intro w'
    go_simp
    with_reducible rfl
  rotate_left
  · simp only [Act.put, List.setIfInBounds_toArray, List.set_cons_zero, List.set_cons_succ, i64_w, i32_w]
    rfl
  refine pure_ (i := 16) (N := some 69) (v := ?_) (a' := ?_) #[true, true, true, true, true, true, true, true, true, true, true, true, true, true, true, true, true, false, false, false, false, false, false, false, false, false, false, false, false, false, false, false, false, false, false, false, false, false, false, false, false, false, false, false, false, false, false, false, false] rfl rfl (by kernel_rfl) (fun _ _ _ h => h) (Or.inl ⟨by rfl, ?_⟩) ?_ ?_
  rotate_left
  · intro w'
    go_simp
    with_reducible rfl
  rotate_left
  · simp only [Act.put, List.setIfInBounds_toArray, List.set_cons_zero, List.set_cons_succ, i64_w, i32_w]
    rfl
  refine pure_ (i := 17) (N := some 70) (v := ?_) (a' := ?_) #[true, true, true, true, true, true, true, true, true, true, true, true, true, true, true, true, true, true, false, false, false, false, false, false, false, false, false, false, false, false, false, false, false, false, false, false, false, false, false, false, false, false, false, false, false, false, false, false, false] rfl rfl (by kernel_rfl) (fun _ _ _ h => h) (Or.inl ⟨by rfl, ?_⟩) ?_ ?_
  rotate_left
  · intro w'
    go_simp
    with_reducible rfl
  rotate_left
  · simp only [Act.put, List.setIfInBounds_toArray, List.set_cons_zero, List.set_cons_succ, i64_w, i32_w]
    rfl
  refine pure_ (i := 18) (N := some 71) (v := ?_) (a' := ?_) #[true, true, true, true, true, true, true, true, true, true, true, true, true, true, true, true, true, true, true, false, false, false, false, false, false, false, false, false, false, false, false, false, false, false, false, false, false, false, false, false, false, false, false, false, false, false, false, false, false] rfl rfl (by kernel_rfl) (fun _ _ _ h => h) (Or.inl ⟨by rfl, ?_⟩) ?_ ?_
  rotate_left
  · intro w'
    go_simp
    with_reducible rfl
  rotate_left
  · simp only [Act.put, List.setIfInBounds_toArray, List.set_cons_zero, List.set_cons_succ, i64_w, i32_w]
    rfl
  refine pure_ (i := 19) (N := some 72) (v := ?_) (a' := ?_) #[true, true, true, true, true, true, true, true, true, true, true, true, true, true, true, true, true, true, true, true, false, false, false, false, false, false, false, false, false, false, false, false, false, false, false, false, false, false, false, false, false, false, false, false, false, false, false, false, false] rfl rfl (by kernel_rfl) (fun _ _ _ h => h) (Or.inl ⟨by rfl, ?_⟩) ?_ ?_
  rotate_left
  · intro w'
    go_simp
    with_reducible rfl
  rotate_left
  · simp only [Act.put, List.setIfInBounds_toArray, List.set_cons_zero, List.set_cons_succ, i64_w, i32_w]
    rfl
  refine pure_ (i := 20) (N := some 73) (v := ?_) (a' := ?_) #[true, true, true, true, true, true, true, true, true, true, true, true, true, true, true, true, true, true, true, true, true, false, false, false, false, false, false, false, false, false, false, false, false, false, false, false, false, false, false, false, false, false, false, false, false, false, false, false, false] rfl rfl (by kernel_rfl) (fun _ _ _ h => h) (Or.inl ⟨by rfl, ?_⟩) ?_ ?_
  rotate_left
  · intro w'
    go_simp
    with_reducible rfl
  rotate_left
  · simp only [Act.put, List.setIfInBounds_toArray, List.set_cons_zero, List.set_cons_succ, i64_w, i32_w]
    rfl
  refine pure_ (i := 21) (N := some 74) (v := ?_) (a' := ?_) #[true, true, true, true, true, true, true, true, true, true, true, true, true, true, true, true, true, true, true, true, true, true, false, false, false, false, false, false, false, false, false, false, false, false, false, false, false, false, false, false, false, false, false, false, false, false, false, false, false] rfl rfl (by kernel_rfl) (fun _ _ _ h => h) (Or.inl ⟨by rfl, ?_⟩) ?_ ?_
  rotate_left
  · intro w'
    go_simp
    with_reducible rfl
  rotate_left
  · simp only [Act.put, List.setIfInBounds_toArray, List.set_cons_zero, List.set_cons_succ, i64_w, i32_w]
    rfl
  refine pure_ (i := 22) (N := some 75) (v := ?_) (a' := ?_) #[true, true, true, true, true, true, true, true, true, true, true, true, true, true, true, true, true, true, true, true, true, true, true, false, false, false, false, false, false, false, false, false, false, false, false, false, false, false, false, false, false, false, false, false, false, false, false, false, false] rfl rfl (by kernel_rfl) (fun _ _ _ h => h) (Or.inl ⟨by rfl, ?_⟩) ?_ ?_
  rotate_left
  · intro w'
    go_simp
    with_reducible rfl
  rotate_left
  · simp only [Act.put, List.setIfInBounds_toArray, List.set_cons_zero, List.set_cons_succ, i64_w, i32_w]
    rfl
  refine pure_ (i := 23) (N := some 76) (v := ?_) (a' := ?_) #[true, true, true, true, true, true, true, true, true, true, true, true, true, true, true, true, true, true, true, true, true, true, true, true, false, false, false, false, false, false, false, false, false, false, false, false, false, false, false, false, false, false, false, false, false, false, false, false, false] rfl rfl (by kernel_rfl) (fun _ _ _ h => h) (Or.inl ⟨by rfl, ?_⟩) ?_ ?_
  rotate_left
  · intro w'
    go_simp
    with_reducible rfl
  rotate_left
  · simp only [Act.put, List.setIfInBounds_toArray, List.set_cons_zero, List.set_cons_succ, i64_w, i32_w]
    rfl
  refine pure_ (i := 24) (N := some 77) (v := ?_) (a' := ?_) #[true, true, true, true, true, true, true, true, true, true, true, true, true, true, true, true, true, true, true, true, true, true, true, true, true, false, false, false, false, false, false, false, false, false, false, false, false, false, false, false, false, false, false, false, false, false, false, false, false] rfl rfl (by kernel_rfl) (fun _ _ _ h => h) (Or.inl ⟨by rfl, ?_⟩) ?_ ?_
  rotate_left
  · intro w'
    go_simp
    with_reducible rfl
  rotate_left
  · simp only [Act.put, List.setIfInBounds_toArray, List.set_cons_zero, List.set_cons_succ, i64_w, i32_w]
    rfl
  refine pure_ (i := 25) (N := some 78) (v := ?_) (a' := ?_) #[true, true, true, true, true, true, true, true, true, true, true, true, true, true, true, true, true, true, true, true, true, true, true, true, true, true, false, false, false, false, false, false, false, false, false, false, false, false, false, false, false, false, false, false, false, false, false, false, false] rfl rfl (by kernel_rfl) (fun _ _ _ h => h) (Or.inl ⟨by rfl, ?_⟩) ?_ ?_
  rotate_left
  · intro w'
    go_simp
    with_reducible rfl
  rotate_left
  · simp only [Act.put, List.setIfInBounds_toArray, List.set_cons_zero, List.set_cons_succ, i64_w, i32_w]
    rfl
  refine pure_ (i := 26) (N := some 79) (v := ?_) (a' := ?_) #[true, true, true, true, true, true, true, true, true, true, true, true, true, true, true, true, true, true, true, true, true, true, true, true, true, true, true, false, false, false, false, false, false, false, false, false, false, false, false, false, false, false, false, false, false, false, false, false, false] rfl rfl (by kernel_rfl) (fun _ _ _ h => h) (Or.inl ⟨by rfl, ?_⟩) ?_ ?_
  rotate_left
  · intro w'
    go_simp
    with_reducible rfl
  rotate_left
  · simp only [Act.put, List.setIfInBounds_toArray, List.set_cons_zero, List.set_cons_succ, i64_w, i32_w]
    rfl
  refine pure_ (i := 27) (N := some 80) (v := ?_) (a' := ?_) #[true, true, true, true, true, true, true, true, true, true, true, true, true, true, true, true, true, true, true, true, true, true, true, true, true, true, true, true, false, false, false, false, false, false, false, false, false, false, false, false, false, false, false, false, false, false, false, false, false] rfl rfl (by kernel_rfl) (fun _ _ _ h => h) (Or.inl ⟨by rfl, ?_⟩) ?_ ?_
  rotate_left
  · intro w'
    go_simp
    with_reducible rfl
  rotate_left
  · simp only [Act.put, List.setIfInBounds_toArray, List.set_cons_zero, List.set_cons_succ, i64_w, i32_w]
    rfl
  refine pure_ (i := 28) (N := some 81) (v := ?_) (a' := ?_) #[true, true, true, true, true, true, true, true, true, true, true, true, true, true, true, true, true, true, true, true, true, true, true, true, true, true, true, true, true, false, false, false, false, false, false, false, false, false, false, false, false, false, false, false, false, false, false, false, false] rfl rfl (by kernel_rfl) (fun _ _ _ h => h) (Or.inl ⟨by rfl, ?_⟩) ?_ ?_
  rotate_left
  · intro w'
    go_simp
    with_reducible rfl
  rotate_left
  · simp only [Act.put, List.setIfInBounds_toArray, List.set_cons_zero, List.set_cons_succ, i64_w, i32_w]
    rfl
  refine pure_ (i := 29) (N := some 82) (v := ?_) (a' := ?_) #[true, true, true, true, true, true, true, true, true, true, true, true, true, true, true, true, true, true, true, true, true, true, true, true, true, true, true, true, true, true, false, false, false, false, false, false, false, false, false, false, false, false, false, false, false, false, false, false, false] rfl rfl (by kernel_rfl) (fun _ _ _ h => h) (Or.inl ⟨by rfl, ?_⟩) ?_ ?_
  rotate_left
  · intro w'
    go_simp
    with_reducible rfl
  rotate_left
  · simp only [Act.put, List.setIfInBounds_toArray, List.set_cons_zero, List.set_cons_succ, i64_w, i32_w]
    rfl
  refine pure_ (i := 30) (N := some 83) (v := ?_) (a' := ?_) #[true, true, true, true, true, true, true, true, true, true, true, true, true, true, true, true, true, true, true, true, true, true, true, true, true, true, true, true, true, true, true, false, false, false, false, false, false, false, false, false, false, false, false, false, false, false, false, false, false] rfl rfl (by kernel_rfl) (fun _ _ _ h => h) (Or.inl ⟨by rfl, ?_⟩) ?_ ?_
  rotate_left
  · intro w'
    go_simp
    with_reducible rfl
  rotate_left
  · simp only [Act.put, List.setIfInBounds_toArray, List.set_cons_zero, List.set_cons_succ, i64_w, i32_w]
    rfl
  refine pure_ (i := 31) (N := some 84) (v := ?_) (a' := ?_) #[true, true, true, true, true, true, true, true, true, true, true, true, true, true, true, true, true, true, true, true, true, true, true, true, true, true, true, true, true, true, true, true, false, false, false, false, false, false, false, false, false, false, false, false, false, false, false, false, false] rfl rfl (by kernel_rfl) (fun _ _ _ h => h) (Or.inl ⟨by rfl, ?_⟩) ?_ ?_
  rotate_left
  · intro w'
    go_simp
    with_reducible rfl
  rotate_left
  · simp only [Act.put, List.setIfInBounds_toArray, List.set_cons_zero, List.set_cons_succ, i64_w, i32_w]
    rfl
  refine pure_ (i := 32) (N := some 85) (v := ?_) (a' := ?_) #[true, true, true, true, true, true, true, true, true, true, true, true, true, true, true, true, true, true, true, true, true, true, true, true, true, true, true, true, true, true, true, true, true, false, false, false, false, false, false, false, false, false, false, false, false, false, false, false, false] rfl rfl (by kernel_rfl) (fun _ _ _ h => h) (Or.inl ⟨by rfl, ?_⟩) ?_ ?_
  rotate_left
  · intro w'
    go_simp
    with_reducible rfl
  rotate_left
  · simp only [Act.put, List.setIfInBounds_toArray, List.set_cons_zero, List.set_cons_succ, i64_w, i32_w]
    rfl
  refine pure_ (i := 33) (N := some 86) (v := ?_) (a' := ?_) #[true, true, true, true, true, true, true, true, true, true, true, true, true, true, true, true, true, true, true, true, true, true, true, true, true, true, true, true, true, true, true, true, true, true, false, false, false, false, false, false, false, false, false, false, false, false, false, false, false] rfl rfl (by kernel_rfl) (fun _ _ _ h => h) (Or.inl ⟨by rfl, ?_⟩) ?_ ?_
  rotate_left
  · intro w'
    go_simp
    with_reducible rfl
  rotate_left
  · simp only [Act.put, List.setIfInBounds_toArray, List.set_cons_zero, List.set_cons_succ, i64_w, i32_w]
    rfl
  refine pure_ (i := 35) (N := some 88) (v := ?_) (a' := ?_) #[true, true, true, true, true, true, true, true, true, true, true, true, true, true, true, true, true, true, true, true, true, true, true, true, true, true, true, true, true, true, true, true, true, true, false, true, false, false, false, false, false, false, false, false, false, false, false, false, false] rfl rfl (by kernel_rfl) (fun _ _ _ h => h) (Or.inl ⟨by rfl, ?_⟩) ?_ ?_
  rotate_left
  · intro w'
    go_simp
    with_reducible rfl
  rotate_left
  · simp only [Act.put, List.setIfInBounds_toArray, List.set_cons_zero, List.set_cons_succ, i64_w, i32_w]
    rfl
  refine pure_ (i := 36) (N := some 89) (v := ?_) (a' := ?_) #[true, true, true, true, true, true, true, true, true, true, true, true, true, true, true, true, true, true, true, true, true, true, true, true, true, true, true, true, true, true, true, true, true, true, false, true, true, false, false, false, false, false, false, false, false, false, false, false, false] rfl rfl (by kernel_rfl) (fun _ _ _ h => h) (Or.inl ⟨by rfl, ?_⟩) ?_ ?_
  rotate_left
  · intro w'
    go_simp
    with_reducible rfl
  rotate_left
  · simp only [Act.put, List.setIfInBounds_toArray, List.set_cons_zero, List.set_cons_succ, i64_w, i32_w]
    rfl
  refine take_ (i := 34) (N := some 87) (v := ?_) (a' := ?_) #[true, true, true, true, true, true, true, true, true, true, true, true, true, true, true, true, true, true, true, true, true, true, true, true, true, true, true, true, true, true, true, true, true, true, true, true, true, false, false, false, false, false, false, false, false, false, false, false, false] rfl rfl (by kernel_rfl) (fun _ _ _ h => h) (Or.inl ⟨by rfl, ?_⟩) hHeld ?_ ?_
  rotate_left
  · intro w' s0
    have hb0 : Below w9.heap.size w9 w' := (Below.refl _ w9).drew.trans s0
    have q0 : w'.cell? ⟨g, 0, none⟩ = some (.string s0_) := (hb0.cell (World.block_lt_of_cell? _ _ HCA.out)).trans HCA.out
    have q1 : w'.cell? ⟨g, 1, none⟩ = some (.string s1_) := (hb0.cell (World.block_lt_of_cell? _ _ HCB.out)).trans HCB.out
    go_simp
    with_reducible rfl
  rotate_left
  · simp only [Act.put, List.setIfInBounds_toArray, List.set_cons_zero, List.set_cons_succ, i64_w, i32_w]
    rfl
  refine take_ (i := 37) (N := some 90) (v := ?_) (a' := ?_) #[true, true, true, true, true, true, true, true, true, true, true, true, true, true, true, true, true, true, true, true, true, true, true, true, true, true, true, true, true, true, true, true, true, true, true, true, true, true, false, false, false, false, false, false, false, false, false, false, false] rfl rfl (by kernel_rfl) (fun _ _ _ h => h) (Or.inl ⟨by rfl, ?_⟩) hHeld ?_ ?_
  rotate_left
  · intro w' s0
    have hb0 : Below w9.heap.size w9 w' := (Below.refl _ w9).drew.trans s0
    have q0 : w'.cell? ⟨g, 0, none⟩ = some (.string s0_) := (hb0.cell (World.block_lt_of_cell? _ _ HCA.out)).trans HCA.out
    have q1 : w'.cell? ⟨g, 1, none⟩ = some (.string s1_) := (hb0.cell (World.block_lt_of_cell? _ _ HCB.out)).trans HCB.out
    go_simp
    with_reducible rfl
  rotate_left
  · simp only [Act.put, List.setIfInBounds_toArray, List.set_cons_zero, List.set_cons_succ, i64_w, i32_w]
    rfl
  refine pure_ (i := 38) (N := some 91) (v := ?_) (a' := ?_) #[true, true, true, true, true, true, true, true, true, true, true, true, true, true, true, true, true, true, true, true, true, true, true, true, true, true, true, true, true, true, true, true, true, true, true, true, true, true, true, false, false, false, false, false, false, false, false, false, false] rfl rfl (by kernel_rfl) (fun _ _ _ h => h) (Or.inl ⟨by rfl, ?_⟩) ?_ ?_
  rotate_left
  · intro w'
    go_simp
    with_reducible rfl
  rotate_left
  · simp only [Act.put, List.setIfInBounds_toArray, List.set_cons_zero, List.set_cons_succ, i64_w, i32_w]
    rw [HLS.out]
  refine pure_ (i := 39) (N := some 92) (v := ?_) (a' := ?_) #[true, true, true, true, true, true, true, true, true, true, true, true, true, true, true, true, true, true, true, true, true, true, true, true, true, true, true, true, true, true, true, true, true, true, true, true, true, true, true, true, false, false, false, false, false, false, false, false, false] rfl rfl (by kernel_rfl) (fun _ _ _ h => h) (Or.inl ⟨by rfl, ?_⟩) ?_ ?_
  rotate_left
  · intro w'
    go_simp
    with_reducible rfl
  rotate_left
  · simp only [Act.put, List.setIfInBounds_toArray, List.set_cons_zero, List.set_cons_succ, i64_w, i32_w]
    rfl
  refine pure_ (i := 40) (N := some 93) (v := ?_) (a' := ?_) #[true, true, true, true, true, true, true, true, true, true, true, true, true, true, true, true, true, true, true, true, true, true, true, true, true, true, true, true, true, true, true, true, true, true, true, true, true, true, true, true, true, false, false, false, false, false, false, false, false] rfl rfl (by kernel_rfl) (fun _ _ _ h => h) (Or.inl ⟨by rfl, ?_⟩) ?_ ?_
  rotate_left
  · intro w'
    go_simp
    with_reducible rfl
  rotate_left
  · simp only [Act.put, List.setIfInBounds_toArray, List.set_cons_zero, List.set_cons_succ, i64_w, i32_w]
    rfl
  refine pure_ (i := 41) (N := some 94) (v := ?_) (a' := ?_) #[true, true, true, true, true, true, true, true, true, true, true, true, true, true, true, true, true, true, true, true, true, true, true, true, true, true, true, true, true, true, true, true, true, true, true, true, true, true, true, true, true, true, false, false, false, false, false, false, false] rfl rfl (by kernel_rfl) (fun _ _ _ h => h) (Or.inl ⟨by rfl, ?_⟩) ?_ ?_
  rotate_left
  · intro w'
    go_simp
    with_reducible rfl
  rotate_left
  · simp only [Act.put, List.setIfInBounds_toArray, List.set_cons_zero, List.set_cons_succ, i64_w, i32_w]
    rfl
  refine one_ (i := 42) (N := some 95) #[true, true, true, true, true, true, true, true, true, true, true, true, true, true, true, true, true, true, true, true, true, true, true, true, true, true, true, true, true, true, true, true, true, true, true, true, true, true, true, true, true, true, true, false, false, false, false, false, false] rfl rfl (by kernel_rfl) (by decide) (fun K hK => ?_)
  refine goes_ Try.func15 (by kernel_rfl) rfl #[.slice Ax 612 cx] (by rfl) rfl rfl (by simp only [List.map_toArray, List.map_cons, List.map_nil]; rfl) ?_
  with_reducible refine (HRX.out _ (Kd.C_below HCX.out ((Below.refl _ w9).drew))).mono ?_
  rintro e x1 ⟨rfl, hb1⟩
  refine ⟨_, rfl, ?_⟩
  have HX1 := hb1
  refine hK.out _ _ (hb1) (fun hHeld => ?_)
  clear hK K
  refine norm_ (a' := ?_) ?_ ?_
  rotate_left
  · show Act.put _ (some 95) _ = _
    simp only [Act.put, List.setIfInBounds_toArray, List.set_cons_zero, List.set_cons_succ, i64_w, i32_w]
    rfl
  refine RegW.change_ hHeld ?_
  clear hHeld
  have hHeld := Below.refl x1.heap.size x1
  refine pure_ (i := 43) (N := some 96) (v := ?_) (a' := ?_) #[true, true, true, true, true, true, true, true, true, true, true, true, true, true, true, true, true, true, true, true, true, true, true, true, true, true, true, true, true, true, true, true, true, true, true, true, true, true, true, true, true, true, true, true, false, false, false, false, false] rfl rfl (by kernel_rfl) (fun _ _ _ h => h) (Or.inl ⟨by rfl, ?_⟩) ?_ ?_
  rotate_left
  · intro w'
    go_simp
    with_reducible rfl
  rotate_left
  · simp only [Act.put, List.setIfInBounds_toArray, List.set_cons_zero, List.set_cons_succ, i64_w, i32_w]
    rfl
  refine pure_ (i := 44) (N := some 97) (v := ?_) (a' := ?_) #[true, true, true, true, true, true, true, true, true, true, true, true, true, true, true, true, true, true, true, true, true, true, true, true, true, true, true, true, true, true, true, true, true, true, true, true, true, true, true, true, true, true, true, true, true, false, false, false, false] rfl rfl (by kernel_rfl) (fun _ _ _ h => h) (Or.inl ⟨by rfl, ?_⟩) ?_ ?_
  rotate_left
  · intro w'
    go_simp
    with_reducible rfl
  rotate_left
  · simp only [Act.put, List.setIfInBounds_toArray, List.set_cons_zero, List.set_cons_succ, i64_w, i32_w]
    rfl
  refine one_ (i := 45) (N := some 98) #[true, true, true, true, true, true, true, true, true, true, true, true, true, true, true, true, true, true, true, true, true, true, true, true, true, true, true, true, true, true, true, true, true, true, true, true, true, true, true, true, true, true, true, true, true, true, false, false, false] rfl rfl (by kernel_rfl) (by decide) (fun K hK => ?_)
  refine goes_ Try.func15 (by kernel_rfl) rfl #[.slice none 0 0] (by rfl) rfl rfl (by simp only [List.map_toArray, List.map_cons, List.map_nil]; rfl) ?_
  with_reducible refine (HRN.out _).mono ?_
  rintro e x2 ⟨rfl, hb2⟩
  refine ⟨_, rfl, ?_⟩
  refine hK.out _ _ (hb2) (fun hHeld => ?_)
  clear hK K
  refine norm_ (a' := ?_) ?_ ?_
  rotate_left
  · show Act.put _ (some 98) _ = _
    simp only [Act.put, List.setIfInBounds_toArray, List.set_cons_zero, List.set_cons_succ, i64_w, i32_w]
    rfl
  refine RegW.change_ hHeld ?_
  clear hHeld
  have hHeld := Below.refl x2.heap.size x2
  refine pure_ (i := 46) (N := some 99) (v := ?_) (a' := ?_) #[true, true, true, true, true, true, true, true, true, true, true, true, true, true, true, true, true, true, true, true, true, true, true, true, true, true, true, true, true, true, true, true, true, true, true, true, true, true, true, true, true, true, true, true, true, true, true, false, false] rfl rfl (by kernel_rfl) (fun _ _ _ h => h) (Or.inl ⟨by rfl, ?_⟩) ?_ ?_
  rotate_left
  · intro w'
    go_simp
    with_reducible rfl
  rotate_left
  · simp only [Act.put, List.setIfInBounds_toArray, List.set_cons_zero, List.set_cons_succ, i64_w, i32_w]
    rfl
  refine pure_ (i := 47) (N := some 100) (v := ?_) (a' := ?_) #[true, true, true, true, true, true, true, true, true, true, true, true, true, true, true, true, true, true, true, true, true, true, true, true, true, true, true, true, true, true, true, true, true, true, true, true, true, true, true, true, true, true, true, true, true, true, true, true, false] rfl rfl (by kernel_rfl) (fun _ _ _ h => h) (Or.inl ⟨by rfl, ?_⟩) ?_ ?_
  rotate_left
  · intro w'
    go_simp
    with_reducible rfl
  rotate_left
  · simp only [Act.put, List.setIfInBounds_toArray, List.set_cons_zero, List.set_cons_succ, i64_w, i32_w]
    rfl
  refine pure_ (i := 48) (N := some 0) (v := ?_) (a' := ?_) #[true, true, true, true, true, true, true, true, true, true, true, true, true, true, true, true, true, true, true, true, true, true, true, true, true, true, true, true, true, true, true, true, true, true, true, true, true, true, true, true, true, true, true, true, true, true, true, true, true] rfl rfl (by kernel_rfl) (fun _ _ _ h => h) (Or.inl ⟨by rfl, ?_⟩) ?_ ?_
  rotate_left
  · intro w'
    go_simp
    with_reducible rfl
  rotate_left
  · simp only [Act.put, List.setIfInBounds_toArray, List.set_cons_zero, List.set_cons_succ, i64_w, i32_w]
    rfl
  refine done_ (by kernel_rfl) ?_
  have HBz : As (Below w.heap.size w x2) := ⟨HB9.out.drew.trans ((HX1.trans (hb2.mono HX1.size)).mono HB9.out.drew.size)⟩
  go_wp2_with (fail)
  go_ret
  exact ⟨rfl, HBz.out⟩
end Go.Proofs.Ytonhmjodgomeiaa.Ix
