/- Joined texts: IxGreat, IxPlace, IxMoreP, IxSame, IxFanP. No condition but what stands in each. -/
import Derived.Test.YtonhmjodgomeiaaMIxC
import Derived.Test.YtonhmjodgomeiaaMBase
/- Is it too much? What a frame knows of rows that came in. No condition. -/
namespace Go.Proofs.Ytonhmjodgomeiaa.Ix
set_option linter.unusedVariables false
set_option linter.unusedSimpArgs false
open Go.RowKit Blk Dg Go.Proofs.YtonhmjodgomeiaaW.PrintWords Go.Proofs.YtonhmjodgomeiaaW.PrintLast Go.Proofs.YtonhmjodgomeiaaW.PrintMore

theorem of_row {w : World} {a : Option Addr} {len cap : Nat} {zs : List Int}
    (h : (a = none ∧ len = 0 ∧ cap = 0 ∧ zs = []) ∨ ∃ x, a = some x ∧ len ≤ cap ∧ cap ≤ maxLen ∧ zs.length = cap ∧ (∀ i, i < zs.length → w.cell? (x.add i) = some (.int .u8 (zs.getD i 0))) ∧ ∀ n ∈ zs, (Lit.int .u8 n).wf = true) :
    ∃ l : List Int, l.length = len ∧ len ≤ cap ∧ len ≤ 9223372036854775807 ∧ (Kd.int .u8).C w a l.length l ∧ ∀ x ∈ l, 0 ≤ x ∧ x < 256 := by
  rcases h with ⟨rfl, rfl, rfl, rfl⟩ | ⟨x, rfl, hl, hm, hz, hc, hw⟩
  · exact ⟨[], rfl, Nat.le_refl _, by decide, Kd.C_nil _ _, by simp⟩
  · unfold maxLen at hm
    have hlen : (zs.take len).length = len := by simp; omega
    refine ⟨zs.take len, hlen, hl, by omega, ?_, fun y hy => ?_⟩
    · refine Kd.C_of_reads (enc := Value.int .u8) (d := (0 : Int)) ⟨rfl, by omega, fun _ => ⟨x, rfl, fun j hj => ?_⟩⟩
      rw [hc j (by omega)]
      simp [List.getElem?_take, show j < len by omega]
    · have := hw y (List.mem_of_mem_take hy)
      simp [Lit.wf, IntKind.min, IntKind.max, IntKind.signed, IntKind.bits] at this
      omega
theorem of_strs {w : World} {a : Option Addr} {len cap : Nat} {zs : List ByteArray}
    (h : (a = none ∧ len = 0 ∧ cap = 0 ∧ zs = []) ∨ ∃ x, a = some x ∧ len ≤ cap ∧ cap ≤ maxLen ∧ zs.length = cap ∧ (∀ i, i < zs.length → w.cell? (x.add i) = some (.string (zs.getD i ByteArray.empty))) ∧ ∀ s ∈ zs, s.size ≤ maxLen) :
    ∃ l : List ByteArray, l.length = len ∧ len ≤ cap ∧ len ≤ 9223372036854775807 ∧ Kd.string.C w a l.length l := by
  rcases h with ⟨rfl, rfl, rfl, rfl⟩ | ⟨x, rfl, hl, hm, hz, hc, hw⟩
  · exact ⟨[], rfl, Nat.le_refl _, by decide, Kd.C_nil _ _⟩
  · unfold maxLen at hm
    have hlen : (zs.take len).length = len := by simp; omega
    refine ⟨zs.take len, hlen, hl, by omega, ?_⟩
    refine Kd.C_of_reads (enc := Value.string) (d := ByteArray.empty) ⟨rfl, by omega, fun _ => ⟨x, rfl, fun j hj => ?_⟩⟩
    rw [hc j (by omega)]
    simp [List.getElem?_take, show j < len by omega]
theorem wr_g (x : Int) (h0 : 0 ≤ x) (h1 : x < 1000000000000) : wrap64 x = x := by unfold wrap64; omega
open Il in
theorem great_l0 (l : List ByteArray) (hl : l.length < 60000) : ∀ (k i x : Nat), i ≤ l.length → l.length - i < k → x < 120000 → ∃ r, sacristylaw08_great.l0 k l (x : Int) (i : Int) = some r ∧ (r = false → x < 60000 ∧ l.length ≤ 600 ∧ ∀ j, i ≤ j → ∀ s, l[j]? = some s → s.size < 60000)
  | 0, i, x, hi, hk, hx => by omega
  | k + 1, i, x, hi, hk, hx => by
    rw [sacristylaw08_great.l0]
    have hend : ∃ r, (if (x : Int) ≥ 60000 then some true else some (decide ((l.length : Int) > 600))) = some r ∧ (r = false → x < 60000 ∧ l.length ≤ 600) := by
      by_cases h : (x : Int) ≥ 60000
      · rw [if_pos h]; exact ⟨true, rfl, fun h => by cases h⟩
      · rw [if_neg h]; exact ⟨_, rfl, fun h => by have := of_decide_eq_false h; omega⟩
    by_cases h1 : (i : Int) < (l.length : Int)
    · rw [if_pos h1]
      by_cases h2 : (x : Int) < 60000
      · have hil : i < l.length := by omega
        rw [if_pos h2, if_pos (by omega)]
        obtain ⟨m, hm⟩ : ∃ m : Nat, mn ((rdOf ByteArray.empty l (i : Int)).size : Int) 60000 = (m : Int) ∧ m ≤ 60000 ∧ (m < 60000 → (rdOf ByteArray.empty l (i : Int)).size < 60000) := by
          unfold mn
          split
          · exact ⟨60000, rfl, by omega, by omega⟩
          · exact ⟨_, rfl, by omega, by omega⟩
        have hr : rdOf ByteArray.empty l (i : Int) = l[i] := by simp [rdOf, hil]
        rw [hm.1, wr_g _ (by omega) (by omega), wr_g _ (by omega) (by omega)]
        obtain ⟨r, h3, h4⟩ := great_l0 l hl k (i + 1) (x + m) (by omega) (by omega) (by omega)
        refine ⟨r, by rw [← h3]; rfl, fun h => ?_⟩
        obtain ⟨h5, h6, h7⟩ := h4 h
        refine ⟨by omega, h6, fun j hj s hs => ?_⟩
        by_cases hji : j = i
        · subst hji
          rw [List.getElem?_eq_getElem hil] at hs
          have := hm.2.2 (by omega)
          rw [hr, Option.some.inj hs] at this
          exact this
        · exact h7 j (by omega) s hs
      · rw [if_neg h2]
        obtain ⟨r, h3, h4⟩ := hend
        exact ⟨r, h3, fun h => absurd (h4 h).1 (by omega)⟩
    · rw [if_neg h1]
      obtain ⟨r, h3, h4⟩ := hend
      refine ⟨r, h3, fun h => ⟨(h4 h).1, (h4 h).2, fun j hj s hs => ?_⟩⟩
      have := (List.getElem?_eq_some_iff.1 hs).1
      omega
theorem great_law (l : List ByteArray) : ∃ r k, Il.sacristylaw08_great.f k l = some r ∧ (r = false → l.length ≤ 600 ∧ ∀ s ∈ l, s.size < 60000) := by
  by_cases h : l.length < 60000
  · obtain ⟨r, h1, h2⟩ := great_l0 l h (l.length + 1) 0 l.length (by omega) (by omega) (by omega)
    refine ⟨r, _, h1, fun hr => ⟨(h2 hr).2.1, fun s hs => ?_⟩⟩
    obtain ⟨j, hj⟩ := List.getElem?_of_mem hs
    exact (h2 hr).2.2 j (by omega) s hj
  · refine ⟨true, 1, ?_, fun h => by cases h⟩
    rw [Il.sacristylaw08_great.f, Il.sacristylaw08_great.l0, if_pos (by omega), if_neg (by omega), if_pos (by omega)]
/-- Is it too much? -/
noncomputable def greatB (l : List ByteArray) : Bool := (great_law l).choose
theorem greatB_small {l : List ByteArray} (h : greatB l = false) : l.length ≤ 600 ∧ ∀ s ∈ l, s.size < 60000 := by
  obtain ⟨k, _, h2⟩ := (great_law l).choose_spec
  exact h2 h
theorem great_calls (A : Option Addr) (c n : Nat) (l : List ByteArray) (w : World) (hC : Kd.string.C w A n l) (hn : l.length = n) (hc : n ≤ c) :
    Calls Try.prog 10 #[.slice A n c] w fun e w' => e = .returned (.bool (greatB l)) ∧ Below w.heap.size w w' := by
  subst hn
  obtain ⟨k, h1, _⟩ := (great_law l).choose_spec
  exact Il.sacristylaw08_great.calls k A c l _ w hC hc h1
end Go.Proofs.Ytonhmjodgomeiaa.Ix

/- What is found of an index that was made, plainly. No condition. -/
namespace Go.Proofs.Ytonhmjodgomeiaa.Ix
set_option linter.unusedVariables false
set_option linter.unusedSimpArgs false
open Go.RowKit Blk Dg Go.Proofs.YtonhmjodgomeiaaW.PrintWords Go.Proofs.YtonhmjodgomeiaaW.PrintLast Go.Proofs.YtonhmjodgomeiaaW.PrintMore

theorem put_nodup {ids : List ByteArray} {b : List Int} (h : PutR ids b 0) : ids.Nodup := by
  have := (putE_0 h.1.symm).2.2
  rw [List.nodup_iff_pairwise_ne, List.pairwise_map] at this
  rw [List.nodup_iff_pairwise_ne]
  exact this.imp fun hne e => hne (by rw [e])
theorem put_few {ids : List ByteArray} {b : List Int} (h : PutR ids b 0) : ids.length ≤ 512 := (putE_0 h.1.symm).1
theorem find_self {ids : List ByteArray} {b : List Int} {s : ByteArray} {i : Nat} (h : PutR ids b 0) (hi : ids[i]? = some s) : findL b s = some i := by
  classical
  rw [find_of h, List.findIdx?_eq_some_iff_getElem]
  obtain ⟨hl, he⟩ := List.getElem?_eq_some_iff.1 hi
  refine ⟨hl, by simp [he], fun j hj => ?_⟩
  have hn := put_nodup h
  rw [List.nodup_iff_pairwise_ne, List.pairwise_iff_getElem] at hn
  have := hn j i (by omega) hl hj
  rw [he] at this
  simpa using this
theorem find_none {ids : List ByteArray} {b : List Int} {s : ByteArray} (h : PutR ids b 0) (hs : s ∉ ids) : findL b s = none := by
  classical
  rw [find_of h, List.findIdx?_eq_none_iff]
  intro t ht
  refine decide_eq_false (fun e => hs ?_)
  rw [← e]; exact ht
theorem find_is {ids : List ByteArray} {b : List Int} (s : ByteArray) (h : PutR ids b 0) : (findL b s).isSome = true ↔ s ∈ ids := by
  by_cases hs : s ∈ ids
  · obtain ⟨i, hi⟩ := List.getElem?_of_mem hs
    rw [find_self h hi]; simp [hs]
  · rw [find_none h hs]; simp [hs]
theorem all_len {ids : List ByteArray} {b : List Int} (h : PutR ids b 0) : (allL b).length = ids.length := by
  obtain ⟨h1, h2, _⟩ := put_right h
  obtain ⟨ids', P, p1, p2, p3, p4, p5, p6, p7⟩ := all_of h2
  rw [h1] at p1
  obtain rfl := Option.some.inj p1
  rw [p6, List.length_map, p7]
noncomputable def memB (l : List ByteArray) (s : ByteArray) : Bool := by classical exact decide (s ∈ l)
theorem memB_iff {l : List ByteArray} {s : ByteArray} : memB l s = true ↔ s ∈ l := by unfold memB; simp
theorem eq_toList (s t : ByteArray) : (s.toList == t.toList) = true ↔ s = t := by rw [beq_iff_eq, toList_inj, ← str_inj]
theorem memB_snoc {l : List ByteArray} {i : Nat} {s t : ByteArray} (h : l[i]? = some s) : memB (l.take (i + 1)) t = (memB (l.take i) t || (s.toList == t.toList)) := by
  rw [Bool.eq_iff_iff, Bool.or_eq_true, memB_iff, memB_iff, eq_toList, List.take_add_one, h]
  simp [eq_comm]
theorem find_memB {ids : List ByteArray} {b : List Int} (s : ByteArray) (h : PutR ids b 0) : (findL b s).isSome = memB ids s := by
  rw [Bool.eq_iff_iff, find_is s h, memB_iff]
end Go.Proofs.Ytonhmjodgomeiaa.Ix

/- A name more, another order, plainly; rows of strings that grow. No condition. -/
namespace Go.Proofs.Ytonhmjodgomeiaa.Ix
set_option linter.unusedVariables false
set_option linter.unusedSimpArgs false
open Go.RowKit Blk Dg Go.Proofs.YtonhmjodgomeiaaW.PrintWords Go.Proofs.YtonhmjodgomeiaaW.PrintLast Go.Proofs.YtonhmjodgomeiaaW.PrintMore

theorem own_empty_s (W : World) (base : Nat) (h : base ≤ W.heap.size) :
    Kd.string.R 9 (W.alloc (.cells #[] 9)) base (fun _ => True) (.slice (some ⟨W.heap.size, 0, none⟩) 0 0) [] := by
  refine ⟨fun _ _ => trivial, [], ?_, ?_⟩
  · have := World.ownsRow_lit (base := base) (e := 9) (size := 1) W #[] 0 h (by decide) (by simp)
    exact (by simpa using this : (W.alloc (.cells #[] 9)).ownsRow base 9 1 (.slice (some ⟨W.heap.size, 0, none⟩) 0 0) 0 [])
  · exact ⟨rfl, fun j p hj => by simp at hj⟩
theorem putE_snoc_bad {ids : List ByteArray} {s : ByteArray} (hl : ids.length < 512) (h : putE ids ≠ 0) : putE (ids ++ [s]) ≠ 0 := by
  intro h2
  have h3 := putE_0 h2
  refine h ?_
  rw [putE, if_neg (by omega), if_neg, if_pos]
  · have := h3.2.2
    rw [List.map_append] at this
    exact (List.nodup_append.1 this).1
  · have := h3.2.1
    rw [List.all_append, Bool.and_eq_true] at this
    rw [this.1]; decide
theorem putE_snoc_there {ids : List ByteArray} {s : ByteArray} (hl : ids.length < 512) (h : putE ids = 0) (hs : s ∈ ids) : putE (ids ++ [s]) = 91 := by
  have h3 := putE_0 h
  rw [putE, if_neg (by rw [List.length_append]; simp; omega), if_neg, if_neg]
  · intro hn
    rw [List.map_append, List.map_cons, List.map_nil] at hn
    have := (List.nodup_append.1 hn).2.2 _ (List.mem_map_of_mem hs) (rawL s) (by simp)
    exact this rfl
  · rw [List.all_append, h3.2.1]
    have := List.all_eq_true.1 h3.2.1 s hs
    simp [this]
theorem putE_snoc_ok {ids : List ByteArray} {s : ByteArray} (hl : ids.length < 512) (h : putE ids = 0) (hs : s ∉ ids) (hn : namedL (bytesOf s) = true) : putE (ids ++ [s]) = 0 := by
  have h3 := putE_0 h
  rw [putE, if_neg (by rw [List.length_append]; simp; omega), if_neg, if_pos]
  · rw [List.map_append, List.map_cons, List.map_nil, List.nodup_append]
    refine ⟨h3.2.2, by simp, ?_⟩
    intro a ha b hb e
    rw [List.mem_singleton] at hb
    obtain ⟨t, ht, rfl⟩ := List.mem_map.1 ha
    have hnt := List.all_eq_true.1 h3.2.1 t ht
    exact hs (by rw [← rawL_inj hnt hn (by rw [e, hb])]; exact ht)
  · rw [List.all_append, h3.2.1]
    simp [hn]
/-- Names in another order: the same error, as many bytes, the same names told. -/
theorem putE_perm {ids jds : List ByteArray} (h : jds.Perm ids) : putE jds = putE ids := by
  have h1 : jds.all (fun s => namedL (bytesOf s)) = ids.all (fun s => namedL (bytesOf s)) := by
    rw [Bool.eq_iff_iff, List.all_eq_true, List.all_eq_true]
    exact ⟨fun k x hx => k x (h.symm.subset hx), fun k x hx => k x (h.subset hx)⟩
  have h2 : (jds.map rawL).Nodup ↔ (ids.map rawL).Nodup := (h.map rawL).nodup_iff
  unfold putE
  rw [h.length_eq, h1]
  simp only [h2]
theorem srt_fst {P Q : List (List Int × Nat)} (hp : Srt P) (hq : Srt Q) (h : (P.map Prod.fst).Perm (Q.map Prod.fst)) : P.map Prod.fst = Q.map Prod.fst := by
  have e : ∀ (P : List (List Int × Nat)), Srt P → (P.map fun p => (p.1, (0 : Nat))).Pairwise fun x y => cmpL x.1 y.1 < 0 := fun P hp => by
    rw [List.pairwise_map]; exact hp
  have h2 : (P.map fun p => (p.1, (0 : Nat))).Perm (Q.map fun p => (p.1, (0 : Nat))) := by
    have := h.map fun k => (k, (0 : Nat))
    rw [List.map_map, List.map_map] at this
    exact this
  have h3 := srt_unique _ _ (e P hp) (e Q hq) h2
  have h4 := congrArg (List.map Prod.fst) h3
  rw [List.map_map, List.map_map] at h4
  exact h4
theorem all_perm {ids jds : List ByteArray} {b c : List Int} (hb : PutR ids b 0) (hc : PutR jds c 0) (h : jds.Perm ids) : allL c = allL b := by
  obtain ⟨i1, P, p1, p2, p3, p4, p5, p6, p7⟩ := all_of (put_right hb).2.1
  obtain ⟨i2, Q, q1, q2, q3, q4, q5, q6, q7⟩ := all_of (put_right hc).2.1
  rw [(put_right hb).1] at p1
  rw [(put_right hc).1] at q1
  obtain rfl := Option.some.inj p1
  obtain rfl := Option.some.inj q1
  have hk : (Q.map Prod.fst).Perm (P.map Prod.fst) := by
    refine ((q3.map Prod.fst).trans ?_).trans (p3.map Prod.fst).symm
    rw [keysOf_fst, keysOf_fst]
    exact h.map rawL
  have := congrArg (List.map toldS) (srt_fst q4 p4 hk)
  rw [List.map_map, List.map_map] at this
  rw [p6, q6]
  exact this
theorem right_nil_find (s : ByteArray) : findL [] s = none := find_no right_nil
end Go.Proofs.Ytonhmjodgomeiaa.Ix

/- Are two rows of texts the same? No condition. -/
namespace Go.Proofs.Ytonhmjodgomeiaa.Ix
set_option linter.unusedVariables false
set_option linter.unusedSimpArgs false
open Go.RowKit Blk Dg Go.Proofs.YtonhmjodgomeiaaW.PrintWords Go.Proofs.YtonhmjodgomeiaaW.PrintLast Go.Proofs.YtonhmjodgomeiaaW.PrintMore

noncomputable def sameB (l k : List ByteArray) : Bool := by classical exact decide (l = k)
theorem sameB_iff {l k : List ByteArray} : sameB l k = true ↔ l = k := by unfold sameB; simp
theorem same_l0 (l m : List ByteArray) (he : l.length = m.length) (hl : l.length < 1000000000) : ∀ (k i : Nat), i ≤ l.length → l.length - i < k → ∃ r, Il.sacristyref04_SameTexts.l0 k l m (i : Int) = some r ∧ (r = true ↔ l.drop i = m.drop i)
  | 0, i, hi, hk => by omega
  | k + 1, i, hi, hk => by
    rw [Il.sacristyref04_SameTexts.l0]
    by_cases h1 : i < l.length
    · have h2 : i < m.length := by omega
      rw [if_pos (show (i : Int) < (l.length : Int) by omega), if_pos (show (0 : Int) ≤ i by omega), if_pos (show (i : Int) < (m.length : Int) by omega)]
      have e1 : rdOf ByteArray.empty l (i : Int) = l[i] := by simp [rdOf, h1]
      have e2 : rdOf ByteArray.empty m (i : Int) = m[i] := by simp [rdOf, h2]
      rw [e1, e2, List.drop_eq_getElem_cons h1, List.drop_eq_getElem_cons h2]
      by_cases h3 : l[i] = m[i]
      · rw [if_pos (by rw [h3]), wr_g _ (by omega) (by omega)]
        obtain ⟨r, h4, h5⟩ := same_l0 l m he hl k (i + 1) (by omega) (by omega)
        refine ⟨r, h4, ?_⟩
        rw [h5, h3, List.cons.injEq]
        exact ⟨fun h => ⟨rfl, h⟩, fun h => h.2⟩
      · rw [if_neg (fun e => h3 (by rw [str_inj, ← toList_inj]; exact e))]
        refine ⟨false, rfl, ⟨fun h => Bool.noConfusion h, fun h => absurd (List.cons.inj h).1 h3⟩⟩
    · rw [if_neg (by omega)]
      refine ⟨true, rfl, ?_⟩
      rw [List.drop_of_length_le (by omega), List.drop_of_length_le (by omega)]
      exact ⟨fun _ => rfl, fun _ => rfl⟩
theorem same_law (l m : List ByteArray) (hl : l.length < 1000000000) : ∃ k, Il.sacristyref04_SameTexts.f k l m = some (sameB l m) := by
  unfold Il.sacristyref04_SameTexts.f
  by_cases h : l.length = m.length
  · obtain ⟨r, h1, h2⟩ := same_l0 l m h hl (l.length + 1) 0 (by omega) (by omega)
    refine ⟨l.length + 1, ?_⟩
    rw [if_pos (by rw [h])]
    rw [List.drop_zero, List.drop_zero, ← sameB_iff, ← Bool.eq_iff_iff] at h2
    rw [← h2]; exact h1
  · refine ⟨0, ?_⟩
    rw [if_neg (by omega)]
    have : sameB l m = false := by
      rw [Bool.eq_false_iff, Ne, sameB_iff]
      rintro rfl; exact h rfl
    rw [this]
theorem same_calls (A B : Option Addr) (c d n m : Nat) (l k : List ByteArray) (w : World) (hA : Kd.string.C w A n l) (hn : l.length = n) (hc : n ≤ c) (hB : Kd.string.C w B m k) (hm : k.length = m) (hd : m ≤ d) (hl : n < 1000000000) :
    Calls Try.prog 17 #[.slice A n c, .slice B m d] w fun e w' => e = .returned (.bool (sameB l k)) ∧ Below w.heap.size w w' := by
  subst hn hm
  obtain ⟨f, hf⟩ := same_law l k hl
  exact (Il.sacristyref04_SameTexts.calls f A c l B d k _ w hA hc hB hd hf).mono fun e w' h => ⟨h.1, below_drawn h.2⟩
theorem info_str1 : ∃ i : TypeInfo, Try.prog.info? 9 = some i ∧ i.size = 1 := by
  obtain ⟨i, hi, hz⟩ := Option.map_eq_some_iff.1 info_str
  simp only [Prod.mk.injEq] at hz
  exact ⟨i, hi, hz.2.1⟩
theorem slice_drop_s (kl : IntKind) (A : Option Addr) (n c : Nat) (L : List ByteArray) (j : Int) (h0 : 0 ≤ j) (hn : L.length = n) (hj : j ≤ n) (hc : n ≤ c) : ∃ (A' : Option Addr) (m c' : Nat) (r : List ByteArray), L.drop j.toNat = r ∧ r.length = m ∧ m ≤ c' ∧
    (∀ W : World, (Instr.slice 22 (.slice A n c) (some (.int kl j)) none none).run Try.prog W = .ok (.slice A' m c') W) ∧ (∀ w, Kd.string.C w A n L → Kd.string.C w A' m r) := by
  obtain ⟨i, hi, hs⟩ := info_str1
  subst hn
  obtain ⟨A', h1, h2, h3⟩ := print_drop_of (P := Try.prog) Value.string ByteArray.empty 22 9 kl Try.underlying22 hi hs A c L j h0 hj hc
  exact ⟨A', _, _, _, rfl, rfl, h3, h1, fun w h => Kd.C_of_reads (h2 w (Kd.reads_of_C (d := ByteArray.empty) h))⟩
theorem slice_take_s (kl : IntKind) (A : Option Addr) (n c : Nat) (L : List ByteArray) (j : Int) (h0 : 0 ≤ j) (hn : L.length = n) (hj : j ≤ n) (hc : n ≤ c) : ∃ (m : Nat) (r : List ByteArray), L.take j.toNat = r ∧ r.length = m ∧ m ≤ c ∧
    (∀ W : World, (Instr.slice 22 (.slice A n c) none (some (.int kl j)) none).run Try.prog W = .ok (.slice A m c) W) ∧ (∀ w, Kd.string.C w A n L → Kd.string.C w A m r) := by
  obtain ⟨i, hi, hs⟩ := info_str1
  subst hn
  obtain ⟨h1, h2, h3⟩ := print_take_of (P := Try.prog) Value.string ByteArray.empty 22 9 kl Try.underlying22 hi hs A c L j h0 hj hc
  exact ⟨_, _, rfl, rfl, h3, h1, fun w h => Kd.C_of_reads (h2 w (Kd.reads_of_C (d := ByteArray.empty) h))⟩
end Go.Proofs.Ytonhmjodgomeiaa.Ix

/- An index's counts, plainly. No condition. -/
namespace Go.Proofs.Ytonhmjodgomeiaa.Ix
set_option linter.unusedVariables false
set_option linter.unusedSimpArgs false
open Go.RowKit Blk Dg Go.Proofs.YtonhmjodgomeiaaW.PrintWords Go.Proofs.YtonhmjodgomeiaaW.PrintLast Go.Proofs.YtonhmjodgomeiaaW.PrintMore

theorem cntN_mono (K : List (List Int)) (c : Nat) : cntN K c ≤ cntN K (c + 1) := by
  unfold cntN
  refine List.countP_mono_left fun k _ h => ?_
  simp only [decide_eq_true_iff] at h ⊢
  omega
theorem cntN_all (K : List (List Int)) (h : ∀ k ∈ K, k.headD 0 ≤ 255) : cntN K 255 = K.length := by
  rw [cntN, List.countP_eq_length]
  intro k hk
  simp only [decide_eq_true_iff]
  exact h k hk
/-- What was told last. -/
def lastN (K : List (List Int)) : Nat → Nat
  | 0 => 0
  | c + 1 => cntN K c
theorem lastN_le (K : List (List Int)) (c : Nat) : lastN K c ≤ cntN K c := by
  rcases c with _ | c
  · exact Nat.zero_le _
  · exact cntN_mono K c
theorem raw_head {s : ByteArray} (h : namedL (bytesOf s) = true) : ∃ x r, rawL s = x :: r ∧ 0 ≤ x ∧ x < 256 := by
  have hl := rawL_len h
  have h8 := rawL_8 h
  rcases hr : rawL s with _ | ⟨x, r⟩
  · rw [hr] at hl; simp at hl
  · exact ⟨x, r, rfl, h8 x (by rw [hr]; simp)⟩
theorem fan_all {ids : List ByteArray} {b : List Int} (h : PutR ids b 0) : cntN (ids.map rawL) 255 = ids.length := by
  rw [cntN_all, List.length_map]
  intro k hk
  obtain ⟨s, hs, rfl⟩ := List.mem_map.1 hk
  have hn := List.all_eq_true.1 (putE_0 h.1.symm).2.1 s hs
  obtain ⟨x, r, hr, h0, h1⟩ := raw_head hn
  rw [hr, List.headD_cons]; omega
theorem fan_at {ids : List ByteArray} {b : List Int} (h : PutR ids b 0) (c : Nat) (hc : c < 256) : numL (b.drop (2 * c)) = cntN (ids.map rawL) c := by
  obtain ⟨h1, h2, _⟩ := put_right h
  obtain ⟨ids', P, p1, _, _, _, _, p6, _⟩ := right_parts h2
  rw [h1] at p1
  obtain rfl := Option.some.inj p1
  exact p6 c hc
theorem fan_two {ids : List ByteArray} {b : List Int} (h : PutR ids b 0) (c : Nat) (hc : c < 256) : (b.getD (2 * c) 0).toNat * 256 + (b.getD (2 * c + 1) 0).toNat = cntN (ids.map rawL) c := by
  rw [← fan_at h c hc, numL]
  simp [List.getD_eq_getElem?_getD]
/-- A name's first two digits. -/
theorem two_take {s : ByteArray} (h : namedL (bytesOf s) = true) : s.extract 0 2 = toldS [(rawL s).headD 0] := by
  obtain ⟨x, r, hr, h0, h1⟩ := raw_head h
  have hb : bytesOf s = nameL (x :: r) := by rw [← hr, rawL, name_raw _ ((named_iff _).1 h).2 (by rw [((named_iff _).1 h).1])]
  rw [hr, List.headD_cons, str_inj, told_bytes (by intro y hy; rw [List.mem_singleton.1 hy]; omega)]
  have e : bytesOf (s.extract 0 2) = (bytesOf s).take 2 := by
    unfold bytesOf
    rw [ByteArray.data_extract, Array.toList_extract]
    simp
  rw [e, hb]
  simp [nameL]
theorem two_le {x c : Int} (hx : 0 ≤ x ∧ x < 256) (hc : 0 ≤ c ∧ c < 256) : Op.bytesLess (toldS [c]).toList (toldS [x]).toList = decide (c < x) := by
  rw [told_less (by intro y hy; rw [List.mem_singleton.1 hy]; omega) (by intro y hy; rw [List.mem_singleton.1 hy]; omega), cmpL]
  by_cases h : c < x
  · rw [if_pos h]; simp [h]
  · rw [if_neg h]
    by_cases h2 : x < c
    · rw [if_pos h2]; simp [h]
    · rw [if_neg h2, cmpL]; simp [h]
theorem cnt_take {ids : List ByteArray} {i c : Nat} {s : ByteArray} (hi : ids[i]? = some s) : cntN ((ids.take (i + 1)).map rawL) c = cntN ((ids.take i).map rawL) c + if (rawL s).headD 0 ≤ (c : Int) then 1 else 0 := by
  rw [List.take_add_one, hi, List.map_append, cntN, List.countP_append]
  simp [cntN, List.countP_cons]
def digs : ByteArray := ⟨#[48, 49, 50, 51, 52, 53, 54, 55, 56, 57, 97, 98, 99, 100, 101, 102]⟩
theorem two_digs : ∀ c : Fin 256, digs.extract (c.val / 16) (c.val / 16 + 1) ++ digs.extract (c.val % 16) (c.val % 16 + 1) = toldS [(c.val : Int)] := by decide +kernel
end Go.Proofs.Ytonhmjodgomeiaa.Ix
