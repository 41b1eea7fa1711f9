/- The document's index, plainly: the bytes of a name, names that are unlike, the least one of those that are left. No condition. -/
import Derived.Test.YtonhmjodgomeiaaMIxC
import Derived.Test.YtonhmjodgomeiaaIxRTold
namespace Go.Proofs.Ytonhmjodgomeiaa.Ix
set_option linter.unusedVariables false
set_option linter.unusedSimpArgs false
open Go.RowKit Blk Dg Go.Proofs.YtonhmjodgomeiaaW.PrintWords Go.Proofs.YtonhmjodgomeiaaW.PrintLast Go.Proofs.YtonhmjodgomeiaaW.PrintMore

theorem rvalue_f {c : Int} (h : hexc c = true) : Il.sacristyref08_value.f c = some (dv c) := by
  have h' := h
  unfold hexc at h'
  simp only [Bool.or_eq_true, Bool.and_eq_true, decide_eq_true_iff] at h'
  unfold Il.sacristyref08_value.f dv
  by_cases h97 : 97 ≤ c
  · rw [if_pos (by omega), if_pos h97]; congr 1; omega
  · rw [if_neg (by omega), if_neg h97]; congr 1; omega
theorem rraw_l0 {s : ByteArray} (h : namedL (bytesOf s) = true) : ∀ (k i : Nat), i ≤ 32 → 32 - i < k → Il.sacristyref08_raw.l0 k s ((rawL s).take i) (i : Int) = some (rawL s)
  | 0, i, hi, hk => by omega
  | k + 1, i, hi, hk => by
    have hl := rawL_len h
    have h64 := ((named_iff _).1 h).1
    have hsz : s.size = 64 := by rw [← bytesOf_length]; exact h64
    rw [Il.sacristyref08_raw.l0]
    by_cases h1 : i < 32
    · have w1 : wrap64 (2 * (i : Int)) = ((2 * i : Nat) : Int) := by unfold wrap64; omega
      have w2 : wrap64 (((2 * i : Nat) : Int) + 1) = ((2 * i + 1 : Nat) : Int) := by unfold wrap64; omega
      have w3 : wrap64 ((i : Int) + 1) = ((i + 1 : Nat) : Int) := by unfold wrap64; omega
      have hb : ∀ j : Nat, j < 64 → (bytesOf s)[j]? = some (bt s (j : Int)) := fun j hj => by
        have hjl : j < (bytesOf s).length := by rw [h64]; exact hj
        rw [List.getElem?_eq_getElem hjl]
        congr 1
        rw [← rd_bytesOf]
        simp [rd, hjl]
      have hx : ∀ j : Nat, j < 64 → hexc (bt s (j : Int)) = true := fun j hj =>
        List.all_eq_true.1 ((named_iff _).1 h).2 _ (List.mem_of_getElem? (hb j hj))
      have ha := hx (2 * i) (by omega)
      have hc := hx (2 * i + 1) (by omega)
      have da := hexc_dv ha
      have dc := hexc_dv hc
      have hr := rawG_at (bytesOf s) i (by rw [h64]; omega)
      rw [List.getD_eq_getElem?_getD, hb _ (by omega), List.getD_eq_getElem?_getD, hb _ (by omega), Option.getD_some, Option.getD_some] at hr
      have ih := rraw_l0 h k (i + 1) (by omega) (by omega)
      rw [List.take_add_one, show (rawL s)[i]? = _ from hr] at ih
      rw [if_pos (by omega), w1, if_pos (by omega), if_pos (by rw [hsz]; omega), rvalue_f ha, Option.bind_some, w2, if_pos (by omega), if_pos (by rw [hsz]; omega), rvalue_f hc, Option.bind_some, if_pos (by rw [List.length_take]; omega), w3]
      rw [← ih]
      congr 2
      simp only [Option.toList_some]
      congr 1
      omega
    · have : i = 32 := by omega
      subst this
      rw [if_neg (by omega), List.take_of_length_le (by rw [hl]; exact Nat.le_refl _)]
theorem rraw_calls (s : ByteArray) (w : World) (h : namedL (bytesOf s) = true) :
    Calls Try.prog 29 #[.string s] w fun e w' => ∃ v, e = .returned v ∧ (Kd.int .u8).R 5 w' w.heap.size (fun _ => True) v (rawL s) ∧ Below w.heap.size w w' :=
  Il.sacristyref08_raw.calls 33 s _ w (by
    have := rraw_l0 h 33 0 (by omega) (by omega)
    exact this)
theorem rtwo_calls (m : Nat) (hm : m < 65536) (w : World) :
    Calls Try.prog 30 #[.int .i64 (m : Int)] w fun e w' => ∃ v, e = .returned v ∧ (Kd.int .u8).R 5 w' w.heap.size (fun _ => True) v (twoI m) ∧ Below w.heap.size w w' := by
  refine Il.sacristyref08_two.calls (m : Int) _ w ?_
  unfold Il.sacristyref08_two.f twoI
  congr 1
  rw [Int.tdiv_eq_ediv_of_nonneg (by omega), Int.tmod_eq_emod_of_nonneg (by omega)]
  have : wrap64 ((m : Int) / 256) = (m : Int) / 256 := by unfold wrap64; omega
  rw [this, show ((m / 256 % 256 : Nat) : Int) = (m : Int) / 256 % 256 by omega, show ((m % 256 : Nat) : Int) = (m : Int) % 256 by omega, show (m : Int) % 256 % 256 = (m : Int) % 256 by omega]
/-- Names are unlike just if their bytes are. -/
theorem nodup_raw {ids : List ByteArray} (h : ids.all (fun s => namedL (bytesOf s)) = true) : (ids.map rawL).Nodup ↔ ids.Nodup := by
  rw [List.nodup_iff_pairwise_ne, List.nodup_iff_pairwise_ne, List.pairwise_map]
  constructor
  · exact fun k => k.imp fun hne e => hne (by rw [e])
  · intro k
    refine k.imp_of_mem fun {a b} ha hb hne e => hne ?_
    exact rawL_inj (List.all_eq_true.1 h a ha) (List.all_eq_true.1 h b hb) e
theorem less_raw {s t : ByteArray} (hs : namedL (bytesOf s) = true) (ht : namedL (bytesOf t) = true) : Op.bytesLess s.toList t.toList = decide (cmpL (rawL s) (rawL t) < 0) := by
  have e : ∀ u : ByteArray, namedL (bytesOf u) = true → nameL (rawL u) = bytesOf u := fun u hu =>
    name_raw _ ((named_iff _).1 hu).2 (by rw [((named_iff _).1 hu).1])
  rw [str_less, ← e s hs, ← e t ht, name_cmp _ _ (rawL_8 hs) (rawL_8 ht)]
/-- The line of the i-th name. -/
def kyOf (ids : List ByteArray) (i : Nat) : List Int × Nat := (rawL (ids.getD i ByteArray.empty), i)
theorem keys_ky (ids : List ByteArray) : keysOf ids = (List.range ids.length).map (kyOf ids) := by
  apply List.ext_getElem?
  intro i
  by_cases h : i < ids.length
  · rw [keysOf_at ids i h, List.getElem?_map, List.getElem?_range h]
    simp [kyOf, h]
  · rw [List.getElem?_eq_none (by rw [keysOf_len]; omega), List.getElem?_eq_none (by simp; omega)]
/-- Lines that are told, the places that are left. -/
structure Sel (ids : List ByteArray) (D : List (List Int × Nat)) (L : List Nat) : Prop where
  perm : (D ++ L.map (kyOf ids)).Perm (keysOf ids)
  srt : Srt D
  low : ∀ p ∈ D, ∀ i ∈ L, cmpL p.1 (kyOf ids i).1 < 0
theorem Sel.start (ids : List ByteArray) : Sel ids [] (List.range ids.length) :=
  ⟨by rw [List.nil_append, keys_ky], List.Pairwise.nil, fun p hp => by cases hp⟩
theorem Sel.lt {ids : List ByteArray} {D : List (List Int × Nat)} {L : List Nat} (h : Sel ids D L) : ∀ i ∈ L, i < ids.length := by
  intro i hi
  have h1 : kyOf ids i ∈ keysOf ids := h.perm.subset (List.mem_append_right _ (List.mem_map_of_mem hi))
  rw [keys_ky] at h1
  obtain ⟨j, hj, e⟩ := List.mem_map.1 h1
  have : j = i := congrArg Prod.snd e
  rw [← this]; exact List.mem_range.1 hj
theorem Sel.len {ids : List ByteArray} {D : List (List Int × Nat)} {L : List Nat} (h : Sel ids D L) : D.length + L.length = ids.length := by
  have := h.perm.length_eq
  rw [List.length_append, List.length_map, keysOf_len] at this
  exact this
theorem Sel.step {ids : List ByteArray} {D : List (List Int × Nat)} {L : List Nat} (h : Sel ids D L) (hn : (ids.map rawL).Nodup) (b : Nat) (hb : b < L.length) (hm : ∀ j : Nat, ∀ i, L[j]? = some i → cmpL (kyOf ids L[b]).1 (kyOf ids i).1 ≤ 0) :
    Sel ids (D ++ [kyOf ids L[b]]) (L.take b ++ L.drop (b + 1)) := by
  have hsplit : L = L.take b ++ (L[b] :: L.drop (b + 1)) := by
    rw [← List.drop_eq_getElem_cons hb, List.take_append_drop]
  have hp : L.Perm (L[b] :: (L.take b ++ L.drop (b + 1))) := by
    conv => lhs; rw [hsplit]
    exact List.perm_middle
  have hnd : ((D ++ L.map (kyOf ids)).map Prod.fst).Nodup := by
    rw [(h.perm.map Prod.fst).nodup_iff, keysOf_fst]
    exact hn
  refine ⟨?_, ?_, ?_⟩
  · refine List.Perm.trans ?_ h.perm
    rw [List.append_assoc, List.singleton_append, ← List.map_cons]
    exact (hp.symm.map _).append_left D
  · refine List.pairwise_append.2 ⟨h.srt, List.pairwise_singleton _ _, fun p hpD q hq => ?_⟩
    rw [List.mem_singleton] at hq
    subst hq
    exact h.low p hpD _ (List.getElem_mem hb)
  · intro p hp2 i hi
    have hiL : i ∈ L := hp.symm.subset (List.mem_cons_of_mem _ hi)
    rcases List.mem_append.1 hp2 with hp2 | hp2
    · exact h.low p hp2 i hiL
    · rw [List.mem_singleton] at hp2
      subst hp2
      obtain ⟨j, hj⟩ := List.getElem?_of_mem hiL
      have h1 := hm j i hj
      rcases Int.lt_or_eq_of_le h1 with h2 | h2
      · exact h2
      · exfalso
        have he := (cmpL_eq _ _).1 h2
        rw [List.map_append, List.nodup_append] at hnd
        have h3 : ((L[b] :: (L.take b ++ L.drop (b + 1))).map fun i => (kyOf ids i).1).Nodup := by
          have h4 := hnd.2.1
          rw [List.map_map] at h4
          exact ((hp.map _).nodup_iff).1 h4
        rw [List.map_cons, List.nodup_cons] at h3
        exact h3.1 (by rw [he]; exact List.mem_map_of_mem (f := fun i => (kyOf ids i).1) hi)
theorem Sel.done {ids : List ByteArray} {D : List (List Int × Nat)} (h : Sel ids D []) (h512 : ids.length ≤ 512) (ha : ids.all (fun s => namedL (bytesOf s)) = true) (hn : (ids.map rawL).Nodup) :
    PutR ids (bodyL (ids.map rawL) D ++ shaL (bodyL (ids.map rawL) D)) 0 := by
  refine ⟨?_, fun _ => ⟨D, by simpa using h.perm, h.srt, rfl⟩, fun h => absurd rfl h⟩
  rw [putE, if_neg (by omega), if_neg (by rw [ha]; decide), if_pos hn]
theorem rows_app (D : List (List Int × Nat)) (p : List Int × Nat) : rowsL (D ++ [p]) = rowsL D ++ p.1 ++ twoI p.2 := by
  simp [rowsL, List.append_assoc]
end Go.Proofs.Ytonhmjodgomeiaa.Ix
