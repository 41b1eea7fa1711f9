/- IndexTells: what the printed walk computes is true. No condition but the reach of what comes in. -/
import Derived.Test.YtonhmjodgomeiaaPIndexTellsx
namespace Go.Proofs.Ytonhmjodgomeiaa.Ix
set_option linter.unusedVariables false
set_option linter.unusedSimpArgs false
open Go.RowKit Blk Dg Go.Proofs.YtonhmjodgomeiaaW.PrintWords Go.Proofs.YtonhmjodgomeiaaW.PrintLast Go.Proofs.YtonhmjodgomeiaaW.PrintMore
open PIndexTells

theorem w64 (x : Int) (h0 : 0 ≤ x) (h1 : x < 1000000000000000) : wrap64 x = x := by unfold wrap64; omega
theorem rdS (l : List ByteArray) (i : Nat) (s : ByteArray) (h : l[i]? = some s) (j : Int) (hj : j = i) : rdOf ByteArray.empty l j = s := by
  subst hj
  rw [rdOf, Int.toNat_natCast, List.getD_eq_getElem?_getD, h, Option.getD_some]
theorem rd_get (b : List Int) (i : Nat) (p : Int) (h : b[i]? = some p) (j : Int) (hj : j = i) : rd b j = p := by
  subst hj
  rw [rd, Int.toNat_natCast, List.getD_eq_getElem?_getD, h, Option.getD_some]
theorem str_eq {a b : List Int} (ha : ∀ x ∈ a, 0 ≤ x ∧ x < 256) (hb : ∀ x ∈ b, 0 ≤ x ∧ x < 256) : (strOfNums a).toList = (strOfNums b).toList ↔ a = b := by
  constructor
  · intro h
    have h2 := (toList_inj _ _).1 h
    rw [bytesOf_str _ ha, bytesOf_str _ hb] at h2
    exact h2
  · rintro rfl; rfl
noncomputable def namesR (b : List Int) : List ByteArray × Bool := if rightB b = true then ((idsOf b).getD [], true) else ([], false)
/-- What is answered of names that were told. -/
theorem names_end {b : List Int} {ids : List ByteArray} (h : idsOf b = some ids) (h8 : ∀ x ∈ b, 0 ≤ x ∧ x < 256) :
    (if putE ids = 0 then (if (strOfNums (putL ids)).toList = (strOfNums b).toList then some (ids, true) else some (([] : List ByteArray), false)) else some (([] : List ByteArray), false)) = some (namesR b) := by
  have hp := putL_R ids
  have hr := right_some b (putL ids) (putE ids) ids h hp
  unfold namesR
  rw [hr, h, Option.getD_some]
  by_cases hz : putE ids = 0
  · rw [if_pos hz, hz]
    by_cases hb : putL ids = b
    · rw [if_pos ((str_eq (putR_8 hp) h8).2 hb), decide_eq_true hb]; rfl
    · rw [if_neg (fun e => hb ((str_eq (putR_8 hp) h8).1 e)), decide_eq_false hb]; rfl
  · rw [if_neg hz, beq_eq_false_iff_ne.2 hz, Bool.false_and]; rfl
theorem names_l0 {b : List Int} (hB : Byt b) (hok : rowsOk b.length) {m : Nat} (hm : m = (b.length - 544) / 34) :
    ∀ (d i : Nat) (X : List ByteArray), m - i = d → i ≤ m → X.length = m → idsOf b = fillG m d ((midL b).drop (34 * i)) X →
      Ev (fun k => sacristyref08_names.l0 k b (m : Int) X (i : Int)) (namesR b) := by
  have hok' := hok
  unfold rowsOk at hok
  intro d
  induction d with
  | zero =>
    intro i X hd hi hX hid
    rw [fillG] at hid
    refine Ev.step (f := fun _ => some (namesR b)) (fun k => ?_) (Ev.now _)
    simp only [sacristyref08_names.l0, Gv.rput.f]
    rw [if_neg (by omega), Option.bind_some]
    exact names_end hid hB.2
  | succ d ih =>
    intro i X hd hi hX hid
    have hdrop : (midL b).drop (34 * i) = (b.take (b.length - 32)).drop (512 + 34 * i) := by rw [midL, List.drop_drop]
    have hget : ∀ j, 512 + 34 * i + j < b.length - 32 → ((midL b).drop (34 * i))[j]? = b[512 + 34 * i + j]? := fun j hj => by
      rw [hdrop, List.getElem?_drop, List.getElem?_take, if_pos hj]
    obtain ⟨p, hp⟩ : ∃ p, b[512 + 34 * i + 32]? = some p := ⟨b[512 + 34 * i + 32]'(by omega), List.getElem?_eq_getElem _⟩
    obtain ⟨q, hq⟩ : ∃ q, b[512 + 34 * i + 33]? = some q := ⟨b[512 + 34 * i + 33]'(by omega), List.getElem?_eq_getElem _⟩
    have hp8 := hB.2 p (List.mem_of_getElem? hp)
    have hq8 := hB.2 q (List.mem_of_getElem? hq)
    have hnum : (numL (((midL b).drop (34 * i)).drop 32) : Int) = p * 256 + q := by
      have h0 : (((midL b).drop (34 * i)).drop 32)[0]? = some p := by rw [List.getElem?_drop, hget (32 + 0) (by omega)]; exact hp
      have h1 : (((midL b).drop (34 * i)).drop 32)[1]? = some q := by rw [List.getElem?_drop, hget (32 + 1) (by omega)]; exact hq
      rw [numL, List.getD_eq_getElem?_getD, List.getD_eq_getElem?_getD, h0, h1, Option.getD_some, Option.getD_some]
      omega
    have e1 := rd_get b _ p hp (((512 + 34 * i : Nat) : Int) + 32) (by omega)
    have e2 := rd_get b _ q hq (((512 + 34 * i : Nat) : Int) + 33) (by omega)
    have w1 : wrap64 (34 * (i : Int)) = ((34 * i : Nat) : Int) := by rw [w64 _ (by omega) (by omega)]; omega
    have w2 : wrap64 (512 + ((34 * i : Nat) : Int)) = ((512 + 34 * i : Nat) : Int) := by rw [w64 _ (by omega) (by omega)]; omega
    have htk : (b.take (((512 + 34 * i : Nat) : Int) + 32).toNat).drop (((512 + 34 * i : Nat) : Int)).toNat = ((midL b).drop (34 * i)).take 32 := by
      rw [hdrop, Int.toNat_natCast, show (((512 + 34 * i : Nat) : Int) + 32).toNat = 512 + 34 * i + 32 by omega]
      rw [List.drop_take, List.drop_take, List.take_take, show min 32 (b.length - 32 - (512 + 34 * i)) = 32 by omega, show 512 + 34 * i + 32 - (512 + 34 * i) = 32 by omega]
    have hBt : Byt (((midL b).drop (34 * i)).take 32) := ⟨by rw [List.length_take]; omega, fun x hx => hB.2 x (by
      have := List.mem_of_mem_drop (List.mem_of_mem_take hx)
      rw [midL] at this
      exact List.mem_of_mem_take (List.mem_of_mem_drop this))⟩
    rw [fillG] at hid
    by_cases hge : m ≤ numL (((midL b).drop (34 * i)).drop 32)
    · rw [if_pos hge] at hid
      have hr := right_none b hid
      refine Ev.step (f := fun _ => some (namesR b)) (fun k => ?_) (Ev.now _)
      simp only [sacristyref08_names.l0]
      rw [if_pos (by omega), w1, w2, w64 (((512 + 34 * i : Nat) : Int) + 32) (by omega) (by omega), if_pos (by omega), if_pos (by omega), w64 (((512 + 34 * i : Nat) : Int) + 33) (by omega) (by omega), if_pos (by omega), if_pos (by omega), e1, e2,
        w64 p (by omega) (by omega), w64 q (by omega) (by omega), w64 (p * 256) (by omega) (by omega), w64 (p * 256 + q) (by omega) (by omega), if_pos (by omega)]
      unfold namesR
      rw [hr]; rfl
    · rw [if_neg hge] at hid
      have ih' := ih (i + 1) (X.set (numL (((midL b).drop (34 * i)).drop 32)) (toldS (((midL b).drop (34 * i)).take 32))) (by omega) (by omega) (by rw [List.length_set]; exact hX) (by
        rw [hid, List.drop_drop, show 34 * (i + 1) = 34 * i + 34 by omega])
      refine Ev.step (fun k => ?_) ih'
      simp only [sacristyref08_names.l0]
      rw [if_pos (by omega), w1, w2, w64 (((512 + 34 * i : Nat) : Int) + 32) (by omega) (by omega), if_pos (by omega), if_pos (by omega), w64 (((512 + 34 * i : Nat) : Int) + 33) (by omega) (by omega), if_pos (by omega), if_pos (by omega), e1, e2,
        w64 p (by omega) (by omega), w64 q (by omega) (by omega), w64 (p * 256) (by omega) (by omega), w64 (p * 256 + q) (by omega) (by omega), if_neg (by omega), if_pos (by omega), if_pos (by omega), if_pos (by omega), htk, Gv.rtold.f_eq hBt, Option.bind_some, if_pos (by omega), if_pos (by omega),
        w64 ((i : Int) + 1) (by omega) (by omega), show (p * 256 + q).toNat = numL (((midL b).drop (34 * i)).drop 32) by omega]
      rfl
theorem names_ev {b : List Int} (hB : Byt b) : Ev (fun k => sacristyref08_names.f k b) (namesR b) := by
  have hyes : rightB b = false → Ev (fun k => sacristyref08_names.j0 k b true) (namesR b) := fun hr => by
    refine Ev.step (f := fun _ => some (namesR b)) (fun k => ?_) (Ev.now _)
    simp only [sacristyref08_names.j0]
    rw [if_pos trivial]
    unfold namesR
    rw [hr]; rfl
  have hB1 := hB.1
  by_cases h544 : b.length < 544
  · refine Ev.congr (f := fun k => sacristyref08_names.j0 k b true) (fun k => by unfold sacristyref08_names.f; rw [if_pos (by omega)]) (hyes (right_none b ?_))
    rw [idsOf, if_neg (by unfold rowsOk; omega)]
  · have w1 : wrap64 ((b.length : Int) - 544) = ((b.length - 544 : Nat) : Int) := by rw [w64 _ (by omega) (by omega)]; omega
    refine Ev.congr (f := fun k => sacristyref08_names.j0 k b (((b.length - 544 : Nat) : Int).tmod 34 != 0)) (fun k => by unfold sacristyref08_names.f; rw [if_neg (by omega), w1]) ?_
    rw [Int.tmod_eq_emod_of_nonneg (by omega)]
    by_cases h34 : (b.length - 544) % 34 = 0
    · rw [show (((b.length - 544 : Nat) : Int) % 34 != 0) = false by rw [bne_eq_false_iff_eq]; omega]
      obtain ⟨m, hm⟩ : ∃ m, m = (b.length - 544) / 34 := ⟨_, rfl⟩
      have w2 : wrap64 (Int.tdiv ((b.length - 544 : Nat) : Int) 34) = (m : Int) := by
        rw [Int.tdiv_eq_ediv_of_nonneg (by omega), w64 _ (by omega) (by omega)]; omega
      by_cases h512 : m ≤ 512
      · have hok : rowsOk b.length := by unfold rowsOk; omega
        have h1 := names_l0 hB hok hm m 0 (List.replicate m (⟨#[]⟩ : ByteArray)) (by omega) (by omega) (by rw [List.length_replicate]) (by
          rw [idsOf, if_pos hok, ← hm, Nat.mul_zero, List.drop_zero])
        refine Ev.step (fun k => ?_) h1
        simp only [sacristyref08_names.j0]
        rw [if_neg (by decide), w1, w2, if_neg (by omega), if_pos (by omega), Int.toNat_natCast, if_pos (by omega)]
        rfl
      · refine Ev.step (f := fun _ => some (namesR b)) (fun k => ?_) (Ev.now _)
        simp only [sacristyref08_names.j0]
        rw [if_neg (by decide), w1, w2, if_pos (by omega)]
        unfold namesR
        rw [right_none b (by rw [idsOf, if_neg (by unfold rowsOk; omega)])]; rfl
    · rw [show (((b.length - 544 : Nat) : Int) % 34 != 0) = true by rw [bne_iff_ne]; omega]
      exact hyes (right_none b (by rw [idsOf, if_neg (by unfold rowsOk; omega)]))
theorem names_few (b : List Int) : (namesR b).1.length ≤ 512 := by
  unfold namesR
  by_cases hr : rightB b = true
  · rw [if_pos hr]
    obtain ⟨ids, h1, h2⟩ := (rightB_iff b).1 hr
    rw [h1]
    exact put_few h2
  · rw [if_neg hr]; decide
theorem find_names (b : List Int) (s : ByteArray) : findL b s = by classical exact (namesR b).1.findIdx? (fun t => decide (t = s)) := by
  unfold findL namesR
  by_cases hr : rightB b = true
  · rw [if_pos hr, if_pos hr]
  · rw [if_neg hr, if_neg hr]; rfl
theorem find_l0 (s : ByteArray) (ids : List ByteArray) (hl : ids.length ≤ 512) (f : Option Nat) (hf : f = by classical exact ids.findIdx? (fun t => decide (t = s))) :
    ∀ (d i : Nat), ids.length - i = d → i ≤ ids.length → (∀ j t, j < i → ids[j]? = some t → t ≠ s) → Ev (fun k => sacristyref08_Find.l0 k s ids (i : Int)) (((f.getD 0 : Nat) : Int), f.isSome) := by
  intro d
  induction d with
  | zero =>
    intro i hd hi hno
    have hfn : f = none := by
      classical
      rw [hf, List.findIdx?_eq_none_iff]
      intro t ht
      obtain ⟨j, hj⟩ := List.getElem?_of_mem ht
      have hjl := (List.getElem?_eq_some_iff.1 hj).1
      exact decide_eq_false (hno j t (by omega) hj)
    subst hfn
    refine Ev.step (f := fun _ => some ((0 : Int), false)) (fun k => ?_) (Ev.now _)
    simp only [sacristyref08_Find.l0]
    rw [if_neg (by omega)]
  | succ d ih =>
    intro i hd hi hno
    have hil : i < ids.length := by omega
    have hsi : ids[i]? = some ids[i] := List.getElem?_eq_getElem hil
    have e1 := rdS ids i _ hsi (i : Int) rfl
    by_cases he : ids[i] = s
    · have hfs : f = some i := by
        classical
        rw [hf, List.findIdx?_eq_some_iff_getElem]
        refine ⟨hil, by simp [he], fun j hj => ?_⟩
        have := hno j _ hj (List.getElem?_eq_getElem (by omega))
        simpa using this
      subst hfs
      refine Ev.step (f := fun _ => some ((i : Int), true)) (fun k => ?_) (Ev.now _)
      simp only [sacristyref08_Find.l0]
      rw [if_pos (by omega), if_pos (by omega), if_pos (by rw [e1, he])]
    · refine Ev.step (fun k => ?_) (ih (i + 1) (by omega) (by omega) (fun j t hj ht => by
        by_cases hji : j = i
        · subst hji
          rw [hsi] at ht
          rw [← Option.some.inj ht]; exact he
        · exact hno j t (by omega) ht))
      simp only [sacristyref08_Find.l0]
      rw [if_pos (by omega), if_pos (by omega), if_neg (by rw [e1, toList_inj, ← str_inj]; exact he), w64 _ (by omega) (by omega)]
      rfl
theorem find_ev {b : List Int} (hB : Byt b) (s : ByteArray) : Ev (fun k => sacristyref08_Find.f k b s) ((((findL b s).getD 0 : Nat) : Int), (findL b s).isSome) := by
  unfold sacristyref08_Find.f
  exact Ev.bind (names_ev hB) (find_l0 s _ (names_few b) (findL b s) (find_names b s) _ 0 rfl (by omega) (fun j t hj => by omega))
theorem right_ev {b : List Int} (hB : Byt b) : Ev (fun k => sacristyref08_Right.f k b) (rightB b) := by
  unfold sacristyref08_Right.f
  refine Ev.bind (names_ev hB) ?_
  have : (namesR b).2 = rightB b := by
    unfold namesR
    split
    · rename_i h; rw [h]
    · rename_i h; rw [Bool.not_eq_true] at h; rw [h]
  rw [this]
  exact Ev.now _
theorem all_l0 {b : List Int} (hB : Byt b) (hok : rowsOk b.length) {m : Nat} (hm : m = (b.length - 544) / 34) :
    ∀ (d i : Nat) (out : List ByteArray), m - i = d → i ≤ m → out.length = i → Ev (fun k => sacristyref08_All.l0 k b out ((512 + 34 * i : Nat) : Int)) (out ++ allG d ((midL b).drop (34 * i))) := by
  unfold rowsOk at hok
  intro d
  induction d with
  | zero =>
    intro i out hd hi ho
    refine Ev.step (f := fun _ => some out) (fun k => ?_) (by rw [allG, List.append_nil]; exact Ev.now _)
    simp only [sacristyref08_All.l0]
    rw [w64 (((512 + 34 * i : Nat) : Int) + 66) (by omega) (by omega), if_neg (by omega)]
  | succ d ih =>
    intro i out hd hi ho
    have hdrop : (midL b).drop (34 * i) = (b.take (b.length - 32)).drop (512 + 34 * i) := by rw [midL, List.drop_drop]
    have htk : (b.take (((512 + 34 * i : Nat) : Int) + 32).toNat).drop (((512 + 34 * i : Nat) : Int)).toNat = ((midL b).drop (34 * i)).take 32 := by
      rw [hdrop, Int.toNat_natCast, show (((512 + 34 * i : Nat) : Int) + 32).toNat = 512 + 34 * i + 32 by omega]
      rw [List.drop_take, List.drop_take, List.take_take, show min 32 (b.length - 32 - (512 + 34 * i)) = 32 by omega, show 512 + 34 * i + 32 - (512 + 34 * i) = 32 by omega]
    have hBt : Byt (((midL b).drop (34 * i)).take 32) := ⟨by rw [List.length_take]; omega, fun x hx => hB.2 x (by
      have := List.mem_of_mem_drop (List.mem_of_mem_take hx)
      rw [midL] at this
      exact List.mem_of_mem_take (List.mem_of_mem_drop this))⟩
    have ih' := ih (i + 1) (out ++ [toldS (((midL b).drop (34 * i)).take 32)]) (by omega) (by omega) (by rw [List.length_append, ho]; rfl)
    rw [List.append_assoc, List.singleton_append, show 34 * (i + 1) = 34 * i + 34 by omega, ← List.drop_drop] at ih'
    rw [allG]
    refine Ev.step (fun k => ?_) ih'
    simp only [sacristyref08_All.l0]
    rw [w64 (((512 + 34 * i : Nat) : Int) + 66) (by omega) (by omega), if_pos (by omega), if_pos (by omega), w64 (((512 + 34 * i : Nat) : Int) + 32) (by omega) (by omega), if_pos (by omega), if_pos (by omega), htk, Gv.rtold.f_eq hBt, Option.bind_some, if_pos (by omega), w64 _ (by omega) (by omega),
      show ((512 + 34 * i : Nat) : Int) + 34 = ((512 + (34 * i + 34) : Nat) : Int) by omega]
theorem all_ev {b : List Int} (hB : Byt b) : Ev (fun k => sacristyref08_All.f k b) (allL b) := by
  unfold sacristyref08_All.f
  refine Ev.bind (right_ev hB) ?_
  unfold allL
  by_cases hr : rightB b = true
  · rw [if_pos hr]
    refine Ev.congr (f := fun k => sacristyref08_All.l0 k b ([] : List ByteArray) 512) (fun k => if_pos hr) ?_
    have := all_l0 hB (right_ok hr) rfl ((b.length - 544) / 34) 0 [] (by omega) (by omega) rfl
    rw [Nat.mul_zero, List.drop_zero, List.nil_append] at this
    exact this
  · rw [if_neg hr]
    exact Ev.congr (fun k => if_neg hr) (Ev.now _)
theorem tells_true (ids : List ByteArray) (b : List Int) (s : ByteArray) (h8 : ∀ x ∈ b, 0 ≤ x ∧ x < 256) : ∃ k, sacristylaw08_IndexTells.f k ids b s = some true := by
  refine Ev.rounds ?_
  have hyes : Ev (fun k => sacristylaw08_IndexTells.j0 k ids b s true true) true := Ev.step (f := fun _ => some true) (fun k => by simp only [sacristylaw08_IndexTells.j0]; rfl) (Ev.now true)
  have key : greatB ids = false → b.length ≤ 20000 → s.size ≤ 3000 → Ev (fun k => sacristylaw08_IndexTells.j0 k ids b s true false) true := by
    intro hg hl hs
    have hsm := greatB_small hg
    have hS : Sht ids := fun s hs => by have := hsm.2 s hs; omega
    have hB : Byt b := ⟨by omega, h8⟩
    have hal : (allL b).length ≤ 512 := by
      unfold allL
      split
      · rename_i h
        have := right_ok h
        unfold rowsOk at this
        rw [allG_len]; omega
      · decide
    obtain ⟨k1, h1⟩ := find_ev hB s
    obtain ⟨k2, h2⟩ := right_ev hB
    obtain ⟨k3, h3⟩ := all_ev hB
    refine ⟨k1 + k2 + k3 + 1, fun k hk => ?_⟩
    obtain ⟨k, rfl⟩ : ∃ j, k = j + 1 := ⟨k - 1, by omega⟩
    have e1 : sacristyref08_Find.f k b s = _ := h1 k (by omega)
    have e2 : sacristyref08_Right.f k b = _ := h2 k (by omega)
    have e3 : sacristyref08_All.f k b = _ := h3 k (by omega)
    simp only [sacristylaw08_IndexTells.j0]
    rw [if_neg (by decide), Gv.put.f_eq hS, Option.bind_some, Gv.rput.f, Option.bind_some, Gv.find.f_eq hB (by omega), Option.bind_some, e1, Option.bind_some, Gv.right.f_eq hB, Option.bind_some, e2, Option.bind_some, Gv.all.f_eq hB, Option.bind_some, e3, Option.bind_some, Gv.same.f_eq (by omega), Option.bind_some]
    dsimp only
    rw [if_pos trivial, if_pos rfl, if_pos rfl, if_pos (by simp), if_pos rfl, if_pos (by simp), sameB_iff.2 rfl]
  refine Ev.congr (f := fun k => if greatB ids = true then sacristylaw08_IndexTells.j0 k ids b s true true else if (b.length : Int) > 20000 then sacristylaw08_IndexTells.j0 k ids b s true true else sacristylaw08_IndexTells.j0 k ids b s true (decide ((s.size : Int) > 3000))) (fun k => rfl) ?_
  rcases hg : greatB ids with _ | _
  · refine Ev.congr (fun k => if_neg (by decide)) ?_
    by_cases hl : b.length ≤ 20000
    · refine Ev.congr (fun k => if_neg (by omega)) ?_
      by_cases hs : s.size ≤ 3000
      · rw [decide_eq_false (by omega)]; exact key hg hl hs
      · rw [decide_eq_true (by omega)]; exact hyes
    · exact Ev.congr (fun k => if_pos (by omega)) hyes
  · exact Ev.congr (fun k => if_pos rfl) hyes
theorem tells_law (A B : Option Addr) (c d : Nat) (ids : List ByteArray) (b : List Int) (s : ByteArray) (w : World) (hC : Kd.string.C w A ids.length ids) (hc : ids.length ≤ c) (hD : (Kd.int .u8).C w B b.length b) (hd : b.length ≤ d) (h8 : ∀ x ∈ b, 0 ≤ x ∧ x < 256) :
    Calls Try.prog 3 #[.slice A ids.length c, .slice B b.length d, .string s] w fun e w' => e = .returned (.bool true) ∧ Below w.heap.size w w' := by
  obtain ⟨k, hk⟩ := tells_true ids b s h8
  exact sacristylaw08_IndexTells.calls k A c ids B d b s true w hC hc hD hd hk
end Go.Proofs.Ytonhmjodgomeiaa.Ix
