/- IndexBack: what the printed walk computes is true. No condition but the reach of what comes in. -/
import Derived.Test.YtonhmjodgomeiaaPIndexBackx
namespace Go.Proofs.Ytonhmjodgomeiaa.Ix
set_option linter.unusedVariables false
set_option linter.unusedSimpArgs false
open Go.RowKit Blk Dg Go.Proofs.YtonhmjodgomeiaaW.PrintWords Go.Proofs.YtonhmjodgomeiaaW.PrintLast Go.Proofs.YtonhmjodgomeiaaW.PrintMore
open PIndexBack

theorem w64 (x : Int) (h0 : 0 ≤ x) (h1 : x < 1000000000000000) : wrap64 x = x := by unfold wrap64; omega
theorem rdS (l : List ByteArray) (i : Nat) (s : ByteArray) (h : l[i]? = some s) (j : Int) (hj : j = i) : rdOf ByteArray.empty l j = s := by
  subst hj
  rw [rdOf, Int.toNat_natCast, List.getD_eq_getElem?_getD, h, Option.getD_some]
theorem all_le (b : List Int) : (allL b).length ≤ (b.length - 544) / 34 := by
  unfold allL
  split
  · rw [allG_len]; exact Nat.le_refl _
  · exact Nat.zero_le _
theorem right_more {b : List Int} (h : rightB b = true) (x : Int) : rightB (b ++ [x]) = false := by
  refine Bool.eq_false_iff.2 fun h2 => ?_
  have h3 := right_ok h
  have h4 := right_ok h2
  rw [List.length_append, List.length_singleton] at h4
  unfold rowsOk at h3 h4
  omega
/-- What is filled in behind i rounds. -/
def fillX (P : List (List Int × Nat)) (xs : List ByteArray) (i : Nat) : List ByteArray := (P.take i).foldl (fun xs p => xs.set p.2 (toldS p.1)) xs
theorem fillX_len (P : List (List Int × Nat)) (xs : List ByteArray) (i : Nat) : (fillX P xs i).length = xs.length := by
  unfold fillX
  generalize P.take i = Q
  induction Q generalizing xs with
  | nil => rfl
  | cons q Q ih => rw [List.foldl_cons, ih, List.length_set]
theorem fillX_snoc {P : List (List Int × Nat)} {xs : List ByteArray} {i : Nat} {p : List Int × Nat} (h : P[i]? = some p) : fillX P xs (i + 1) = (fillX P xs i).set p.2 (toldS p.1) := by
  unfold fillX
  rw [List.take_add_one, h, List.foldl_append]
  rfl
theorem fillX_other : ∀ (Q : List (List Int × Nat)) (xs : List ByteArray) (k : Nat), (∀ q ∈ Q, q.2 ≠ k) → (Q.foldl (fun xs p => xs.set p.2 (toldS p.1)) xs)[k]? = xs[k]?
  | [], _, _, _ => rfl
  | q :: Q, xs, k, h => by
    rw [List.foldl_cons, fillX_other Q _ k (fun p hp => h p (List.mem_cons_of_mem _ hp)), List.getElem?_set_ne (h q List.mem_cons_self)]
theorem back_l0 {b : List Int} {ids : List ByteArray} {P : List (List Int × Nat)} (hr : rightB b = true) (hB : Byt b) (hb9 : b.length ≤ 9000) (hid : idsOf b = some ids) (hp : PutR ids b 0) (h3 : P.Perm (keysOf ids)) (h4 : Srt P)
    (h5 : ∀ p ∈ P, p.1.length = 32 ∧ ∀ x ∈ p.1, 0 ≤ x ∧ x < 256) (h6 : allL b = P.map (fun p => toldS p.1)) (h7 : P.length = ids.length) (cut more : Int) (hc : 0 ≤ cut ∧ cut < 65536) (hm : 0 ≤ more ∧ more < 256) :
    ∀ (d i : Nat), P.length - i = d → i ≤ P.length → Ev (fun k => sacristylaw08_IndexBack.l0 k b cut more true (P.map fun p => toldS p.1) (fillX P (List.replicate P.length (⟨#[]⟩ : ByteArray)) i) (i : Int)) true := by
  have h512 := put_few hp
  have hbl := (put_right hp).2.2
  have hE := putE_0 hp.1.symm
  have hids : ∀ p ∈ P, ids[p.2]? = some (toldS p.1) := fun p hp2 => by
    obtain ⟨t, ht, e⟩ := key_mem (h3.subset hp2)
    rw [ht, e, told_raw (List.all_eq_true.1 hE.2.1 t (List.mem_of_getElem? ht))]
  intro d
  induction d with
  | zero =>
    intro i hd hi
    have hin : i = P.length := by omega
    subst hin
    have hX : fillX P (List.replicate P.length (⟨#[]⟩ : ByteArray)) P.length = ids := by
      unfold fillX
      rw [List.take_of_length_le (Nat.le_refl _)]
      refine foldl_set ids P _ hids (by rw [List.length_replicate, h7]) (fun k t hk => .inl ?_)
      have hkl : k < ids.length := (List.getElem?_eq_some_iff.1 hk).1
      exact ⟨_, h3.symm.subset (List.mem_of_getElem? (keysOf_at ids k hkl)), rfl⟩
    have hS : Sht ids := fun s hs => by
      have := List.all_eq_true.1 hE.2.1 s hs
      have := ((named_iff _).1 this).1
      rw [bytesOf_length] at this
      omega
    obtain ⟨e1, e2⟩ := putL_of hp
    obtain ⟨k, hk⟩ : ∃ k : Nat, cut.tmod (b.length : Int) = (k : Int) := ⟨(cut.tmod (b.length : Int)).toNat, by have := Int.tmod_nonneg (b.length : Int) hc.1; omega⟩
    have hkn : k < b.length := by have := Int.tmod_lt_of_pos cut (show (0 : Int) < b.length by omega); omega
    have hBk : Byt (b.take k) := ⟨by rw [List.length_take]; have := hB.1; omega, fun x hx => hB.2 x (List.mem_of_mem_take hx)⟩
    have hBm : Byt (b ++ [more]) := ⟨by rw [List.length_append]; have := hB.1; simp; omega, fun x hx => by
      rcases List.mem_append.1 hx with hx | hx
      · exact hB.2 x hx
      · rw [List.mem_singleton.1 hx]; exact hm⟩
    have hsl := all_le (b.take k)
    rw [List.length_take] at hsl
    refine Ev.step (f := fun _ => some true) (fun j => ?_) (Ev.now true)
    simp only [sacristylaw08_IndexBack.l0]
    rw [hX, if_neg (by rw [List.length_map]; omega), Gv.put.f_eq hS, Option.bind_some, if_neg (by omega), w64 cut hc.1 (by omega), hk, if_pos (by omega), if_pos (by omega), Int.toNat_natCast, Gv.all.f_eq hBk, Option.bind_some, if_pos trivial]
    dsimp only
    rw [← e1, ← e2, if_pos rfl, if_pos rfl, w64 _ (by rw [List.length_map]; omega) (by rw [List.length_map]; omega), if_pos (by rw [List.length_map]; omega), Option.bind_some, List.nil_append, List.length_nil, if_pos (by omega), Option.bind_some, if_pos (by omega), Gv.right.f_eq hBm, Option.bind_some, right_more hr]
    rfl
  | succ d ih =>
    intro i hd hi
    have hil : i < P.length := by omega
    obtain ⟨p, hpi⟩ : ∃ p, P[i]? = some p := ⟨P[i], List.getElem?_eq_getElem hil⟩
    have hpm : p ∈ P := List.mem_of_getElem? hpi
    have h5p := h5 p hpm
    have hLi : (P.map fun p => toldS p.1)[i]? = some (toldS p.1) := by rw [List.getElem?_map, hpi]; rfl
    have e1 := rdS _ i _ hLi (i : Int) rfl
    have hf : findL b (toldS p.1) = some p.2 := find_hit hr hid hp.1.symm h3 (told_named h5p.2 h5p.1) hpm (raw_told h5p.2).symm
    have hsz : (toldS p.1).size ≤ 4611686018427387904 := by rw [told_size _ h5p.1]; decide
    have hp2 : p.2 < ids.length := (List.getElem?_eq_some_iff.1 (hids p hpm)).1
    have hFl := fillX_len P (List.replicate P.length (⟨#[]⟩ : ByteArray)) i
    rw [List.length_replicate] at hFl
    have hno : ∀ q ∈ P.take i, q.2 ≠ p.2 := by
      intro q hq e
      have hn : (P.map Prod.snd).Nodup := by
        rw [(h3.map Prod.snd).nodup_iff, keysOf]
        simp only [List.map_map]
        rw [show (Prod.snd ∘ fun p : ByteArray × Nat => (rawL p.1, p.2)) = Prod.snd from rfl, List.zipIdx_map_snd]
        exact List.nodup_range'
      rw [List.nodup_iff_pairwise_ne, List.pairwise_map, List.pairwise_iff_getElem] at hn
      obtain ⟨j, hj, rfl⟩ := List.getElem_of_mem hq
      rw [List.length_take] at hj
      have := hn j i (by omega) hil (by omega)
      rw [List.getElem_take] at e
      rw [List.getElem?_eq_getElem hil] at hpi
      rw [Option.some.inj hpi] at this
      exact this e
    have e2 : (fillX P (List.replicate P.length (⟨#[]⟩ : ByteArray)) i)[p.2]? = some (⟨#[]⟩ : ByteArray) := by
      unfold fillX
      rw [fillX_other _ _ _ hno, List.getElem?_replicate, if_pos (by omega)]
    have e3 := rdS _ p.2 _ e2 (p.2 : Int) rfl
    have ih' := ih (i + 1) (by omega) (by omega)
    rw [fillX_snoc hpi] at ih'
    refine Ev.step (fun k => ?_) ih'
    simp only [sacristylaw08_IndexBack.l0]
    rw [if_pos (by rw [List.length_map]; omega), if_pos (by omega), e1, Gv.find.f_eq hB hsz, Option.bind_some, hf]
    dsimp only [Option.getD_some, Option.isSome_some]
    rw [if_pos rfl, if_neg (by omega), hFl, if_neg (by omega), if_pos (by omega), if_pos (by omega), if_pos (by rw [e3]; decide +kernel), w64 ((i : Int) + 1) (by omega) (by omega), Int.toNat_natCast]
    rcases i with _ | i
    · rw [if_neg (by omega)]
      rfl
    · obtain ⟨q, hqi⟩ : ∃ q, P[i]? = some q := ⟨P[i]'(by omega), List.getElem?_eq_getElem _⟩
      have h5q := h5 q (List.mem_of_getElem? hqi)
      have hLq : (P.map fun p => toldS p.1)[i]? = some (toldS q.1) := by rw [List.getElem?_map, hqi]; rfl
      have e4 := rdS _ i _ hLq (((i + 1 : Nat) : Int) - 1) (by omega)
      have hlt : cmpL q.1 p.1 < 0 := by
        have h8 := (List.pairwise_iff_getElem.1 h4) i (i + 1) (by omega) hil (by omega)
        rw [List.getElem?_eq_getElem (by omega)] at hqi hpi
        rw [Option.some.inj hqi, Option.some.inj hpi] at h8
        exact h8
      rw [if_pos (by omega), w64 (((i + 1 : Nat) : Int) - 1) (by omega) (by omega), if_pos (by omega), if_pos (by rw [List.length_map]; omega), e4, told_less h5q.2 h5p.2, if_pos (decide_eq_true hlt)]
      rfl
theorem back_true (b : List Int) (cut more : Int) (h8 : ∀ x ∈ b, 0 ≤ x ∧ x < 256) (hc : 0 ≤ cut ∧ cut < 65536) (hm : 0 ≤ more ∧ more < 256) : ∃ k, sacristylaw08_IndexBack.f k b cut more = some true := by
  refine Ev.rounds ?_
  by_cases h9 : b.length ≤ 9000
  · have hB : Byt b := ⟨by omega, h8⟩
    refine Ev.congr (f := fun k => sacristylaw08_IndexBack.j0 k b cut more true (!(rightB b))) (fun k => by
      unfold sacristylaw08_IndexBack.f Gv.head.f
      rw [Option.bind_some, if_neg (by omega), Gv.right.f_eq hB, Option.bind_some]) ?_
    rcases hr : rightB b with _ | _
    · refine Ev.step (f := fun _ => some true) (fun k => ?_) (Ev.now true)
      simp only [sacristylaw08_IndexBack.j0]
      rw [if_pos (by rfl), if_pos trivial, if_neg (by omega), Gv.all.f_eq hB, Option.bind_some, allL, if_neg (by rw [hr]; decide)]
      rfl
    · obtain ⟨ids, P, p1, p2, p3, p4, p5, p6, p7⟩ := all_of hr
      have hb := back_l0 hr hB h9 p1 p2 p3 p4 p5 p6 p7 cut more hc hm P.length 0 (by omega) (by omega)
      have h512 := put_few p2
      refine Ev.step (fun k => ?_) hb
      simp only [sacristylaw08_IndexBack.j0]
      rw [if_neg (by decide), Gv.all.f_eq hB, Option.bind_some, p6, List.length_map, if_pos (by omega), Int.toNat_natCast, if_pos (by omega)]
      rfl
  · refine Ev.congr (f := fun k => sacristylaw08_IndexBack.j0 k b cut more true true) (fun k => by
      unfold sacristylaw08_IndexBack.f Gv.head.f
      rw [Option.bind_some, if_pos (by omega)]) ?_
    refine Ev.step (f := fun _ => some true) (fun k => ?_) (Ev.now true)
    simp only [sacristylaw08_IndexBack.j0]
    rw [if_pos trivial, if_pos trivial, if_pos (by omega)]
theorem back_law (A : Option Addr) (c : Nat) (b : List Int) (cut more : Int) (w : World) (hC : (Kd.int .u8).C w A b.length b) (hc : b.length ≤ c) (h8 : ∀ x ∈ b, 0 ≤ x ∧ x < 256) (hcut : 0 ≤ cut ∧ cut < 65536) (hm : 0 ≤ more ∧ more < 256) :
    Calls Try.prog 5 #[.slice A b.length c, .int .u16 cut, .int .u8 more] w fun e w' => e = .returned (.bool true) ∧ Below w.heap.size w w' := by
  obtain ⟨k, hk⟩ := back_true b cut more h8 hcut hm
  exact sacristylaw08_IndexBack.calls k A c b cut more true w hC hc hk
end Go.Proofs.Ytonhmjodgomeiaa.Ix
