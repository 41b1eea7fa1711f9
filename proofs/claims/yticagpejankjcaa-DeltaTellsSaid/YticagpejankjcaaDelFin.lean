/- What the document's Apply computes, step by step, and that it is what the program's Apply computes. No condition. -/
import Derived.Test.YticagpejankjcaaDelRMake
namespace Go.Proofs.Yticagpejankjcaa.Db
set_option linter.unusedVariables false
set_option linter.unusedSimpArgs false
open Go.RowKit Go.Proofs.YticagpejankjcaaW.PrintWords Go.Proofs.YticagpejankjcaaW.PrintLast Go.Proofs.YticagpejankjcaaW.PrintMore

def fin (base : ByteArray) (tz : Int) (L out : List Int) : Option (List Int) :=
  if (stp base L).2 = true ∧ ((out.length + (xOf (stp base L).1).length : Nat) : Int) = tz then some (out ++ xOf (stp base L).1) else none
theorem fin_nil (base : ByteArray) (tz : Int) (out : List Int) : fin base tz [] out = if (out.length : Int) = tz then some out else none := by
  rw [fin, stp_nil]
  simp [xOf]
theorem fin_no (base : ByteArray) (tz : Int) (L out : List Int) (h : (stp base L).2 = false) : fin base tz L out = none := by
  rw [fin, if_neg (fun k => by rw [h] at k; cases k.1)]
theorem fin_over (base : ByteArray) (tz : Int) (L out : List Int) (h : tz < out.length) : fin base tz L out = none := by
  rw [fin, if_neg (fun k => by have := k.2; omega)]
theorem fin_bad (base : ByteArray) (tz : Int) (c : Int) (r out : List Int) (h1 : c ≠ 128) (h2 : c = 0 ∨ 128 < c ∨ r.length < c) : fin base tz (c :: r) out = none := by
  refine fin_no _ _ _ _ ?_
  rw [stp, List.length_cons, runS, if_neg h1, if_pos h2]
theorem fin_ins (base : ByteArray) (tz : Int) (c : Int) (r out : List Int) (h8 : ∀ x ∈ r, 0 ≤ x ∧ x < 256) (h1 : c ≠ 128) (h2 : ¬ (c = 0 ∨ 128 < c ∨ r.length < c)) :
    fin base tz (c :: r) out = fin base tz (r.drop c.toNat) (out ++ r.take c.toNat) := by
  have hx : ∀ ps : List ByteArray, xOf (strOfNums (r.take c.toNat) :: ps) = r.take c.toNat ++ xOf ps := fun ps => by
    rw [xOf, List.flatMap_cons, bytesOf_str _ (fun x hx => h8 x (List.mem_of_mem_take hx))]; rfl
  rw [fin, fin, stp_ins base c r h1 h2, hx]
  simp only [List.length_append, List.append_assoc, Nat.add_assoc]
theorem fin_no1 (base : ByteArray) (tz : Int) (r out : List Int) (h1 : getR r 0 0 = none) : fin base tz (128 :: r) out = none := by
  refine fin_no _ _ _ _ ?_
  rw [stp, List.length_cons, runS, if_pos rfl, h1]
theorem fin_no2 (base : ByteArray) (tz : Int) (r out : List Int) (at_ : Int) (k : Nat) (h1 : getR r 0 0 = some (at_, k)) (h2 : getR (r.drop k) 0 0 = none) : fin base tz (128 :: r) out = none := by
  refine fin_no _ _ _ _ ?_
  rw [stp, List.length_cons, runS, if_pos rfl, h1]
  simp only
  rw [h2]
theorem fin_no3 (base : ByteArray) (tz : Int) (r out : List Int) (at_ n : Int) (k j : Nat) (h1 : getR r 0 0 = some (at_, k)) (h2 : getR (r.drop k) 0 0 = some (n, j)) (h3 : n < 1 ∨ base.size < at_ ∨ base.size - at_ < n) : fin base tz (128 :: r) out = none := by
  refine fin_no _ _ _ _ ?_
  rw [stp_bad base r at_ n k j h1 h2 h3]
theorem fin_copy (base : ByteArray) (tz : Int) (r out : List Int) (at_ n : Int) (k j : Nat) (h1 : getR r 0 0 = some (at_, k)) (h2 : getR (r.drop k) 0 0 = some (n, j)) (h3 : ¬ (n < 1 ∨ base.size < at_ ∨ base.size - at_ < n)) :
    fin base tz (128 :: r) out = fin base tz ((r.drop k).drop j) (out ++ bytesOf (base.extract at_.toNat (at_ + n).toNat)) := by
  rw [fin, fin, stp_copy base r at_ n k j h1 h2 h3]
  simp only [xOf, List.flatMap_cons, List.length_append, List.append_assoc, Nat.add_assoc]
/-- What the document's Apply makes of a base and a delta's bytes. -/
def rapp (base : ByteArray) (D : List Int) : Option (List Int) :=
  match getR D 0 0 with
  | none => none
  | some (a, k) => if a = base.size then (match getR (D.drop k) 0 0 with | none => none | some (t, j) => fin base t ((D.drop k).drop j) []) else none
theorem rapp_no1 (base : ByteArray) (D : List Int) (h : getR D 0 0 = none) : rapp base D = none := by rw [rapp, h]
theorem rapp_no2 (base : ByteArray) (D : List Int) (a : Int) (k : Nat) (h : getR D 0 0 = some (a, k)) (h2 : a ≠ base.size) : rapp base D = none := by rw [rapp, h]; simp only; rw [if_neg h2]
theorem rapp_no3 (base : ByteArray) (D : List Int) (a : Int) (k : Nat) (h : getR D 0 0 = some (a, k)) (h2 : getR (D.drop k) 0 0 = none) : rapp base D = none := by
  rw [rapp, h]
  simp only
  rw [h2]
  split <;> rfl
theorem rapp_go (base : ByteArray) (D : List Int) (a t : Int) (k j : Nat) (h : getR D 0 0 = some (a, k)) (h2 : a = base.size) (h3 : getR (D.drop k) 0 0 = some (t, j)) : rapp base D = fin base t ((D.drop k).drop j) [] := by
  rw [rapp, h]
  simp only
  rw [if_pos h2, h3]
theorem str_sum (ps : List ByteArray) : (⟨(sumL ps).toArray⟩ : ByteArray) = strOfNums (xOf ps) := by
  rw [str_inj, bytesOf_sumL, bytesOf_str]
  intro x hx
  obtain ⟨p, _, hp⟩ := List.mem_flatMap.1 hx
  exact bytesOf_8 p x hp
theorem rapp_apply (base : ByteArray) (D : List Int) : (applyR base D).map (fun xs => (⟨xs.toArray⟩ : ByteArray)) = (rapp base D).map strOfNums := by
  rcases h1 : getR D 0 0 with _ | ⟨a, k⟩
  · rw [apply_none base D h1, rapp_no1 base D h1]; rfl
  · rcases h2 : getR (D.drop k) 0 0 with _ | ⟨t, j⟩
    · rw [apply_none2 base D a k h1 h2, rapp_no3 base D a k h1 h2]; rfl
    · by_cases h3 : a = base.size
      · rw [rapp_go base D a t k j h1 h3 h2, applyR, h1, leftL, h2, leftL, fin]
        obtain ⟨ps, ok⟩ : ∃ p, stp base ((D.drop k).drop j) = p := ⟨_, rfl⟩
        have he : runS base (((D.drop k).drop j).length + 1) ((D.drop k).drop j) = stp base ((D.drop k).drop j) := rfl
        rw [he]
        simp only [tri, Option.isSome_some, true_and, List.length_nil, Nat.zero_add, List.nil_append]
        rw [sumL_len]
        by_cases h4 : (stp base ((D.drop k).drop j)).2 = true ∧ ((xOf (stp base ((D.drop k).drop j)).1).length : Int) = t
        · rw [if_pos ⟨h4.1, h3, h4.2⟩, if_pos h4, Option.map_some, Option.map_some, str_sum]
        · rw [if_neg (fun h => h4 ⟨h.1, h.2.2⟩), if_neg h4]; rfl
      · rw [rapp_no2 base D a k h1 h3, applyR, h1, if_neg (fun h => h3 h.2.2.2.1)]; rfl
theorem C_bytes (w : World) (d : ByteArray) (hd : d.size ≤ 1099511627776) : (Kd.int .u8).C (Lib.bytesWorld w 5 d) (some ⟨w.heap.size, 0, none⟩) (bytesOf d).length (bytesOf d) := by
  refine Kd.C_of_reads (enc := Value.int .u8) (d := (0 : Int)) ⟨rfl, by rw [bytesOf_length]; omega, fun _ => ⟨_, rfl, fun j hj => ?_⟩⟩
  have hj2 : j < (bytesOf d).length := hj
  have hjd : j < d.size := by rwa [bytesOf_length] at hj2
  rw [add_0, Lib.bytesWorld_cell w 5 d j hjd]
  simp [bytesOf, hjd, List.getD_eq_getElem?_getD, rdOf]
theorem below_bytes (w : World) (d : ByteArray) : Below w.heap.size w (Lib.bytesWorld w 5 d) := ⟨rfl, rfl, rfl, by rw [Lib.bytesWorld_size]; omega, fun i hi => Lib.bytesWorld_at_old w _ d i hi⟩
end Go.Proofs.Yticagpejankjcaa.Db
