/- What this seat's functions compute, in the printer's form. No condition but what stands in each. -/
import Derived.Test.YtonhmjodgomeiaaMIxD
import Derived.Test.YtonhmjodgomeiaaIxTwo
--@GIVEN sacristy/sacristylaw08.head Go.Proofs.Ytonhmjodgomeiaa.Ix.Gv.head 0 1
--@GIVEN sacristy/sacristylaw08.two Go.Proofs.Ytonhmjodgomeiaa.Ix.Gv.two 0 1
--@GIVEN sacristy/index.Put Go.Proofs.Ytonhmjodgomeiaa.Ix.Gv.put 0 1
--@GIVEN sacristy/index.Find Go.Proofs.Ytonhmjodgomeiaa.Ix.Gv.find 0 1
--@GIVEN sacristy/index.Right Go.Proofs.Ytonhmjodgomeiaa.Ix.Gv.right 0 1
--@GIVEN sacristy/index.All Go.Proofs.Ytonhmjodgomeiaa.Ix.Gv.all 0 1
--@GIVEN sacristy/sacristylaw08.great Go.Proofs.Ytonhmjodgomeiaa.Ix.Gv.great 0 1
--@SEM Go.Proofs.Ytonhmjodgomeiaa.Ix.leq_str
--@SEM Go.Proofs.Ytonhmjodgomeiaa.Ix.geq_str
namespace Go.Proofs.Ytonhmjodgomeiaa.RegW
open Go Go.RowKit Go.Proofs.YtonhmjodgomeiaaW.PrintWords
theorem reads_len {α : Type} {R : α → List Value → Prop} {sz : Nat} {w : World} {A : Option Addr} {m n : Nat} {xs : List α} (h : m = n) (k : ReadsRow R sz w A m xs) : ReadsRow R sz w A n xs := h ▸ k
end Go.Proofs.Ytonhmjodgomeiaa.RegW
namespace Go.Proofs.Ytonhmjodgomeiaa.Ix
set_option linter.unusedVariables false
set_option linter.unusedSimpArgs false
open Go.RowKit Blk Dg Go.Proofs.YtonhmjodgomeiaaW.PrintWords Go.Proofs.YtonhmjodgomeiaaW.PrintLast Go.Proofs.YtonhmjodgomeiaaW.PrintMore

theorem leq_str (t : TypeId) (a b : ByteArray) : binOp .leq t (.string a) (.string b) = pure (.bool (!(Op.bytesLess b.toList a.toList))) := by
  have h : (Op.bytesLess a.toList b.toList || a.toList == b.toList) = !(Op.bytesLess b.toList a.toList) := by
    rw [str_less, str_less, cmpL_neg (bytesOf a) (bytesOf b), Bool.eq_iff_iff, Bool.or_eq_true, eq_toList, str_inj, ← cmpL_eq]
    simp only [decide_eq_true_iff, Bool.not_eq_true', decide_eq_false_iff_not]
    omega
  simp [binOp, Op.stringOp, h]
theorem geq_str (t : TypeId) (a b : ByteArray) : binOp .geq t (.string a) (.string b) = pure (.bool (!(Op.bytesLess a.toList b.toList))) := by simp [binOp, Op.stringOp]
/-- Names that may be have an index. -/
theorem ix_is {ids : List ByteArray} (h : putE ids = 0) : ∃ b, IsIx ids b := by
  have h0 := putE_0 h
  obtain ⟨P, hP⟩ : ∃ P, (keysOf ids).mergeSort (fun a b => decide (cmpL a.1 b.1 ≤ 0)) = P := ⟨_, rfl⟩
  have hp : P.Perm (keysOf ids) := by rw [← hP]; exact List.mergeSort_perm _ _
  refine ⟨_, P, hp, ?_, rfl⟩
  have hs : P.Pairwise (fun a b => decide (cmpL a.1 b.1 ≤ 0) = true) := by
    rw [← hP]
    refine List.pairwise_mergeSort (fun a b c h1 h2 => ?_) (fun a b => ?_) _
    · have := of_decide_eq_true h1
      have := of_decide_eq_true h2
      exact decide_eq_true (cmpL_le _ _ _ (by assumption) (by assumption))
    · have := cmpL_neg a.1 b.1
      simp only [Bool.or_eq_true, decide_eq_true_iff]
      omega
  have hn : (P.map Prod.fst).Nodup := by
    rw [(hp.map Prod.fst).nodup_iff, keysOf_fst]; exact h0.2.2
  rw [List.nodup_iff_pairwise_ne, List.pairwise_map] at hn
  refine (hs.and hn).imp fun {a b} k => ?_
  have h1 := of_decide_eq_true k.1
  have h2 : cmpL a.1 b.1 ≠ 0 := fun e => k.2 ((cmpL_eq _ _).1 e)
  omega
noncomputable def putL (ids : List ByteArray) : List Int := by classical exact if h : putE ids = 0 then (ix_is h).choose else []
theorem putL_R (ids : List ByteArray) : PutR ids (putL ids) (putE ids) := by
  refine ⟨rfl, fun h => ?_, fun h => ?_⟩
  · rw [putL, dif_pos h]; exact (ix_is h).choose_spec
  · rw [putL, dif_neg h]
theorem putL_of {ids : List ByteArray} {b : List Int} {z : Int} (h : PutR ids b z) : b = putL ids ∧ z = putE ids := putR_unique h (putL_R ids)
/-- Bytes that may come in. -/
def Byt (l : List Int) : Prop := l.length ≤ 1073741824 ∧ ∀ x ∈ l, 0 ≤ x ∧ x < 256
def Sht (l : List ByteArray) : Prop := ∀ s ∈ l, s.size ≤ 4611686018427387904
namespace Gv
def head.f : Option Bool := some true
theorem head.calls (r : Bool) (w : World) (h : head.f = some r) : Calls Try.prog 9 #[] w fun e w' => e = .returned (.bool r) ∧ Below w.heap.size w w' := by
  obtain rfl := Option.some.inj h
  exact head_calls w
def two.f (a0 : Int) : Option ByteArray := if 0 ≤ a0 ∧ a0 < 256 then some (toldS [a0]) else none
theorem two.calls (a0 : Int) (r : ByteArray) (w : World) (h : two.f a0 = some r) : Calls Try.prog 20 #[.int .i64 a0] w fun e w' => e = .returned (.string r) ∧ Below w.heap.size w w' := by
  unfold two.f at h
  split at h
  · rename_i h0
    obtain rfl := Option.some.inj h
    obtain ⟨c, rfl⟩ := Int.eq_ofNat_of_zero_le h0.1
    exact two_walk c (by omega) w _ _ _ rfl rfl (two_digs ⟨c, by omega⟩)
  · cases h
noncomputable def put.f (l0 : List ByteArray) : Option (List Int × Int) := by classical exact if Sht l0 then some (putL l0, putE l0) else none
theorem put.f_eq {l : List ByteArray} (h : Sht l) : put.f l = some (putL l, putE l) := by unfold put.f; rw [if_pos h]
theorem put.calls (A0 : Option Addr) (c0 : Nat) (l0 : List ByteArray) (r1 : List Int) (r2 : Int) (w : World) (hr0 : Kd.C Kd.string w A0 l0.length l0) (hc0 : l0.length ≤ c0) (h : put.f l0 = some (r1, r2)) :
    Calls Try.prog 11 #[.slice A0 l0.length c0] w fun e w' => ∃ v0_ : Value, e = .returned (.tuple #[v0_, .int .i64 r2]) ∧ Kd.R (Kd.int .u8) 5 w' w.heap.size (fun _ => True) v0_ r1 ∧ Below w.heap.size w w' := by
  unfold put.f at h
  split at h
  · rename_i h0
    obtain ⟨rfl, rfl⟩ := Prod.mk.inj (Option.some.inj h)
    refine (put_calls A0 c0 _ l0 w hr0 rfl hc0 h0).mono ?_
    rintro e w' ⟨v, b, z, rfl, hp, hR, hb⟩
    obtain ⟨rfl, rfl⟩ := putL_of hp
    exact ⟨v, rfl, hR, hb⟩
  · cases h
noncomputable def find.f (l0 : List Int) (a1 : ByteArray) : Option (Int × Bool) := by classical exact if Byt l0 ∧ a1.size ≤ 4611686018427387904 then some ((((findL l0 a1).getD 0 : Nat) : Int), (findL l0 a1).isSome) else none
theorem find.f_eq {l : List Int} {s : ByteArray} (h : Byt l) (hs : s.size ≤ 4611686018427387904) : find.f l s = some ((((findL l s).getD 0 : Nat) : Int), (findL l s).isSome) := by unfold find.f; rw [if_pos ⟨h, hs⟩]
theorem find.calls (A0 : Option Addr) (c0 : Nat) (l0 : List Int) (a1 : ByteArray) (r1 : Int) (r2 : Bool) (w : World) (hr0 : Kd.C (Kd.int .u8) w A0 l0.length l0) (hc0 : l0.length ≤ c0) (h : find.f l0 a1 = some (r1, r2)) :
    Calls Try.prog 13 #[.slice A0 l0.length c0, .string a1] w fun e w' => e = .returned (.tuple #[.int .i64 r1, .bool r2]) ∧ Below w.heap.size w w' := by
  unfold find.f at h
  split at h
  · rename_i h0
    obtain ⟨rfl, rfl⟩ := Prod.mk.inj (Option.some.inj h)
    exact find_calls A0 c0 _ l0 a1 w hr0 rfl hc0 h0.1.1 h0.1.2 h0.2
  · cases h
noncomputable def right.f (l0 : List Int) : Option Bool := by classical exact if Byt l0 then some (rightB l0) else none
theorem right.f_eq {l : List Int} (h : Byt l) : right.f l = some (rightB l) := by unfold right.f; rw [if_pos h]
theorem right.calls (A0 : Option Addr) (c0 : Nat) (l0 : List Int) (r : Bool) (w : World) (hr0 : Kd.C (Kd.int .u8) w A0 l0.length l0) (hc0 : l0.length ≤ c0) (h : right.f l0 = some r) :
    Calls Try.prog 15 #[.slice A0 l0.length c0] w fun e w' => e = .returned (.bool r) ∧ Below w.heap.size w w' := by
  unfold right.f at h
  split at h
  · rename_i h0
    obtain rfl := Option.some.inj h
    exact right_calls A0 c0 _ l0 w hr0 rfl hc0 h0.1 h0.2
  · cases h
noncomputable def all.f (l0 : List Int) : Option (List ByteArray) := by classical exact if Byt l0 then some (allL l0) else none
theorem all.f_eq {l : List Int} (h : Byt l) : all.f l = some (allL l) := by unfold all.f; rw [if_pos h]
theorem all.calls (A0 : Option Addr) (c0 : Nat) (l0 : List Int) (r : List ByteArray) (w : World) (hr0 : Kd.C (Kd.int .u8) w A0 l0.length l0) (hc0 : l0.length ≤ c0) (h : all.f l0 = some r) :
    Calls Try.prog 18 #[.slice A0 l0.length c0] w fun e w' => ∃ v0_ : Value, e = .returned v0_ ∧ Kd.R Kd.string 9 w' w.heap.size (fun _ => True) v0_ r ∧ Below w.heap.size w w' := by
  unfold all.f at h
  split at h
  · rename_i h0
    obtain rfl := Option.some.inj h
    exact all_calls A0 c0 _ l0 w hr0 rfl hc0 h0.1 h0.2
  · cases h
noncomputable def great.f (l0 : List ByteArray) : Option Bool := some (greatB l0)
theorem great.calls (A0 : Option Addr) (c0 : Nat) (l0 : List ByteArray) (r : Bool) (w : World) (hr0 : Kd.C Kd.string w A0 l0.length l0) (hc0 : l0.length ≤ c0) (h : great.f l0 = some r) :
    Calls Try.prog 10 #[.slice A0 l0.length c0] w fun e w' => e = .returned (.bool r) ∧ Below w.heap.size w w' := by
  obtain rfl := Option.some.inj h
  exact great_calls A0 c0 _ l0 w hr0 rfl hc0
end Gv
end Go.Proofs.Ytonhmjodgomeiaa.Ix
