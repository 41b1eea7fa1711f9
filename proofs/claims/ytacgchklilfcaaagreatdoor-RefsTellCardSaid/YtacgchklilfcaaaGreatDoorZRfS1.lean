/- Joined texts: StrSem, RfLib, RfSplitP, RfSplit. No condition but what stands in each. -/
import Derived.Test.YtacgchklilfcaaaGreatDoorProg
import Derived.Test.YtacgchklilfcaaaGreatDoorZWWords
import Derived.RowKit
import Derived.Test.YtacgchklilfcaaaGreatDoorZShelf
import Derived.Test.YtacgchklilfcaaaGreatDoorZWLast
import Derived.Below
import Derived.Deep.Draws
import Derived.Deep.AppendLies
import Derived.Maps.AppendAt
import Derived.OwnWalk
import Derived.Laws.BytesArg
import Derived.Laws.MakeOwn
import Derived.Laws.OwnMore
import Derived.Deep.OwnRows
import Derived.Tactics
import Derived.Lib.ConvBytes
import Derived.Laws.Slices
import Derived.WalkKit
import Derived.KernelRfl
import Derived.RowKit3
import Derived.Deep.LoopGhost
import Derived.Deep.QuietTactic
import Derived.BigQuiet
import Derived.WideLaws
import Derived.Deep.DeepCutAuto
import Derived.Deep.CutBlock
import Derived.Deep.RegionHeld3
import Derived.Laws.Rows
import Derived.Lib.AppendStr
import Derived.ArgAppend
import Derived.Laws.IdiomCopy
import Derived.OrdersHeld
import Derived.Laws.BitsLemmas
import Derived.Test.YtacgchklilfcaaaGreatDoorZWMore
import Derived.BigRegion
import Derived.Shelf.Abstract
namespace Go.Proofs.YtacgchklilfcaaaGreatDoor.RegW
open Go Go.RowKit Go.Proofs.YtacgchklilfcaaaGreatDoorW.PrintWords
end Go.Proofs.YtacgchklilfcaaaGreatDoor.RegW
namespace Go.Proofs.YtacgchklilfcaaaGreatDoor.StrSem
open Go
theorem less_or : ∀ (a b : List UInt8), (Op.bytesLess a b || a == b) = !(Op.bytesLess b a)
  | [], [] => by simp [Op.bytesLess]
  | [], y :: s => by simp [Op.bytesLess]
  | x :: r, [] => by simp [Op.bytesLess]
  | x :: r, y :: s => by
    have ih := less_or r s
    rw [Op.bytesLess, Op.bytesLess]
    by_cases h1 : x < y
    · have h2 : ¬ y < x := fun h => UInt8.lt_irrefl _ (UInt8.lt_trans h1 h)
      have h3 : (y == x) = false := by
        rw [beq_eq_false_iff_ne]; rintro rfl; exact h2 h1
      simp [h1, h2, h3]
    · by_cases h2 : y < x
      · have h3 : (x == y) = false := by
          rw [beq_eq_false_iff_ne]; rintro rfl; exact h1 h2
        simp [h1, h2, h3]
      · have he : x = y := UInt8.le_antisymm (UInt8.not_lt.1 h2) (UInt8.not_lt.1 h1)
        subst he
        simp only [h1, decide_false, Bool.false_or, beq_self_eq_true, Bool.true_and]
        rw [← ih]
        simp
theorem leq_str (t : TypeId) (a b : ByteArray) : binOp .leq t (.string a) (.string b) = pure (.bool (!(Op.bytesLess b.toList a.toList))) := by
  simp [binOp, Op.stringOp, less_or a.toList b.toList]
theorem geq_str (t : TypeId) (a b : ByteArray) : binOp .geq t (.string a) (.string b) = pure (.bool (!(Op.bytesLess a.toList b.toList))) := by simp [binOp, Op.stringOp]
theorem gtr_str (t : TypeId) (a b : ByteArray) : binOp .gtr t (.string a) (.string b) = pure (.bool (Op.bytesLess b.toList a.toList)) := by
  simp [binOp, Op.stringOp, less_or a.toList b.toList]
end Go.Proofs.YtacgchklilfcaaaGreatDoor.StrSem
namespace Go.Proofs.YtacgchklilfcaaaGreatDoor.Gl
set_option linter.unusedVariables false
open Go Go.RowKit Go.Proofs.YtacgchklilfcaaaGreatDoorW.PrintWords Go.Proofs.YtacgchklilfcaaaGreatDoorW.PrintLast
def oneB (s : ByteArray) : Option UInt8 := match s.data.toList with | [c] => some c | _ => none
theorem oneB_eq {s : ByteArray} {c : UInt8} (h : oneB s = some c) : s = ⟨#[c]⟩ := by
  unfold oneB at h
  split at h
  · rename_i d hd
    obtain rfl := Option.some.inj h
    rcases s with ⟨⟨l⟩⟩
    simp only at hd
    rw [hd]
  · cases h
def lite_Index.f (a0 a1 : ByteArray) : Option Int := (oneB a1).map fun c => Lib.indexByte a0.data.toList c
theorem lite_Index.calls (a0 a1 : ByteArray) (r : Int) (w : World) (h : lite_Index.f a0 a1 = some r) : Calls Tryz.prog 73 #[.string a0, .string a1] w fun e w' => e = .returned (.int .i64 r) ∧ Drawn0 w w' := by
  obtain ⟨c, hc, rfl⟩ := Option.map_eq_some_iff.1 h
  rw [oneB_eq hc]
  exact (Tryz.stringslite_Index_one a0 c w).mono fun e w' k => ⟨k.1, by rw [k.2]; exact Drawn0.refl _⟩
end Go.Proofs.YtacgchklilfcaaaGreatDoor.Gl
namespace Go.Proofs.YtacgchklilfcaaaGreatDoor.Gl
set_option linter.unusedVariables false
open Go Go.RowKit Go.Proofs.YtacgchklilfcaaaGreatDoorW.PrintWords Go.Proofs.YtacgchklilfcaaaGreatDoorW.PrintLast
def splitL (c : UInt8) : List UInt8 → List (List UInt8)
  | [] => [[]]
  | b :: r => if b = c then [] :: splitL c r else match splitL c r with | h :: t => (b :: h) :: t | [] => [[b]]
def strOf (l : List UInt8) : ByteArray := ⟨l.toArray⟩
def splitS (c : UInt8) (s : ByteArray) : List ByteArray := (splitL c s.data.toList).map strOf
theorem splitL_len (c : UInt8) : ∀ l : List UInt8, (splitL c l).length = l.count c + 1
  | [] => rfl
  | b :: r => by
    have ih := splitL_len c r
    rw [splitL]
    by_cases h : b = c
    · subst h
      rw [if_pos rfl, List.length_cons, ih, List.count_cons_self]
    · rw [if_neg h, List.count_cons_of_ne h]
      rcases hs : splitL c r with _ | ⟨x, t⟩
      · rw [hs] at ih; simp at ih
      · rw [hs] at ih; simpa using ih
theorem splitL_none (c : UInt8) : ∀ l : List UInt8, l.count c = 0 → splitL c l = [l]
  | [], _ => rfl
  | b :: r, h => by
    have hb : b ≠ c := by
      rintro rfl
      rw [List.count_cons_self] at h; omega
    rw [List.count_cons_of_ne hb] at h
    rw [splitL, if_neg hb, splitL_none c r h]
theorem splitL_at (c : UInt8) : ∀ l : List UInt8, 0 < l.count c → ∃ m : Nat, Lib.indexByte l c = (m : Int) ∧ m < l.length ∧ splitL c l = l.take m :: splitL c (l.drop (m + 1)) ∧ l.count c = (l.drop (m + 1)).count c + 1
  | [], h => by simp at h
  | b :: r, h => by
    by_cases hb : b = c
    · subst hb
      refine ⟨0, by simp [Lib.indexByte], by simp, ?_, ?_⟩
      · rw [splitL, if_pos rfl]; simp
      · rw [List.count_cons_self]; simp
    · rw [List.count_cons_of_ne hb] at h
      obtain ⟨m, h1, h2, h3, h4⟩ := splitL_at c r h
      refine ⟨m + 1, ?_, by simpa using h2, ?_, ?_⟩
      · rw [Lib.indexByte, if_neg (by simpa using hb), h1, if_neg (by simp only [beq_iff_eq]; omega)]; omega
      · rw [splitL, if_neg hb, h3]; rfl
      · rw [List.count_cons_of_ne hb, h4]; rfl
theorem count_le (c : UInt8) (s : ByteArray) : s.data.toList.count c ≤ s.size := by
  have := List.count_le_length (a := c) (l := s.data.toList)
  simpa using this
end Go.Proofs.YtacgchklilfcaaaGreatDoor.Gl
namespace Go.Proofs.YtacgchklilfcaaaGreatDoor.Gl
set_option linter.unusedVariables false
set_option linter.unusedSimpArgs false
open Go Go.RowKit Go.Proofs.YtacgchklilfcaaaGreatDoorW.PrintWords Go.Proofs.YtacgchklilfcaaaGreatDoorW.PrintLast Go.Proofs.YtacgchklilfcaaaGreatDoorW.PrintMore
structure As (p : Prop) : Prop where
  out : p
theorem info_str : (Tryz.prog.info? 9).map (fun i => (i.zero, i.size, i.bytes)) = some (some (.string ⟨#[]⟩), 1, 16) := by kernel_rfl
theorem make_strs (n : Nat) (hn : n ≤ 1000000001) (w : World) : ∃ w', (Instr.makeSlice 33 (.int .i64 (n : Int)) (.int .i64 (n : Int))).run Tryz.prog w = .ok (.slice (some ⟨w.heap.size, 0, none⟩) n n) w' ∧
    Kd.string.R 9 w' w.heap.size (fun _ => True) (.slice (some ⟨w.heap.size, 0, none⟩) n n) (List.replicate n ⟨#[]⟩) ∧ Below w.heap.size w w' := by
  obtain ⟨i, hi, hz⟩ := Option.map_eq_some_iff.1 info_str
  simp only [Prod.mk.injEq] at hz
  obtain ⟨w', h1, h2, h3⟩ := run_make_full (P := Tryz.prog) w w.heap.size 33 9 i _ 1 Tryz.underlying33 hi hz.1 hz.2.1 .i64 .i64 n (by rw [hz.2.2]; omega) (by simp only [maxLen]; omega) (Nat.le_refl _)
  refine ⟨w', h1, ?_, (Below.refl _ w).grown h3 (Nat.le_refl _) (fun _ h => by cases h)⟩
  refine Kd.R_of_own (enc := Value.string) ?_ (fun _ _ => trivial)
  rw [List.length_replicate]
  have e : encs Value.string (List.replicate n ⟨#[]⟩) = (madeCells (Value.string ⟨#[]⟩).cells (n * 1)).toList := by
    apply List.ext_getElem
    · simp [encs, size_madeCells]
    · intro k k1 k2
      simp [encs, madeCells, Value.cells, Nat.mod_one]
  rw [e]; exact h2
theorem cut_front (t y : ByteArray) (j : Nat) (hy : t.extract 0 j = y) (h : j ≤ t.size) (z : Int) (hz : z = j) (wx : World) :
    (Instr.slice 9 (.string t) none (some (.int .i64 z)) none).run Tryz.prog wx = .ok (.string y) wx := by
  subst hz
  rw [run_slice_string_to_if (P := Tryz.prog) wx 9 t .i64 (j : Int) Tryz.underlying9, if_pos (by omega), Int.toNat_natCast, hy]
theorem cut_back (t y : ByteArray) (j : Nat) (hy : t.extract j t.size = y) (h : j ≤ t.size) (z : Int) (hz : z = j) (wx : World) :
    (Instr.slice 9 (.string t) (some (.int .i64 z)) none none).run Tryz.prog wx = .ok (.string y) wx := by
  subst hz
  rw [run_slice_string_from_if (P := Tryz.prog) wx 9 t .i64 (j : Int) Tryz.underlying9, if_pos (by omega), Int.toNat_natCast, hy]
theorem ext_front (t : ByteArray) (j : Nat) : t.extract 0 j = strOf (t.data.toList.take j) := by
  apply ByteArray.ext
  rw [ByteArray.data_extract, strOf]
  apply Array.ext'
  simp
theorem ext_back (t : ByteArray) (j : Nat) : (t.extract j t.size).data.toList = t.data.toList.drop j := by
  rw [ByteArray.data_extract]
  simp
  rw [List.take_of_length_le (by simp)]
set_option maxHeartbeats 4000000 in
set_option maxRecDepth 100000 in
theorem gen_calls (s : ByteArray) (c : UInt8) (w : World) (hs : s.size ≤ 1000000000) :
    Calls Tryz.prog 55 #[.string s, .string ⟨#[c]⟩, .int .i64 0, .int .i64 (-1)] w fun e w' => ∃ v, e = .returned v ∧ Kd.string.R 9 w' w.heap.size (fun _ => True) v (splitS c s) ∧ Below w.heap.size w w' := by
  obtain ⟨n, hn⟩ : ∃ n, s.data.toList.count c = n := ⟨_, rfl⟩
  have hnl : n ≤ s.size := by rw [← hn]; exact count_le c s
  have HN := As.mk hn
  obtain ⟨wm, hmk, hR0, hB0⟩ := make_strs (n + 1) (by omega) w
  rw [show ((n + 1 : Nat) : Int) = (n : Int) + 1 by omega] at hmk
  have HR0 := As.mk hR0
  have HB0 := As.mk hB0
  have hct := fun W => Tryz.strings_Count_one s c W
  have hcn : Lib.countByte s.data.toList c = n := hn
  rw [hcn] at hct
  have HCT := As.mk hct
  have hne : ((⟨#[c]⟩ : ByteArray).toList == ([] : List UInt8)) = false := by
    rw [beq_eq_false_iff_ne, ByteArray.toList_eq]; simp
  have hmin : min (n : Int) (s.size : Int) = (n : Int) := by omega
  clear hn hR0 hB0 hct hcn
  go_enter Tryz.func55, Tryz.ntmps55
  go_wp2_with (fail)
  refine (HCT.out _).mono ?_
  rintro e w1 ⟨rfl, rfl⟩
  go_wp2_with (fail)
  clear hmk hne hmin
  obtain ⟨g, hg⟩ : ∃ g, w1.heap.size = g := ⟨_, rfl⟩
  rw [hg] at HR0 HB0 ⊢
  have HG := As.mk hg
  clear hg
  have HS0 : As (([] : List ByteArray) ++ (splitL c s.data.toList).map strOf = splitS c s) := ⟨by rw [List.nil_append]; rfl⟩
  have hss : s.size ≤ s.size := Nat.le_refl _
  go_loopw [0, 10, 11] (fun v0 v10 v11 wr => ∃ (r : ByteArray) (i : Nat) (X : List ByteArray), v0 = .string r ∧ v10 = .int .i64 i ∧ i ≤ n ∧ r.size ≤ s.size ∧ X.length = n + 1 ∧ As (r.data.toList.count c = n - i) ∧ As (X.take i ++ (splitL c r.data.toList).map strOf = splitS c s) ∧
    As (Kd.string.R 9 wr g (fun _ => True) (.slice (some ⟨g, 0, none⟩) (n + 1) (n + 1)) X) ∧ As (Below g w1 wr)) (fun _ v10 _ _ => n - (intOf v10).toNat)
  case atStart => exact ⟨s, 0, List.replicate (n + 1) ⟨#[]⟩, rfl, rfl, by omega, hss, by simp, HN, ⟨HS0.out⟩, HR0, HB0⟩
  case round =>
    clear HR0 HB0 HS0
    obtain ⟨r, i, X, rfl, rfl, hi, hrs, hX, HC, HS, HR, HB⟩ := hrel
    by_cases hlt : i < n
    · obtain ⟨m, hm1, hm2, hm3, hm4⟩ := splitL_at c r.data.toList (by rw [HC.out]; omega)
      have hm5 : m < r.size := by simpa using hm2
      obtain ⟨y, hy⟩ : ∃ y, r.extract 0 m = y := ⟨_, rfl⟩
      obtain ⟨z, hz⟩ : ∃ z, r.extract (m + 1) r.size = z := ⟨_, rfl⟩
      have q1 := fun W => cut_front r y m hy (by omega) (m : Int) rfl W
      have q2 := fun W => cut_back r z (m + 1) hz (by omega) ((m : Int) + 1) (by omega) W
      have hzl : z.data.toList = r.data.toList.drop (m + 1) := by rw [← hz, ext_back]
      have hyl : strOf (r.data.toList.take m) = y := by rw [← hy, ext_front]
      have hzs : z.size ≤ s.size := by rw [← hz, ByteArray.size_extract]; omega
      have HCz : As (z.data.toList.count c = n - (i + 1)) := ⟨by have := HC.out; rw [hm4, ← hzl] at this; omega⟩
      have HSz : As ((X.set i y).take (i + 1) ++ (splitL c z.data.toList).map strOf = splitS c s) := ⟨by
        rw [← HS.out, hm3, List.map_cons, hyl, hzl]
        have hil : i < X.length := by omega
        rw [List.take_add_one, List.getElem?_set_self hil, List.take_set_of_le (Nat.le_refl _)]
        simp⟩
      have hix := fun W => Tryz.strings_Index_one r c W
      rw [hm1] at hix
      have HIX := As.mk hix
      obtain ⟨hcl, hfr⟩ := Kd.R_celln ByteArray.empty HR.out (i : Int) (by omega) (by omega)
      have hst := Kd.R_putn HR.out (i : Int) y
      rw [Int.toNat_natCast] at hcl hfr hst
      have HX4 := As.mk hst
      have HB4 : As (Below g w1 (wr.setCell ⟨g, i, none⟩ (.string y))) := ⟨HB.out.setCell (p := ⟨g, i, none⟩) (Nat.le_refl g) _⟩
      have hXl : (X.set i y).length = n + 1 := by rw [List.length_set]; exact hX
      clear hm1 hm2 hm3 hm4 hy hz hzl hyl hix hst HC HS HR HB
      go_wp2_with (fail)
      refine (HIX.out _).mono ?_
      rintro e w2 ⟨rfl, rfl⟩
      go_wp2_with (fail)
      exact ⟨⟨z, i + 1, X.set i y, rfl, by go_num, by omega, hzs, hXl, HCz, HSz, HX4, HB4⟩, by simp [intOf]; omega⟩
    · have hin : i = n := by omega
      subst hin
      have hnone := splitL_none c r.data.toList (by rw [HC.out]; omega)
      have HF : As ((X.set i r).take (i + 1) = splitS c s) := ⟨by
        rw [← HS.out, hnone, List.take_add_one, List.getElem?_set_self (by omega), List.take_set_of_le (Nat.le_refl _)]
        simp [strOf]⟩
      obtain ⟨hcl, hfr⟩ := Kd.R_celln ByteArray.empty HR.out (i : Int) (by omega) (by omega)
      have hst := Kd.R_putn HR.out (i : Int) r
      rw [Int.toNat_natCast] at hcl hfr hst
      have HX4 := As.mk hst
      have HB4 : As (Below g w1 (wr.setCell ⟨g, i, none⟩ (.string r))) := ⟨HB.out.setCell (p := ⟨g, i, none⟩) (Nat.le_refl g) _⟩
      have hXl : (X.set i r).length = i + 1 := by rw [List.length_set]; exact hX
      clear hnone hst HC HS HR HB
      go_wp2_with (fail)
      go_ret
      have hfe := HF.out
      rw [List.take_of_length_le (by omega)] at hfe
      refine ⟨_, rfl, ?_, ?_⟩
      · rw [← hfe, HG.out]; exact HX4.out
      · rw [HG.out]; exact HB4.out
theorem split_calls (s : ByteArray) (c : UInt8) (w : World) (hs : s.size ≤ 1000000000) :
    Calls Tryz.prog 33 #[.string s, .string ⟨#[c]⟩] w fun e w' => ∃ v, e = .returned v ∧ Kd.string.R 9 w' w.heap.size (fun _ => True) v (splitS c s) ∧ Below w.heap.size w w' := by
  have hgc := fun W => gen_calls s c W hs
  have HGC := As.mk hgc
  clear hgc
  go_enter Tryz.func33, Tryz.ntmps33
  go_wp2_with (fail)
  refine (HGC.out _).mono ?_
  rintro e w1 ⟨v, rfl, hR, hb⟩
  have HR := As.mk hR
  have HB := As.mk hb
  clear hR hb
  go_wp2_with (fail)
  go_ret
  exact ⟨_, rfl, HR.out, HB.out⟩
end Go.Proofs.YtacgchklilfcaaaGreatDoor.Gl
