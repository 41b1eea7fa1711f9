/- Joined texts: ObPut, ObTreeP, ObRefT, ObLabel, ObPutL, ObRefL, ObRead, ObChP, ObChB, ObRefC, ObRefCG, ObGiven1, PObGetx0, PObGetx1, ObRefT2, ObTreeG. No condition but what stands in each. -/
import Derived.Test.YtehmhfbfgniekaaGreatDoorZWalkLessJ10
import Derived.Test.YtehmhfbfgniekaaGreatDoorZWalkLessJ11
import Derived.Test.YtehmhfbfgniekaaGreatDoorZWalkLessJ8
import Derived.Laws.Rows
import Derived.Test.YtehmhfbfgniekaaGreatDoorProg
import Derived.Below
import Derived.Deep.Draws
import Derived.Deep.AppendLies
import Derived.Maps.AppendAt
import Derived.OwnWalk
import Derived.Laws.BytesArg
import Derived.Laws.MakeOwn
import Derived.Laws.OwnMore
import Derived.Deep.OwnRows
import Derived.Tactics
import Derived.Lib.ConvBytes
import Derived.Laws.Slices
import Derived.WalkKit
import Derived.KernelRfl
import Derived.RowKit3
import Derived.Deep.LoopGhost
import Derived.Deep.QuietTactic
import Derived.BigQuiet
import Derived.WideLaws
import Derived.Deep.DeepCutAuto
import Derived.Deep.CutBlock
import Derived.Deep.RegionHeld3
import Derived.Lib.AppendStr
import Derived.ArgAppend
import Derived.Laws.IdiomCopy
import Derived.OrdersHeld
import Derived.Laws.BitsLemmas
import Derived.RowKit
import Derived.Test.YtehmhfbfgniekaaGreatDoorZWalkLessJ0
import Derived.Test.YtehmhfbfgniekaaGreatDoorZWalkLessJ1
import Derived.Test.YtehmhfbfgniekaaGreatDoorZWalkLessJ2
namespace Go.Proofs.YtehmhfbfgniekaaGreatDoor.Ob
set_option linter.unusedVariables false
set_option linter.unusedSimpArgs false
open Go Go.RowKit Go.Proofs.YtehmhfbfgniekaaGreatDoorW.PrintWords Go.Proofs.YtehmhfbfgniekaaGreatDoorW.PrintLast Go.Proofs.YtehmhfbfgniekaaGreatDoorW.PrintMore PObBase PObDoc
structure Reg (w : World) (b : Nat) (x : It) (w' : World) : Prop where
  hb : Below w.heap.size w w'
  hk : w'.heap[b]? = some (.cells #[.int .i64 x.f0, .string x.f1, .string x.f2] 58 (0, 0))
theorem Reg.next {w w1 w2 : World} {b : Nat} {x : It} (h : Reg w b x w1) (hb : Below w1.heap.size w1 w2) : Reg w b x w2 := ⟨h.hb.trans (hb.mono h.hb.size), (hb.block b (blk_lt h.hk)).trans h.hk⟩
theorem Reg.write {w w1 w2 : World} {B b : Nat} {x : It} (h : Reg w b x w1) (hB : w.heap.size ≤ B) (hne : B < b) (hb : Below B w1 w2) (ho : Lib.OthersKept 5 (some B) w1 w2) : Reg w b x w2 :=
  ⟨h.hb.trans (hb.mono hB), ho b _ h.hk (fun e => by injection e with e; omega) (fun c fz e => by injection e with _ e _; exact absurd e (by decide))⟩
theorem cells_app (a : List UInt8) (s : ByteArray) : Lib.byteCells a ++ Lib.strCells s = Lib.byteCells (a ++ L s) := by
  simp [Lib.byteCells, Lib.strCells, L, List.map_append]
theorem items_step {l : List It} {i : Nat} {x : It} (hx : l[i]? = some x) : itemsL (l.take (i + 1)) = itemsL (l.take i) ++ L (itemS x) := by
  unfold itemsL
  rw [List.take_add_one, hx, List.flatMap_append]; simp
theorem okI_parts {l : List It} {i : Nat} {x : It} (h : okI l i x = true) : 1 ≤ x.f0 ∧ x.f0 ≤ 3 ∧ nmB x.f2 = true ∧ partB x.f1 = true ∧ cntI (l.take i) x.f1 = 0 ∧ (i = 0 ∨ L (keyS (l[i - 1]?.getD noIt)) < L (keyS x)) := by
  unfold okI at h
  simp only [Bool.and_eq_true, decide_eq_true_iff, Bool.or_eq_true, beq_iff_eq] at h
  exact ⟨h.1.1.1.1, h.1.1.1.2, h.1.1.2, h.1.2.1, h.1.2.2, h.2⟩
theorem treeB_parts {l : List It} (h : treeB l = true) : (∀ (i : Nat) (x : It), l[i]? = some x → okI l i x = true) ∧ l.length ≤ 256 := by
  unfold treeB at h
  rw [Bool.and_eq_true, List.all_eq_true, decide_eq_true_iff] at h
  exact ⟨fun i x hx => h.1 (x, i) (List.mem_of_getElem? (i := i) (by simp [List.getElem?_zipIdx, hx])), h.2⟩
theorem partB_size {s : ByteArray} (h : partB s = true) : 1 ≤ s.size ∧ s.size ≤ 70 := by
  unfold partB at h
  simp only [Bool.and_eq_true, decide_eq_true_iff] at h
  exact ⟨h.2.1.1.1, h.2.1.1.2⟩
theorem text_digit {n : Int} (h0 : 1 ≤ n) (h1 : n ≤ 3) : L (textS n) = [UInt8.ofNat (48 + n.toNat)] := by
  rcases (show n = 1 ∨ n = 2 ∨ n = 3 by omega) with rfl | rfl | rfl <;> decide +kernel
theorem itemS_size {x : It} (h0 : 1 ≤ x.f0) (h1 : x.f0 ≤ 3) : (itemS x).size = 1 + 1 + x.f1.size + 1 + x.f2.size := by
  have : (textS x.f0).size = 1 := by rw [← L_len, text_digit h0 h1]; rfl
  unfold itemS
  rw [ByteArray.size_append, ByteArray.size_append, ByteArray.size_append, ByteArray.size_append, this]; rfl
theorem items_len {l : List It} (h : ∀ x ∈ l, 1 ≤ x.f0 ∧ x.f0 ≤ 3 ∧ x.f1.size ≤ 70 ∧ x.f2.size = 64) : (itemsL l).length ≤ l.length * 137 := by
  induction l with
  | nil => simp [itemsL]
  | cons x r ih =>
    obtain ⟨a, b, c, d⟩ := h x List.mem_cons_self
    have h2 := ih (fun y hy => h y (List.mem_cons_of_mem _ hy))
    have e : itemsL (x :: r) = L (itemS x) ++ itemsL r := by simp [itemsL]
    rw [e, List.length_append, L_len, itemS_size a b, List.length_cons]
    omega
set_option maxHeartbeats 16000000 in
set_option maxRecDepth 100000 in
theorem putTree_walk (A : Option Addr) (c n : Nat) (l : List It) (w : World) (hC : Kd.C k58 w A n l) (hn : l.length = n) (hc : n ≤ c) (hsh : Ish l) (hnm : n ≤ 1000000000) (htb : Tbl w) :
    Calls Tryz.prog 87 #[.slice A n c] w fun e w' => e = .returned (.tuple #[.string (putTree l).1, .bool (putTree l).2]) ∧ Below w.heap.size w w' := by
  have HC := As.mk hC
  have HN := As.mk hn
  have HTB : As (∀ w', Below w.heap.size w w' → Tbl w') := ⟨fun w' hb => htb.below hb⟩
  have HRT := As.mk (tree_walk A c n l w hC hn hc hsh hnm)
  clear hC hn hsh htb
  go_enter Tryz.func87, Tryz.ntmps87
  go_wp2_with (fail)
  refine HRT.out.mono ?_
  rintro e w0 ⟨v, rfl, hv, hb⟩
  have HB0 := As.mk hb
  clear hb
  rcases hrt : treeB l with _ | _
  · have HP : As (putTree l = (⟨#[]⟩, false)) := ⟨by rw [putTree, hrt]; rfl⟩
    rw [hrt] at hv
    rcases hv with ⟨h, _⟩ | ⟨_, a, rfl⟩
    · cases h
    go_wp2_with (fail)
    refine (fine_wrong a _).mono ?_
    rintro e w1 ⟨rfl, hb⟩
    have HB1 := As.mk (HB0.out.trans (hb.mono HB0.out.size))
    clear hb
    go_wp2_with (fail)
    go_ret2
    rw [HP.out]
    exact ⟨rfl, HB1.out⟩
  have HP : As (putTree l = (treeT l, true)) := ⟨by rw [putTree, hrt]; rfl⟩
  rw [hrt] at hv
  rcases hv with ⟨_, rfl⟩ | ⟨h, _⟩
  rotate_left
  · cases h
  obtain ⟨hok, h256⟩ := treeB_parts hrt
  have HOK := As.mk hok
  have h256' : n ≤ 256 := by rw [← HN.out]; exact h256
  clear hok h256 hrt
  go_wp2_with (fail)
  refine (fine_nil _).mono ?_
  rintro e w1 ⟨rfl, hb⟩
  have HB1 := As.mk (HB0.out.trans (hb.mono HB0.out.size))
  clear hb
  obtain ⟨w2, hw2⟩ : ∃ w2, w1.alloc (.cells #[.pointer none, .slice none 0 0] 152) = w2 := ⟨_, rfl⟩
  have HBU : As (Lib.IsBuilderF 152 5 w1.heap.size w1.heap.size (Lib.byteCells []) w2) := ⟨by
    have := Lib.IsBuilderF.of (Lib.fresh_isBuilder 152 5 w1)
    rw [← hw2]; exact this⟩
  have HB2 : As (Below w.heap.size w w2) := ⟨by rw [← hw2]; exact HB1.out.alloc HB1.out.size _⟩
  have HS1 := As.mk HB1.out.size
  have HS2 : As (w1.heap.size < w2.heap.size) := ⟨by rw [← hw2, World.size_alloc]; omega⟩
  go_wp2_with (fail)
  go_loopw [13] (fun v13 wr => ∃ i : Nat, v13 = .int .i64 i ∧ i ≤ n ∧ As (Lib.IsBuilderF 152 5 w1.heap.size w1.heap.size (Lib.byteCells (itemsL (l.take i))) wr) ∧ As (Below w.heap.size w wr) ∧ As (w1.heap.size < wr.heap.size)) (fun v13 _ => n - (intOf v13).toNat)
  case atStart => exact ⟨0, rfl, by omega, HBU, HB2, HS2⟩
  case round =>
    obtain ⟨i, rfl, hi, HU, HB, HS⟩ := hrel
    by_cases hlt : i < n
    · have hil : i < l.length := by rw [HN.out]; exact hlt
      obtain ⟨ad, rfl, h0, h1, h2⟩ := at_T58 (Kd.C_below HC.out HB.out) (i : Int) (by omega) (by omega)
      rw [Int.toNat_natCast] at h0 h1 h2
      obtain ⟨x, hx⟩ : ∃ x, rd_T58 l (i : Int) = x := ⟨_, rfl⟩
      have HX := As.mk (rdI_at hil hx)
      rw [hx] at h0 h1 h2
      obtain ⟨g1, g3, gn, gp, _, _⟩ := okI_parts (HOK.out i x HX.out)
      have gs := (partB_size gp).2
      have gz := nm_size gn
      have HN0 : As (-9223372036854775808 ≤ x.f0 ∧ x.f0 ≤ 9223372036854775807) := ⟨by omega⟩
      obtain ⟨t, htx⟩ : ∃ t, textS x.f0 = t := ⟨_, rfl⟩
      have hts : t.size = 1 := by rw [← htx, ← L_len, text_digit g1 g3]; rfl
      have HIT : As (t ++ (⟨#[32]⟩ : ByteArray) ++ x.f1 ++ (⟨#[0]⟩ : ByteArray) ++ x.f2 = itemS x) := ⟨by rw [← htx]; rfl⟩
      have HLS := As.mk (items_step HX.out)
      have HLL : As ((Lib.byteCells (itemsL (l.take i))).length + (t ++ (⟨#[32]⟩ : ByteArray) ++ x.f1 ++ (⟨#[0]⟩ : ByteArray) ++ x.f2).size ≤ 140737488355328) := ⟨by
        rw [HIT.out, Lib.byteCells_length, itemS_size g1 g3]
        have := items_len (l := l.take i) (fun y hy => by
          obtain ⟨j, hj⟩ := List.getElem?_of_mem (List.mem_of_mem_take hy)
          obtain ⟨a, b, c, d, _, _⟩ := okI_parts (HOK.out j y hj)
          exact ⟨a, b, (partB_size d).2, nm_size c⟩)
        rw [List.length_take] at this
        omega⟩
      obtain ⟨wb, hwb⟩ : ∃ wb, wr.alloc (.cells #[.int .i64 x.f0, .string x.f1, .string x.f2] 58) = wb := ⟨_, rfl⟩
      have hb0 : Below wr.heap.size wr wb := by rw [← hwb]; exact (Below.refl _ _).alloc (Nat.le_refl _) _
      have hnew : wb.heap[wr.heap.size]? = some (.cells #[.int .i64 x.f0, .string x.f1, .string x.f2] 58 (0, 0)) := by rw [← hwb]; exact blk_new wr _
      have HUb : As (Lib.IsBuilderF 152 5 w1.heap.size w1.heap.size (Lib.byteCells (itemsL (l.take i))) wb) := ⟨by rw [← hwb]; exact HU.out.alloc _⟩
      have HREG : As (Reg w wr.heap.size x wb.drew) := ⟨⟨below_drew (HB.out.trans (hb0.mono HB.out.size)), hnew⟩⟩
      have HSb : As (w1.heap.size < wb.heap.size) := ⟨Nat.lt_of_lt_of_le HS.out hb0.size⟩
      have HSR := As.mk HS.out
      have z2 : ¬ 9223372036854775807 < 2 + x.f1.size := by omega
      have z3 : ¬ 9223372036854775807 < 2 + x.f1.size + 1 := by omega
      have z4 : ¬ 9223372036854775807 < 2 + x.f1.size + 1 + x.f2.size := by omega
      clear gz
      clear hx hil hb0 hnew gn gp
      go_wp2_with (fail)
      refine start_ (n := 12) (S := Reg w wr.heap.size x) (ds := []) (bl_ 12 0) (by kernel_rfl) rfl rfl (HREG.out) (fun hHeld => ?_)
      refine pv_ 0 17 (bl_ 12 1) ?_
      refine pv_ 4 21 (bl_ 12 17) ?_
      refine pv_ 8 25 (bl_ 12 273) ?_
      refine tk_ 1 18 (bl_ 12 275) hHeld (hv := by intro w' s0; have hc := blk_cell s0.hk 0; go_simp; with_reducible rfl) (h := ?_)
      refine tk_ 5 22 (bl_ 12 307) hHeld (hv := by intro w' s0; have hc := blk_cell s0.hk 1; go_simp; with_reducible rfl) (h := ?_)
      refine tk_ 9 26 (bl_ 12 819) hHeld (hv := by intro w' s0; have hc := blk_cell s0.hk 2; go_simp; with_reducible rfl) (h := ?_)
      refine one_ (i := 2) (N := some 19) (bl_ 12 823) rfl rfl (by kernel_rfl) (by decide) (fun K hK => ?_)
      refine goes_ Tryz.func59 (by kernel_rfl) rfl #[.int .i64 x.f0] (by rfl) rfl rfl (by simp only [List.map_toArray, List.map_cons, List.map_nil]; rfl) ?_
      with_reducible refine (text_walk x.f0 _ HN0.out.1 HN0.out.2 (HTB.out _ hHeld.hb)).mono ?_
      rintro e w10 ⟨rfl, hb10⟩
      refine ⟨_, rfl, ?_⟩
      have HU10 : As (Lib.IsBuilderF 152 5 w1.heap.size w1.heap.size (Lib.byteCells (itemsL (l.take i))) w10) := ⟨Db.keepB0 HUb.out (fun k c T z _ _ hk => (hb10.block k (blk_lt hk)).trans hk)⟩
      have HS10 : As (w1.heap.size ≤ w10.heap.size) := ⟨Nat.le_trans (Nat.le_of_lt HSb.out) hb10.size⟩
      have HS10L : As (w1.heap.size < w10.heap.size) := ⟨Nat.lt_of_lt_of_le HSb.out hb10.size⟩
      rw [htx]
      refine hK.out _ _ (hHeld.next hb10) (fun hHeld => ?_)
      clear hK K
      refine norm_ (a' := ?_) ?_ ?_
      rotate_left
      · show Act.put _ (some 19) _ = _
        simp only [Act.put, List.setIfInBounds_toArray, List.set_cons_zero, List.set_cons_succ, i64_w, i32_w]
        rfl
      refine pv_ 3 20 (bl_ 12 831) ?_
      refine pv_ 6 23 (bl_ 12 895) ?_
      refine pv_ 7 24 (bl_ 12 1023) ?_
      refine pv_ 10 27 (bl_ 12 2047) ?_
      refine one_ (i := 11) (N := some 28) (bl_ 12 4095) rfl rfl (by kernel_rfl) (by decide) (fun K hK => ?_)
      refine goes_ Tryz.func110 (by kernel_rfl) rfl #[.pointer (some ⟨w1.heap.size, 0, none⟩), .string (t ++ (⟨#[32]⟩ : ByteArray) ++ x.f1 ++ (⟨#[0]⟩ : ByteArray) ++ x.f2)] (by rfl) rfl rfl (by simp only [List.map_toArray, List.map_cons, List.map_nil]; rfl) ?_
      with_reducible refine (Db.writeString_k w1.heap.size w1.heap.size (Lib.byteCells (itemsL (l.take i))) (t ++ (⟨#[32]⟩ : ByteArray) ++ x.f1 ++ (⟨#[0]⟩ : ByteArray) ++ x.f2) _ HU10.out HLL.out HS10.out).mono ?_
      rintro e w11 ⟨rfl, hu11, hb11, ho11⟩
      refine ⟨_, rfl, ?_⟩
      refine hK.out _ _ (hHeld.write HS1.out HSR.out hb11 ho11) (fun hHeld => ?_)
      clear hK K
      refine norm_ (a' := ?_) ?_ ?_
      rotate_left
      · show Act.put _ (some 28) _ = _
        simp only [Act.put, List.setIfInBounds_toArray, List.set_cons_zero, List.set_cons_succ, i64_w, i32_w]
        rfl
      refine done_ (by kernel_rfl) ?_
      rw [cells_app, HIT.out, ← HLS.out] at hu11
      have HU5 : As (Lib.IsBuilderF 152 5 w1.heap.size w1.heap.size (Lib.byteCells (itemsL (l.take (i + 1)))) w11) := ⟨.inr hu11⟩
      have HB5 := As.mk hHeld.hb
      have HS5 := As.mk (Nat.lt_of_lt_of_le HS10L.out hb11.size)
      clear hu11 hb11 ho11 hHeld
      go_wp2_with (fail)
      exact ⟨⟨i + 1, by go_num, by omega, HU5, HB5, HS5⟩, by simp [intOf]; omega⟩
    · have hin : i = n := by omega
      subst hin
      have hU := HU.out
      rw [List.take_of_length_le (by rw [HN.out]; exact Nat.le_refl _)] at hU
      have HU2 := As.mk hU
      clear hU HU
      go_wp2_with (fail)
      have hfin : Calls Tryz.prog 111 #[.pointer (some ⟨w1.heap.size, 0, none⟩)] wr fun e w' => e = .returned (.string (treeT l)) ∧ Below w1.heap.size wr w' := by
        by_cases he : itemsL l = []
        · have := HU2.out
          rw [he] at this
          refine (Tryz.Builder_String_empty_f w1.heap.size w1.heap.size wr this (Nat.le_of_lt HS.out)).mono ?_
          rintro e w' ⟨rfl, _, hb⟩
          exact ⟨by rw [treeT, he], hb⟩
        · refine (Tryz.Builder_String_f w1.heap.size w1.heap.size (itemsL l) wr HU2.out he).mono ?_
          rintro e w' ⟨rfl, _, hb⟩
          exact ⟨rfl, hb⟩
      refine hfin.mono ?_
      rintro e w5 ⟨rfl, hb5⟩
      have HB5 := As.mk (HB.out.trans (hb5.mono HS1.out))
      clear hb5
      go_wp2_with (fail)
      go_ret2
      rw [HP.out]
      exact ⟨rfl, HB5.out⟩
end Go.Proofs.YtehmhfbfgniekaaGreatDoor.Ob

namespace Go.Proofs.YtehmhfbfgniekaaGreatDoor.Ob
set_option linter.unusedVariables false
set_option linter.unusedSimpArgs false
open Go Go.RowKit Go.Proofs.YtehmhfbfgniekaaGreatDoorW.PrintWords Go.Proofs.YtehmhfbfgniekaaGreatDoorW.PrintLast Go.Proofs.YtehmhfbfgniekaaGreatDoorW.PrintMore PObBase PObDoc
def IOk (x : It) : Prop := 1 ≤ x.f0 ∧ x.f0 ≤ 3 ∧ partB x.f1 = true ∧ nmB x.f2 = true
theorem tree_items {l : List It} (h : treeB l = true) : ∀ x ∈ l, IOk x := by
  intro x hx
  obtain ⟨i, hi⟩ := List.getElem?_of_mem hx
  obtain ⟨a, b, c, d, _, _⟩ := okI_parts ((treeB_parts h).1 i x hi)
  exact ⟨a, b, d, c⟩
theorem part_bytes {s : ByteArray} (h : partB s = true) : ∀ u ∈ L s, 33 ≤ u.toNat ∧ u.toNat ≤ 126 := by
  unfold partB at h
  rw [Bool.and_eq_true, List.all_eq_true] at h
  intro u hu
  have := (visOk_iff u).1 (h.1 u hu)
  exact ⟨this.1, this.2.1⟩
theorem it_ext {x y : It} (h0 : x.f0 = y.f0) (h1 : x.f1 = y.f1) (h2 : x.f2 = y.f2) : x = y := by cases x; cases y; cases h0; cases h1; cases h2; rfl
theorem L_item {x : It} (h : IOk x) : L (itemS x) = (UInt8.ofNat (48 + x.f0.toNat) :: 32 :: L x.f1) ++ 0 :: L x.f2 := by
  have := text_digit h.1 h.2.1
  unfold itemS
  rw [show L (textS x.f0 ++ (⟨#[32]⟩ : ByteArray) ++ x.f1 ++ (⟨#[0]⟩ : ByteArray) ++ x.f2) = L (textS x.f0) ++ [32] ++ L x.f1 ++ [0] ++ L x.f2 by simp [L, ByteArray.data_append], this]
  simp
theorem parseT_items : ∀ (l : List It) (n : Nat), (∀ x ∈ l, IOk x) → (itemsL l).length ≤ n → parseT n (itemsL l) = some l
  | [], n, _, _ => by cases n <;> exact if_pos rfl
  | x :: r, n, h, hn => by
    have hx := h x List.mem_cons_self
    have h64 := nm_size hx.2.2.2
    have e : itemsL (x :: r) = (UInt8.ofNat (48 + x.f0.toNat) :: 32 :: L x.f1) ++ 0 :: (L x.f2 ++ itemsL r) := by
      have : itemsL (x :: r) = L (itemS x) ++ itemsL r := by simp [itemsL]
      rw [this, L_item hx]; simp
    have hle : (itemsL (x :: r)).length = 2 + x.f1.size + 1 + (64 + (itemsL r).length) := by
      rw [e, List.length_append, List.length_cons, List.length_cons, List.length_cons, List.length_append, L_len, L_len, h64]; omega
    obtain ⟨m, rfl⟩ : ∃ m, n = m + 1 := ⟨n - 1, by omega⟩
    have hd : (UInt8.ofNat (48 + x.f0.toNat)).toNat = 48 + x.f0.toNat := by
      rw [UInt8.toNat_ofNat']
      have := hx.2.1
      omega
    have hc : cutB 0 (itemsL (x :: r)) = (UInt8.ofNat (48 + x.f0.toNat) :: 32 :: L x.f1, L x.f2 ++ itemsL r, true) := by
      rw [e]
      refine cutB_app 0 _ _ (fun b hb => ?_)
      rcases List.mem_cons.1 hb with rfl | hb
      · intro e0
        have := congrArg UInt8.toNat e0
        rw [hd] at this
        have h0 : (0 : UInt8).toNat = 0 := rfl
        omega
      · rcases List.mem_cons.1 hb with rfl | hb
        · decide
        · intro e0
          have := (part_bytes hx.2.2.1 b hb).1
          rw [e0] at this
          have h0 : (0 : UInt8).toNat = 0 := rfl
          omega
    have hl64 : (L x.f2).length = 64 := by rw [L_len, h64]
    have e1 : (L x.f2 ++ itemsL r).take 64 = L x.f2 := by rw [← hl64, List.take_left]
    have e2 : (L x.f2 ++ itemsL r).drop 64 = itemsL r := by rw [← hl64, List.drop_left]
    have ih := parseT_items r m (fun y hy => h y (List.mem_cons_of_mem _ hy)) (by omega)
    have hne : itemsL (x :: r) ≠ [] := fun h0 => by rw [h0] at hle; simp at hle; omega
    have hxe : (⟨((UInt8.ofNat (48 + x.f0.toNat)).toNat : Int) - 48, bs (L x.f1), bs (L x.f2)⟩ : It) = x := by
      refine it_ext ?_ (bs_L _) (bs_L _)
      show ((UInt8.ofNat (48 + x.f0.toNat)).toNat : Int) - 48 = x.f0
      have := hx.1
      rw [hd]; omega
    rw [parseT, if_neg hne, hc]
    simp only [e1, e2, ih, Option.map_some]
    rw [if_pos ⟨trivial, by simp, by simp, by rw [List.length_append, hl64]; omega⟩]
    simp only [List.getElem?_cons_zero, Option.getD_some, List.drop_succ_cons, List.drop_zero, hxe]
theorem L_tree (l : List It) : L (treeT l) = itemsL l := by simp [L, treeT]
theorem putTree_right {l : List It} (h : treeB l = true) : putTree l = (treeT l, true) := by rw [putTree, h]; rfl
theorem putTree_iff {l : List It} {s : ByteArray} : putTree l = (s, true) ↔ (treeB l = true ∧ s = treeT l) := by
  unfold putTree
  cases treeB l with
  | true => exact ⟨fun h => ⟨rfl, (congrArg Prod.fst h).symm⟩, fun h => by rw [h.2]; rfl⟩
  | false =>
    constructor
    · intro h
      cases congrArg Prod.snd h
    · intro h
      cases h.1
theorem getTree_iff (s : ByteArray) (l : List It) : getTree s = (l, true) ↔ putTree l = (s, true) := by
  constructor
  · intro h
    unfold getTree at h
    cases hp : parseT s.size (L s) with
    | none => rw [hp] at h; cases congrArg Prod.snd h
    | some m =>
      rw [hp] at h
      by_cases hq : putTree m = (s, true)
      · simp only [if_pos hq] at h
        have : m = l := congrArg Prod.fst h
        rw [← this]; exact hq
      · simp only [if_neg hq] at h
        cases congrArg Prod.snd h
  · intro h
    obtain ⟨h1, h2⟩ := putTree_iff.1 h
    have hL : L s = itemsL l := by rw [h2, L_tree]
    unfold getTree
    rw [hL, parseT_items l s.size (tree_items h1) (by rw [← hL, L_len]; exact Nat.le_refl _)]
    exact if_pos h
end Go.Proofs.YtehmhfbfgniekaaGreatDoor.Ob

namespace Go.Proofs.YtehmhfbfgniekaaGreatDoor.Ob
set_option linter.unusedVariables false
set_option linter.unusedSimpArgs false
open Go Go.RowKit Go.Proofs.YtehmhfbfgniekaaGreatDoorW.PrintWords Go.Proofs.YtehmhfbfgniekaaGreatDoorW.PrintLast Go.Proofs.YtehmhfbfgniekaaGreatDoorW.PrintMore PObBase PObDoc
theorem rpart_l0 (s : ByteArray) (hs : s.size ≤ 1000000000000) : ∀ (d i : Nat), s.size - i = d → i ≤ s.size → Ev (fun k => r04_Part.l0 k s (i : Int)) (((L s).drop i).all visOk && (decide (1 ≤ s.size) && decide (s.size ≤ 70) && decide (s ≠ dot) && decide (s ≠ dots))) := by
  intro d
  induction d with
  | zero =>
    intro i hd hi
    have hin : i = s.size := by omega
    subst hin
    rw [List.drop_of_length_le (by rw [L_len]; exact Nat.le_refl _), List.all_nil, Bool.true_and]
    refine Ev.step (f := fun _ => some _) (fun k => ?_) (Ev.now _)
    simp only [r04_Part.l0]
    rw [if_neg (by omega)]
    by_cases h0 : s.size = 0
    · rw [if_neg (by omega), decide_eq_false (show ¬ 1 ≤ s.size by omega)]; rfl
    · rw [if_pos (by omega), decide_eq_true (show 1 ≤ s.size by omega)]
      by_cases h70 : s.size ≤ 70
      · rw [if_pos (by omega), decide_eq_true h70]
        by_cases h1 : s = dot
        · rw [if_pos (by rw [h1]; decide +kernel), decide_eq_false (fun h => h h1)]; rfl
        · have h1' : ¬ s.toList = ([46] : List UInt8) := fun e => h1 ((toL_inj s dot).1 (e.trans (by decide +kernel)))
          rw [if_neg h1', decide_eq_true h1]
          congr 1
          rw [Bool.true_and, Bool.true_and, Bool.true_and, Bool.eq_iff_iff, bne_iff_ne, decide_eq_true_iff]
          refine not_congr ⟨fun e => (toL_inj s dots).1 (e.trans (by decide +kernel)), fun e => by rw [e]; decide +kernel⟩
      · rw [if_neg (by omega), decide_eq_false h70]; rfl
  | succ d ih =>
    intro i hd hi
    have hil : i < (L s).length := by rw [L_len]; omega
    obtain ⟨u, hu⟩ : ∃ u, (L s)[i]? = some u := ⟨_, List.getElem?_eq_getElem hil⟩
    have hb := bt_get hu (i : Int) rfl
    have hw := wr1 (i := i) (n := s.size) (by omega) hs
    rw [drop_at hu, List.all_cons]
    have hlk := visOk_iff u
    by_cases h : visOk u = true
    · have h' := hlk.1 h
      rw [h, Bool.true_and]
      refine Ev.step (fun k => ?_) (ih (i + 1) (by omega) (by omega))
      simp only [r04_Part.l0]
      rw [if_pos (by omega), if_pos (by omega), hb, hw, if_neg (by omega), if_neg (by omega), if_neg (by omega)]
    · have h' := mt hlk.2 h
      rw [Bool.not_eq_true] at h
      rw [h, Bool.false_and, Bool.false_and]
      refine Ev.step (f := fun _ => some false) (fun k => ?_) (Ev.now _)
      simp only [r04_Part.l0]
      rw [if_pos (by omega), if_pos (by omega), hb]
      by_cases h4 : (u.toNat : Int) < 33
      · rw [if_pos h4]
      · rw [if_neg h4]
        by_cases h5 : (u.toNat : Int) > 126
        · rw [if_pos h5]
        · rw [if_neg h5, if_pos (by omega)]
theorem rpart_ev (s : ByteArray) (hs : s.size ≤ 1000000000000) : Ev (fun k => r04_Part.f k s) (partB s) := by
  have := rpart_l0 s hs s.size 0 (by omega) (by omega)
  rw [List.drop_zero] at this
  exact this
theorem rkey_eq (x : It) (hs : x.f1.size ≤ 1000000000000) : r04_key.f x.f0 x.f1 x.f2 = some (keyS x) := by
  unfold r04_key.f keyS
  by_cases h : x.f0 = 3
  · rw [if_pos h, if_pos h, if_pos (by omega)]
  · rw [if_neg h, if_neg h]
theorem rtree_l1 (l : List It) (hl : l.length ≤ 1000000000) (i : Nat) (x : It) (hx : l[i]? = some x) (r : Bool) (hno : cntI (l.take i) x.f1 ≠ 0 → r = false) (hyes : cntI (l.take i) x.f1 = 0 → Ev (fun k => r04_RightTree.l0 k l ((i + 1 : Nat) : Int)) r) : ∀ (d j : Nat), i - j = d → j ≤ i → cntI (l.take j) x.f1 = 0 → Ev (fun k => r04_RightTree.l1 k l (i : Int) (j : Int) x.f0 x.f1 x.f2) r := by
  have hil := (List.getElem?_eq_some_iff.1 hx).1
  have hw := wr1 (i := i) (n := l.length) hil (by omega)
  intro d
  induction d with
  | zero =>
    intro j hj hji ho
    obtain rfl : j = i := by omega
    refine Ev.step (fun k => ?_) (hyes ho)
    simp only [r04_RightTree.l1]
    rw [if_neg (by omega), hw]
  | succ d ih =>
    intro j hj hji ho
    have hjl : j < l.length := by omega
    obtain ⟨y, hy⟩ : ∃ y, l[j]? = some y := ⟨_, List.getElem?_eq_getElem hjl⟩
    have hwj := wr1 hjl (by omega)
    have hc := cntI_snoc hy x.f1
    by_cases he : y.f1 = x.f1
    · rw [if_pos he, ho] at hc
      have : cntI (l.take i) x.f1 ≠ 0 := by
        have hle : cntI (l.take (j + 1)) x.f1 ≤ cntI (l.take i) x.f1 := List.Sublist.length_le (List.Sublist.filter _ (List.take_sublist_take_left (by omega)))
        omega
      rw [hno this]
      refine Ev.step (f := fun _ => some false) (fun k => ?_) (Ev.now _)
      simp only [r04_RightTree.l1]
      rw [if_pos (by omega), if_pos (by omega), if_pos (by omega), rdI hy, if_pos (by rw [he])]
    · rw [if_neg he, ho] at hc
      refine Ev.step (fun k => ?_) (ih (j + 1) (by omega) (by omega) hc)
      simp only [r04_RightTree.l1]
      rw [if_pos (by omega), if_pos (by omega), if_pos (by omega), rdI hy, if_neg (fun e => he ((toL_inj _ _).1 e)), hwj]
theorem rtree_l0 (l : List It) (hl : l.length ≤ 1000000000) (hsh : Ish l) : ∀ (d i : Nat), l.length - i = d → (∀ j x, j < i → l[j]? = some x → okI l j x = true) → Ev (fun k => r04_RightTree.l0 k l (i : Int)) (treeB l) := by
  intro d
  induction d with
  | zero =>
    intro i hi hok
    rw [treeB_true (fun j x hx => hok j x (by have := (List.getElem?_eq_some_iff.1 hx).1; omega) hx)]
    refine Ev.step (f := fun _ => some _) (fun k => ?_) (Ev.now _)
    simp only [r04_RightTree.l0]
    rw [if_neg (by omega)]
    congr 1
    exact decide_eq_decide.2 (by omega)
  | succ d ih =>
    intro i hi hok
    have hil : i < l.length := by omega
    obtain ⟨x, hx⟩ : ∃ x, l[i]? = some x := ⟨_, List.getElem?_eq_getElem hil⟩
    have hz := hsh x (List.mem_of_getElem? hx)
    have hbad : okI l i x = false → treeB l = false := treeB_false hx
    have hgo : okI l i x = true → Ev (fun k => r04_RightTree.l0 k l ((i + 1 : Nat) : Int)) (treeB l) := fun h => ih (i + 1) (by omega) (fun j y hj hy => by
      rcases Nat.lt_succ_iff_lt_or_eq.1 hj with hj | rfl
      · exact hok j y hj hy
      · rw [hx] at hy; cases hy; exact h)
    have hjt : okI l i x = false → Ev (fun k => r04_RightTree.j1 k l (i : Int) true x.f0 x.f1 x.f2) (treeB l) := fun h => by
      rw [hbad h]
      exact Ev.step (f := fun _ => some false) (fun k => by simp [r04_RightTree.j1]) (Ev.now _)
    have hrd := rdI hx
    by_cases h1 : x.f0 < 1
    · refine Ev.step (fun k => ?_) (hjt (by unfold okI; rw [decide_eq_false (show ¬ 1 ≤ x.f0 by omega)]; rfl))
      simp only [r04_RightTree.l0]
      rw [if_pos (by omega), if_pos (by omega), hrd, if_pos h1]
    by_cases h3 : x.f0 > 3
    · refine Ev.step (fun k => ?_) (hjt (by unfold okI; rw [decide_eq_false (show ¬ x.f0 ≤ 3 by omega)]; simp))
      simp only [r04_RightTree.l0]
      rw [if_pos (by omega), if_pos (by omega), hrd, if_neg h1, if_pos h3]
    refine Ev.step (f := fun k => (r04_Part.f k x.f1).bind fun t104 => if t104 = true then (r02_Named.f k x.f2).bind fun t105 => (if t105 = true then (if (i : Int) > 0 then r04_RightTree.j1 k l (i : Int) (!(Op.bytesLess (keyS (l[i - 1]?.getD noIt)).toList (keyS x).toList)) x.f0 x.f1 x.f2 else r04_RightTree.j1 k l (i : Int) false x.f0 x.f1 x.f2) else r04_RightTree.j1 k l (i : Int) true x.f0 x.f1 x.f2) else r04_RightTree.j1 k l (i : Int) true x.f0 x.f1 x.f2) (fun k => ?_) (Ev.bind (rpart_ev x.f1 (by omega)) ?_)
    · simp only [r04_RightTree.l0]
      rw [if_pos (by omega), if_pos (by omega), hrd, if_neg h1, if_neg h3]
      by_cases h0 : (i : Int) > 0
      · have e1 : wrap64 ((i : Int) - 1) = ((i - 1 : Nat) : Int) := by rw [w64 _ (by omega) (by omega)]; omega
        obtain ⟨y, hy⟩ : ∃ y, l[i - 1]? = some y := ⟨_, List.getElem?_eq_getElem (by omega)⟩
        have c1 : (0 : Int) ≤ ((i - 1 : Nat) : Int) := by omega
        have c2 : ((i - 1 : Nat) : Int) < (l.length : Int) := by omega
        have hky := rkey_eq y (by have := (hsh y (List.mem_of_getElem? hy)).1; omega)
        have hkx := rkey_eq x (by omega)
        simp only [if_pos h0, e1, if_pos c1, if_pos c2, rdI hy, hy, Option.getD_some, hky, hkx, Option.bind_some]
      · simp only [if_neg h0]
    have g1 : decide (1 ≤ x.f0) = true := decide_eq_true (by omega)
    have g3 : decide (x.f0 ≤ 3) = true := decide_eq_true (by omega)
    rcases hp : partB x.f1 with _ | _
    · exact Ev.congr (fun k => if_neg (by simp)) (hjt (by unfold okI; rw [hp]; simp))
    refine Ev.congr (fun k => if_pos rfl) (Ev.bind (rdig_ev x.f2) ?_)
    rcases hm : nmB x.f2 with _ | _
    · exact Ev.congr (fun k => if_neg (by simp)) (hjt (by unfold okI; rw [hm]; simp))
    refine Ev.congr (fun k => if_pos rfl) ?_
    have hlt : Op.bytesLess (keyS (l[i - 1]?.getD noIt)).toList (keyS x).toList = decide (L (keyS (l[i - 1]?.getD noIt)) < L (keyS x)) := by
      rw [toL, toL, bytesLess_eq]
    have hend : (i == 0 || decide (L (keyS (l[i - 1]?.getD noIt)) < L (keyS x))) = true → Ev (fun k => r04_RightTree.j1 k l (i : Int) false x.f0 x.f1 x.f2) (treeB l) := fun h => by
      refine Ev.step (f := fun k => r04_RightTree.l1 k l (i : Int) ((0 : Nat) : Int) x.f0 x.f1 x.f2) (fun k => ?_) (rtree_l1 l hl i x hx _ (fun hc => hbad ?_) (fun hc => hgo ?_) _ 0 rfl (Nat.zero_le _) rfl)
      · simp only [r04_RightTree.j1]
        rw [if_neg (by simp)]; rfl
      · unfold okI; rw [decide_eq_false hc]; simp
      · unfold okI; rw [g1, g3, hm, hp, hc, h]; rfl
    by_cases h0 : (i : Int) > 0
    · refine Ev.congr (fun k => if_pos h0) ?_
      rw [hlt]
      rcases hd : decide (L (keyS (l[i - 1]?.getD noIt)) < L (keyS x)) with _ | _
      · exact hjt (by unfold okI; rw [hd, show (i == 0) = false from by rw [beq_eq_false_iff_ne]; omega]; simp)
      · exact hend (by rw [hd, Bool.or_true])
    · refine Ev.congr (fun k => if_neg h0) (hend ?_)
      rw [show (i == 0) = true from by rw [beq_iff_eq]; omega, Bool.true_or]
theorem rtree_ev (l : List It) (hl : l.length ≤ 1000000000) (hsh : Ish l) : Ev (fun k => r04_RightTree.f k l) (treeB l) := rtree_l0 l hl hsh _ 0 rfl (fun j x hj => by omega)
end Go.Proofs.YtehmhfbfgniekaaGreatDoor.Ob

namespace Go.Proofs.YtehmhfbfgniekaaGreatDoor.Ob
set_option linter.unusedVariables false
set_option linter.unusedSimpArgs false
open Go Go.RowKit Go.Proofs.YtehmhfbfgniekaaGreatDoorW.PrintWords Go.Proofs.YtehmhfbfgniekaaGreatDoorW.PrintLast Go.Proofs.YtehmhfbfgniekaaGreatDoorW.PrintMore PObBase PObDoc
def wordsV : Value := .agg #[.string ⟨#[]⟩, .string ⟨#[98, 108, 111, 98]⟩, .string ⟨#[116, 114, 101, 101]⟩, .string ⟨#[99, 111, 109, 109, 105, 116]⟩, .string ⟨#[116, 97, 103]⟩]
set_option maxRecDepth 100000 in
theorem words_walk (w : World) : Calls Tryz.prog 58 #[] w fun e w' => e = .returned wordsV ∧ Below w.heap.size w w' := by
  go_enter Tryz.func58, Tryz.ntmps58
  go_wp2_with (fail)
  refine bodyPost_ret (v := wordsV) (results_cell_row rfl _ _ w.heap.size 99 _ (0, 0) _ rfl (blk_new w _) Tryz.underlying99 rfl (by kernel_rfl)) rfl ⟨rfl, (Below.refl _ _).alloc (Nat.le_refl _) _⟩
set_option maxHeartbeats 8000000 in
set_option maxRecDepth 100000 in
theorem label_walk (x : Lab) (h0 : x.f0.size ≤ 1000000000) (h2 : x.f2.size ≤ 1000000000) (w : World) : Calls Tryz.prog 117 #[.agg #[.string x.f0, .int .i64 x.f1, .string x.f2, .string x.f3]] w fun e w' => ∃ v, e = .returned v ∧ ErrIs (labelB x) v ∧ Below w.heap.size w w' := by
  obtain ⟨w0, hw0⟩ : ∃ w0, w.alloc (.cells #[.string x.f0, .int .i64 x.f1, .string x.f2, .string x.f3] 75) = w0 := ⟨_, rfl⟩
  have hb0 : Below w.heap.size w w0 := by rw [← hw0]; exact (Below.refl _ _).alloc (Nat.le_refl _) _
  have hnew : w0.heap[w.heap.size]? = some (.cells #[.string x.f0, .int .i64 x.f1, .string x.f2, .string x.f3] 75 (0, 0)) := by rw [← hw0]; exact blk_new w _
  have hd0 : w0.cell? ⟨w.heap.size, 0, none⟩ = some (.string x.f0) := (blk_cell hnew 0).trans rfl
  have hd1 : w0.cell? ⟨w.heap.size, 1, none⟩ = some (.int .i64 x.f1) := (blk_cell hnew 1).trans rfl
  have hd2 : w0.cell? ⟨w.heap.size, 2, none⟩ = some (.string x.f2) := (blk_cell hnew 2).trans rfl
  have HD : As (∀ W2 : World, Below w0.heap.size w0 W2 → W2.cell? ⟨w.heap.size, 0, none⟩ = some (.string x.f0) ∧ W2.cell? ⟨w.heap.size, 1, none⟩ = some (.int .i64 x.f1) ∧ W2.cell? ⟨w.heap.size, 2, none⟩ = some (.string x.f2)) := ⟨fun W2 h => ⟨pw_cell_below h hd0, pw_cell_below h hd1, pw_cell_below h hd2⟩⟩
  have HB0 := As.mk hb0
  have HCN := As.mk (dnamed_walk x.f0 (by omega))
  have HCP := As.mk (part_walk x.f2 (by omega))
  clear hb0 hnew
  go_enter Tryz.func117, Tryz.ntmps117
  go_wp2_with (fail)
  refine (HCN.out _).mono ?_
  rintro e w2 ⟨rfl, hb2⟩
  obtain ⟨he0, he1, he2⟩ := HD.out _ hb2
  have HB2 := As.mk hb2
  clear hb2 hd0 hd1 hd2
  have HBW2 : As (Below w.heap.size w w2) := ⟨HB0.out.trans (HB2.out.mono HB0.out.size)⟩
  have key : As (labelB x = (nmB x.f0 && (decide (1 ≤ x.f1) && (decide (x.f1 ≤ 4) && partB x.f2)))) := ⟨by unfold labelB; rw [Bool.and_assoc, Bool.and_assoc]⟩
  rcases hnb : nmB x.f0 with _ | _
  · have HF : As (labelB x = false) := ⟨by rw [key.out, hnb]; rfl⟩
    go_wp2_with (fail)
    go_ret
    exact ⟨_, rfl, .inr ⟨HF.out, _, rfl⟩, HBW2.out.alloc HBW2.out.size _⟩
  by_cases h1 : x.f1 < 1
  · have d1 : decide (x.f1 < 1) = true := decide_eq_true h1
    have HF : As (labelB x = false) := ⟨by rw [key.out, decide_eq_false (show ¬ 1 ≤ x.f1 by omega)]; simp⟩
    go_wp2_with (fail)
    go_ret
    exact ⟨_, rfl, .inr ⟨HF.out, _, rfl⟩, HBW2.out.alloc HBW2.out.size _⟩
  have d1 : decide (x.f1 < 1) = false := decide_eq_false h1
  by_cases h4 : 4 < x.f1
  · have d4 : decide (4 < x.f1) = true := decide_eq_true h4
    have HF : As (labelB x = false) := ⟨by rw [key.out, decide_eq_false (show ¬ x.f1 ≤ 4 by omega)]; simp⟩
    go_wp2_with (fail)
    go_ret
    exact ⟨_, rfl, .inr ⟨HF.out, _, rfl⟩, HBW2.out.alloc HBW2.out.size _⟩
  have d4 : decide (4 < x.f1) = false := decide_eq_false h4
  have HG : As (labelB x = partB x.f2) := ⟨by rw [key.out, hnb, decide_eq_true (show 1 ≤ x.f1 by omega), decide_eq_true (show x.f1 ≤ 4 by omega)]; rfl⟩
  clear h1 h4
  go_wp2_with (fail)
  refine (HCP.out _).mono ?_
  rintro e w3 ⟨rfl, hb3⟩
  have HB3 : As (Below w.heap.size w w3) := ⟨HBW2.out.trans (hb3.mono HBW2.out.size)⟩
  clear hb3 he0 he1 he2
  rcases hpb : partB x.f2 with _ | _
  · go_wp2_with (fail)
    go_ret
    exact ⟨_, rfl, .inr ⟨by rw [HG.out, hpb], _, rfl⟩, HB3.out.alloc HB3.out.size _⟩
  · go_wp2_with (fail)
    go_ret
    exact ⟨_, rfl, .inl ⟨by rw [HG.out, hpb], rfl⟩, HB3.out⟩
end Go.Proofs.YtehmhfbfgniekaaGreatDoor.Ob

namespace Go.Proofs.YtehmhfbfgniekaaGreatDoor.Ob
set_option linter.unusedVariables false
set_option linter.unusedSimpArgs false
open Go Go.RowKit Go.Proofs.YtehmhfbfgniekaaGreatDoorW.PrintWords Go.Proofs.YtehmhfbfgniekaaGreatDoorW.PrintLast Go.Proofs.YtehmhfbfgniekaaGreatDoorW.PrintMore PObBase PObDoc
structure Bx (w : World) (b : Nat) (cs : Array Value) (T : TypeId) (w' : World) : Prop where
  hb : Below w.heap.size w w'
  hk : w'.heap[b]? = some (.cells cs T (0, 0))
theorem Bx.next {w w1 w2 : World} {b : Nat} {cs : Array Value} {T : TypeId} (h : Bx w b cs T w1) (hb : Below w1.heap.size w1 w2) : Bx w b cs T w2 := ⟨h.hb.trans (hb.mono h.hb.size), (hb.block b (blk_lt h.hk)).trans h.hk⟩
theorem idx_words (k : Int) (h0 : 1 ≤ k) (h1 : k ≤ 4) (w : World) : (Instr.index 99 wordsV (.int .i64 k)).run Tryz.prog w = .ok (.string (bs (wordL k))) w := by
  rcases (show k = 1 ∨ k = 2 ∨ k = 3 ∨ k = 4 by omega) with rfl | rfl | rfl | rfl <;> kernel_rfl
theorem word_size (k : Int) : (wordL k).length ≤ 6 := by
  unfold wordL
  split
  · decide
  · split
    · decide
    · split
      · decide
      · split <;> decide
set_option maxHeartbeats 16000000 in
set_option maxRecDepth 100000 in
theorem putLabel_walk (x : Lab) (h0 : x.f0.size ≤ 1000000000) (h2 : x.f2.size ≤ 1000000000) (h3 : x.f3.size ≤ 1000000000) (w : World) :
    Calls Tryz.prog 93 #[.agg #[.string x.f0, .int .i64 x.f1, .string x.f2, .string x.f3]] w fun e w' => e = .returned (.tuple #[.string (putLabel x).1, .bool (putLabel x).2]) ∧ Below w.heap.size w w' := by
  obtain ⟨w0, hw0⟩ : ∃ w0, w.alloc (.cells #[.string x.f0, .int .i64 x.f1, .string x.f2, .string x.f3] 75) = w0 := ⟨_, rfl⟩
  have hb0 : Below w.heap.size w w0 := by rw [← hw0]; exact (Below.refl _ _).alloc (Nat.le_refl _) _
  have hnew : w0.heap[w.heap.size]? = some (.cells #[.string x.f0, .int .i64 x.f1, .string x.f2, .string x.f3] 75 (0, 0)) := by rw [← hw0]; exact blk_new w _
  have hd0 : w0.cell? ⟨w.heap.size, 0, none⟩ = some (.string x.f0) := (blk_cell hnew 0).trans rfl
  have hd1 : w0.cell? ⟨w.heap.size, 1, none⟩ = some (.int .i64 x.f1) := (blk_cell hnew 1).trans rfl
  have hd2 : w0.cell? ⟨w.heap.size, 2, none⟩ = some (.string x.f2) := (blk_cell hnew 2).trans rfl
  have hd3 : w0.cell? ⟨w.heap.size, 3, none⟩ = some (.string x.f3) := (blk_cell hnew 3).trans rfl
  have HB0 := As.mk hb0
  have HNW := As.mk hnew
  have HCL := As.mk (label_walk x h0 h2)
  have H3 := As.mk h3
  clear hb0 hnew h0 h2 h3
  go_enter Tryz.func93, Tryz.ntmps93
  go_wp2_with (fail)
  refine (HCL.out _).mono ?_
  rintro e w2 ⟨v, rfl, hv, hb⟩
  have HBX2 := As.mk ((Bx.mk HB0.out HNW.out : Bx w w.heap.size _ _ w0).next hb)
  clear hb hd0 hd1 hd2 hd3
  rcases hlb : labelB x with _ | _
  · have HP : As (putLabel x = (⟨#[]⟩, false)) := ⟨by rw [putLabel, hlb]; rfl⟩
    rw [hlb] at hv
    rcases hv with ⟨h, _⟩ | ⟨_, a, rfl⟩
    · cases h
    go_wp2_with (fail)
    refine (fine_wrong a _).mono ?_
    rintro e w1 ⟨rfl, hb⟩
    have HB1 := As.mk (HBX2.out.hb.trans (hb.mono HBX2.out.hb.size))
    clear hb
    go_wp2_with (fail)
    go_ret2
    rw [HP.out]
    exact ⟨rfl, HB1.out⟩
  have HP : As (putLabel x = (bs (labelL x), true)) := ⟨by rw [putLabel, hlb]; rfl⟩
  rw [hlb] at hv
  rcases hv with ⟨_, rfl⟩ | ⟨h, _⟩
  rotate_left
  · cases h
  unfold labelB at hlb
  simp only [Bool.and_eq_true, decide_eq_true_iff] at hlb
  obtain ⟨⟨⟨gn, g1⟩, g4⟩, gp⟩ := hlb
  have gs := (partB_size gp).2
  have gz : x.f0.size = 64 := nm_size gn
  have g3 := H3.out
  have hidx := idx_words x.f1 g1 g4
  obtain ⟨wd, hwd⟩ : ∃ wd, bs (wordL x.f1) = wd := ⟨_, rfl⟩
  have hws : wd.size ≤ 6 := by rw [← hwd, bs_size]; exact word_size _
  have HTX : As ((⟨#[111, 98, 106, 101, 99, 116, 32]⟩ : ByteArray) ++ x.f0 ++ (⟨#[10, 107, 105, 110, 100, 32]⟩ : ByteArray) ++ wd ++ (⟨#[10, 110, 97, 109, 101, 32]⟩ : ByteArray) ++ x.f2 ++ (⟨#[10, 10]⟩ : ByteArray) ++ x.f3 = bs (labelL x)) := ⟨by
    apply L_inj
    rw [L_bs, ← hwd]
    simp [L, bs, labelL, lineL, wObject, wKind, wName, ByteArray.data_append]⟩
  rw [hwd] at hidx
  go_wp2_with (fail)
  refine (fine_nil _).mono ?_
  rintro e w1 ⟨rfl, hb⟩
  have HBX : As (Bx w w.heap.size #[.string x.f0, .int .i64 x.f1, .string x.f2, .string x.f3] 75 w1.drew) := ⟨by
    have h := HBX2.out.next hb
    exact ⟨below_drew h.hb, h.hk⟩⟩
  have z1 : ¬ 9223372036854775807 < 77 + wd.size := by omega
  have z2 : ¬ 9223372036854775807 < 77 + wd.size + 6 := by omega
  have z3 : ¬ 9223372036854775807 < 77 + wd.size + 6 + x.f2.size := by omega
  have z4 : ¬ 9223372036854775807 < 77 + wd.size + 6 + x.f2.size + 2 := by omega
  have z5 : ¬ 9223372036854775807 < 77 + wd.size + 6 + x.f2.size + 2 + x.f3.size := by omega
  clear hb gn gp g1 g4 gs g3 hws hwd
  go_wp2_with (fail)
  refine start_ (n := 19) (S := Bx w w.heap.size #[.string x.f0, .int .i64 x.f1, .string x.f2, .string x.f3] 75) (ds := []) (bl_ 19 0) (by kernel_rfl) rfl rfl (HBX.out) (fun hHeld => ?_)
  refine pv_ 0 8 (bl_ 19 1) ?_
  refine pv_ 5 13 (bl_ 19 33) ?_
  refine pv_ 10 18 (bl_ 19 1057) ?_
  refine pv_ 14 22 (bl_ 19 17441) ?_
  refine tk_ 1 9 (bl_ 19 17443) hHeld (hv := by intro w' s0; have hc := blk_cell s0.hk 0; go_simp; with_reducible rfl) (h := ?_)
  refine pv_ 2 10 (bl_ 19 17447) ?_
  refine pv_ 3 11 (bl_ 19 17455) ?_
  refine tk_ 6 14 (bl_ 19 17519) hHeld (hv := by intro w' s0; have hc := blk_cell s0.hk 1; go_simp; with_reducible rfl) (h := ?_)
  refine tk_ 11 19 (bl_ 19 19567) hHeld (hv := by intro w' s0; have hc := blk_cell s0.hk 2; go_simp; with_reducible rfl) (h := ?_)
  refine tk_ 15 23 (bl_ 19 52335) hHeld (hv := by intro w' s0; have hc := blk_cell s0.hk 3; go_simp; with_reducible rfl) (h := ?_)
  refine one_ (i := 4) (N := some 12) (bl_ 19 52351) rfl rfl (by kernel_rfl) (by decide) (fun K hK => ?_)
  refine goes_ Tryz.func58 (by kernel_rfl) rfl #[] (by rfl) rfl rfl (by simp only [List.map_toArray, List.map_cons, List.map_nil]) ?_
  with_reducible refine (words_walk _).mono ?_
  rintro e w10 ⟨rfl, hb10⟩
  refine ⟨_, rfl, ?_⟩
  refine hK.out _ _ (hHeld.next hb10) (fun hHeld => ?_)
  clear hK K
  refine norm_ (a' := ?_) ?_ ?_
  rotate_left
  · show Act.put _ (some 12) _ = _
    simp only [Act.put, List.setIfInBounds_toArray, List.set_cons_zero, List.set_cons_succ, i64_w, i32_w]
    rfl
  refine tk_ 7 15 (bl_ 19 52479) hHeld (hv := by intro w' s0; have hc := hidx w'; go_simp; with_reducible rfl) (h := ?_)
  refine pv_ 8 16 (bl_ 19 52735) ?_
  refine pv_ 9 17 (bl_ 19 53247) ?_
  refine pv_ 12 20 (bl_ 19 57343) ?_
  refine pv_ 13 21 (bl_ 19 65535) ?_
  refine pv_ 16 24 (bl_ 19 131071) ?_
  refine pv_ 17 2 (bl_ 19 262143) ?_
  refine pv_ 18 3 (bl_ 19 524287) ?_
  refine done_ (by kernel_rfl) ?_
  have HB5 := As.mk hHeld.hb
  clear hHeld
  go_wp2_with (fail)
  go_ret2
  rw [HP.out, ← HTX.out]
  exact ⟨rfl, HB5.out⟩
end Go.Proofs.YtehmhfbfgniekaaGreatDoor.Ob

namespace Go.Proofs.YtehmhfbfgniekaaGreatDoor.Ob
set_option linter.unusedVariables false
set_option linter.unusedSimpArgs false
open Go Go.RowKit Go.Proofs.YtehmhfbfgniekaaGreatDoorW.PrintWords Go.Proofs.YtehmhfbfgniekaaGreatDoorW.PrintLast Go.Proofs.YtehmhfbfgniekaaGreatDoorW.PrintMore PObBase PObDoc
theorem word_eq (k : Int) : r04_Word.f k = some (bs (wordL k)) := by
  unfold r04_Word.f wordL
  by_cases h1 : k = 1
  · rw [if_pos h1, if_pos h1]; rfl
  · rw [if_neg h1, if_neg h1]
    by_cases h2 : k = 2
    · rw [if_pos h2, if_pos h2]; rfl
    · rw [if_neg h2, if_neg h2]
      by_cases h3 : k = 3
      · rw [if_pos h3, if_pos h3]; rfl
      · rw [if_neg h3, if_neg h3]
        by_cases h4 : k = 4
        · rw [if_pos h4, if_pos h4]; rfl
        · rw [if_neg h4, if_neg h4]; rfl
end Go.Proofs.YtehmhfbfgniekaaGreatDoor.Ob

namespace Go.Proofs.YtehmhfbfgniekaaGreatDoor.Ob
set_option linter.unusedVariables false
set_option linter.unusedSimpArgs false
open Go Go.RowKit Go.Proofs.YtehmhfbfgniekaaGreatDoorW.PrintWords Go.Proofs.YtehmhfbfgniekaaGreatDoorW.PrintLast Go.Proofs.YtehmhfbfgniekaaGreatDoorW.PrintMore PObBase PObDoc
theorem hasp_eq (s p : ByteArray) (hs : s.size ≤ 1000000000000) : stringslite_HasPrefix.f s p = some ((L p).isPrefixOf (L s)) := by
  unfold stringslite_HasPrefix.f
  by_cases h : p.size ≤ s.size
  · rw [if_pos (by omega), if_pos (by omega), if_pos (by omega), Int.toNat_natCast, toL, toL, L_ext, List.drop_zero, Nat.sub_zero]
    congr 1
    rw [Bool.eq_iff_iff, beq_iff_eq, List.isPrefixOf_iff_prefix, List.prefix_iff_eq_take, L_len]
    exact ⟨fun h => h.symm, fun h => h.symm⟩
  · rw [if_neg (by omega)]
    congr 1
    symm
    rw [Bool.eq_false_iff]
    intro hp
    have := (List.isPrefixOf_iff_prefix.1 hp).length_le
    rw [L_len, L_len] at this
    omega
theorem cutp_eq (s p : ByteArray) (hs : s.size ≤ 1000000000000) : strings_CutPrefix.f s p = some (if (L p).isPrefixOf (L s) = true then bs ((L s).drop p.size) else s, (L p).isPrefixOf (L s)) := by
  unfold strings_CutPrefix.f stringslite_CutPrefix.f
  rw [hasp_eq s p hs, Option.bind_some]
  by_cases h : (L p).isPrefixOf (L s) = true
  · have hl := (List.isPrefixOf_iff_prefix.1 h).length_le
    rw [L_len, L_len] at hl
    rw [if_pos h, if_pos (by omega), if_pos (by omega), Int.toNat_natCast, ext_drop, h]; rfl
  · rw [if_neg h, if_neg h]
    rw [Bool.not_eq_true] at h
    rw [h]; rfl
theorem fz_at {w : World} {b : Nat} {cs : Array Value} {T : TypeId} (hk : w.heap[b]? = some (.cells cs T (0, 0))) (i : Nat) : w.frozen? ⟨b, i, none⟩ = false := by simp [World.frozen?, hk]
theorem set_at {w : World} {b : Nat} {x y v : Value} {T : TypeId} (hk : w.heap[b]? = some (.cells #[x, y] T (0, 0))) : (w.setCell ⟨b, 0, none⟩ v).heap[b]? = some (.cells #[v, y] T (0, 0)) ∧ (w.setCell ⟨b, 1, none⟩ v).heap[b]? = some (.cells #[x, v] T (0, 0)) := by
  constructor <;> simp [World.setCell, Array.getElem?_modify, hk]
theorem set_other {w : World} {b k : Nat} (h : k ≠ b) (i : Nat) (v : Value) : (w.setCell ⟨b, i, none⟩ v).heap[k]? = w.heap[k]? := by
  show (w.heap.modify b _)[k]? = _
  rw [Array.getElem?_modify, if_neg (fun e => h e.symm)]
theorem alloc_at {w : World} {b : Nat} {o : Obj} (h : w.heap[b]? = some o) (p : Obj) : (w.alloc p).heap[b]? = some o := ((Below.refl w.heap.size w).alloc (Nat.le_refl _) p |>.block b (by
  rcases Nat.lt_or_ge b w.heap.size with h' | h'
  · exact h'
  · rw [Array.getElem?_eq_none h'] at h; cases h)).trans h
def RdAt (w : World) (b : Nat) (r : Rd) : Prop := ∃ v, ErrIs r.ok v ∧ w.heap[b]? = some (.cells #[.string (bs r.rest), v] 127 (0, 0))
set_option maxHeartbeats 8000000 in
set_option maxRecDepth 100000 in
theorem line_walk (b : Nat) (r : Rd) (wd : ByteArray) (w : World) (h : RdAt w b r) (hs : r.rest.length ≤ 1000000000) (hw : wd.size ≤ 1000) :
    Calls Tryz.prog 88 #[.pointer (some ⟨b, 0, none⟩), .string wd] w fun e w' => e = .returned (.string (bs (readLine (L wd) r).1)) ∧ RdAt w' b (readLine (L wd) r).2 ∧ Below b w w' ∧ ∀ k, k < w.heap.size → k ≠ b → w'.heap[k]? = w.heap[k]? := by
  obtain ⟨v, hv, hk⟩ := h
  have hd0 : w.cell? ⟨b, 0, none⟩ = some (.string (bs r.rest)) := (blk_cell hk 0).trans rfl
  have hd1 : w.cell? ⟨b, 1, none⟩ = some v := (blk_cell hk 1).trans rfl
  have HK := As.mk hk
  have hbl := blk_lt hk
  have hrl : L (bs r.rest) = r.rest := L_bs _
  have HCUT := As.mk (cut_eq (bs r.rest) 10 (by rw [bs_size]; omega))
  rw [hrl] at HCUT
  have HV := As.mk hv
  have HRL := As.mk hrl
  clear hv hk
  go_enter Tryz.func88, Tryz.ntmps88
  go_wp2_with (fail)
  refine (strings_Cut.calls _ _ _ _ _ _ HCUT.out).mono ?_
  rintro e w1 ⟨rfl, hdr1⟩
  have hb1 := hdr1.below
  have hd0 := pw_cell_below hb1 hd0
  have hd1 := pw_cell_below hb1 hd1
  obtain ⟨p, hp⟩ : ∃ p, (cutB 10 r.rest).1 = p := ⟨_, rfl⟩
  obtain ⟨z, hz⟩ : ∃ z, (cutB 10 r.rest).2.1 = z := ⟨_, rfl⟩
  obtain ⟨f, hf⟩ : ∃ f, (cutB 10 r.rest).2.2 = f := ⟨_, rfl⟩
  have hpl : p.length ≤ 1000000000 := by
    have := (cutB_len 10 r.rest).1
    rw [hp] at this; omega
  have HRD : As (readLine (L wd) r = if f = true ∧ (L wd ++ [32]).isPrefixOf p = true ∧ r.ok = true then (p.drop (wd.size + 1), ⟨z, true⟩) else ([], ⟨r.rest, false⟩)) := ⟨by unfold readLine; rw [hp, hz, hf, L_len]⟩
  obtain ⟨own, hown⟩ : ∃ own, (L wd ++ [32]).isPrefixOf p = own := ⟨_, rfl⟩
  have hLw : L (wd ++ (⟨#[32]⟩ : ByteArray)) = L wd ++ [32] := by simp [L, ByteArray.data_append]
  have HCP := As.mk (cutp_eq (bs p) (wd ++ (⟨#[32]⟩ : ByteArray)) (by rw [bs_size]; omega))
  rw [hLw, L_bs, hown, ByteArray.size_append, show (⟨#[32]⟩ : ByteArray).size = 1 from rfl] at HCP
  rw [hown] at HRD
  have HBB1 := As.mk hb1
  have HD1 := As.mk hdr1
  rw [hp, hz, hf]
  clear hp hz HCUT hown hLw hb1 hdr1
  go_wp2_with (fail)
  refine (strings_CutPrefix.calls _ _ _ _ _ HCP.out).mono ?_
  rintro e w2 ⟨rfl, hdr2⟩
  have hb2 := hdr2.below
  have hd0 := pw_cell_below hb2 hd0
  have hd1 := pw_cell_below hb2 hd1
  have HB2 := As.mk (HBB1.out.trans (hb2.mono HBB1.out.size))
  have HK2 := As.mk ((HB2.out.block b hbl).trans HK.out)
  have HOT : As (∀ k, k < w.heap.size → k ≠ b → w2.heap[k]? = w.heap[k]?) := ⟨fun k hk _ => HB2.out.block k hk⟩
  have hq0 : ∀ o, (w2.alloc o).cell? ⟨b, 0, none⟩ = some (.string (bs r.rest)) := fun o => pw_cell_below ((Below.refl _ _).alloc (Nat.le_refl _) o) hd0
  have hq1 : ∀ o, (w2.alloc o).cell? ⟨b, 1, none⟩ = some v := fun o => pw_cell_below ((Below.refl _ _).alloc (Nat.le_refl _) o) hd1
  have hqf : ∀ o, (w2.alloc o).frozen? ⟨b, 1, none⟩ = false := fun o => fz_at (alloc_at HK2.out o) 1
  have hqz : w2.frozen? ⟨b, 0, none⟩ = false := fz_at HK2.out 0
  have HBAD : As (∀ o a, RdAt ((w2.alloc o).setCell ⟨b, 1, none⟩ (.iface 156 (.pointer a))) b ⟨r.rest, false⟩ ∧ Below b w ((w2.alloc o).setCell ⟨b, 1, none⟩ (.iface 156 (.pointer a))) ∧ ∀ k, k < w.heap.size → k ≠ b → ((w2.alloc o).setCell ⟨b, 1, none⟩ (.iface 156 (.pointer a))).heap[k]? = w.heap[k]?) := ⟨fun o a =>
    ⟨⟨_, .inr ⟨rfl, a, rfl⟩, (set_at (alloc_at HK2.out o)).2⟩, ((HB2.out.alloc HB2.out.size o).mono (Nat.le_of_lt hbl)).setCell (p := ⟨b, 1, none⟩) (Nat.le_refl _) _, fun k hk hkb => (set_other hkb _ _).trans ((HB2.out.alloc HB2.out.size o).block k hk)⟩⟩
  clear hb2 hdr2
  cases f with
  | false =>
    have HF : As (readLine (L wd) r = ([], ⟨r.rest, false⟩)) := ⟨by rw [HRD.out]; rfl⟩
    cases own with
    | _ =>
      go_wp2_with (fail)
      go_ret
      rw [HF.out]
      exact ⟨rfl, HBAD.out _ _⟩
  | true =>
    cases own with
    | false =>
      have HF : As (readLine (L wd) r = ([], ⟨r.rest, false⟩)) := ⟨by rw [HRD.out]; simp⟩
      go_wp2_with (fail)
      go_ret
      rw [HF.out]
      exact ⟨rfl, HBAD.out _ _⟩
    | true =>
      rcases HV.out with ⟨hok, rfl⟩ | ⟨hok, a, rfl⟩
      · have HF : As (readLine (L wd) r = (p.drop (wd.size + 1), ⟨z, true⟩)) := ⟨by rw [HRD.out, hok]; simp⟩
        go_wp2_with (fail)
        go_ret
        rw [HF.out]
        refine ⟨rfl, ⟨_, .inl ⟨rfl, rfl⟩, (set_at HK2.out).1⟩, (HB2.out.mono (Nat.le_of_lt hbl)).setCell (p := ⟨b, 0, none⟩) (Nat.le_refl _) _, fun k hk hkb => (set_other hkb _ _).trans (HB2.out.block k hk)⟩
      · have HF : As (readLine (L wd) r = ([], ⟨r.rest, false⟩)) := ⟨by rw [HRD.out, hok]; simp⟩
        go_wp2_with (fail)
        go_ret
        rw [HF.out]
        exact ⟨rfl, ⟨_, .inr ⟨rfl, a, rfl⟩, HK2.out⟩, HB2.out.mono (Nat.le_of_lt hbl), HOT.out⟩
def readText (r : Rd) : List UInt8 × Rd := if ([10] : List UInt8).isPrefixOf r.rest = true then (r.rest.tail, r) else (r.rest, ⟨r.rest, false⟩)
set_option maxHeartbeats 8000000 in
set_option maxRecDepth 100000 in
theorem text_read (b : Nat) (r : Rd) (w : World) (h : RdAt w b r) (hs : r.rest.length ≤ 1000000000) :
    Calls Tryz.prog 90 #[.pointer (some ⟨b, 0, none⟩)] w fun e w' => e = .returned (.string (bs (readText r).1)) ∧ RdAt w' b (readText r).2 ∧ Below b w w' ∧ ∀ k, k < w.heap.size → k ≠ b → w'.heap[k]? = w.heap[k]? := by
  obtain ⟨v, hv, hk⟩ := h
  have hd0 : w.cell? ⟨b, 0, none⟩ = some (.string (bs r.rest)) := (blk_cell hk 0).trans rfl
  have hbl := blk_lt hk
  have HK := As.mk hk
  have HV := As.mk hv
  obtain ⟨own, hown⟩ : ∃ own, ([10] : List UInt8).isPrefixOf r.rest = own := ⟨_, rfl⟩
  have HCP := As.mk (cutp_eq (bs r.rest) (⟨#[10]⟩ : ByteArray) (by rw [bs_size]; omega))
  rw [L_bs, show L (⟨#[10]⟩ : ByteArray) = [10] from rfl, hown, show (⟨#[10]⟩ : ByteArray).size = 1 from rfl] at HCP
  have HRT : As (readText r = if own = true then (r.rest.tail, r) else (r.rest, ⟨r.rest, false⟩)) := ⟨by unfold readText; rw [hown]⟩
  clear hv hk hown
  go_enter Tryz.func90, Tryz.ntmps90
  go_wp2_with (fail)
  refine (strings_CutPrefix.calls _ _ _ _ _ HCP.out).mono ?_
  rintro e w2 ⟨rfl, hdr2⟩
  have HB2 := As.mk hdr2.below
  have HK2 := As.mk ((HB2.out.block b hbl).trans HK.out)
  have hd1 : w2.cell? ⟨b, 1, none⟩ = some v := (blk_cell HK2.out 1).trans rfl
  have hq1 : ∀ o, (w2.alloc o).cell? ⟨b, 1, none⟩ = some v := fun o => pw_cell_below ((Below.refl _ _).alloc (Nat.le_refl _) o) hd1
  have hqf : ∀ o, (w2.alloc o).frozen? ⟨b, 1, none⟩ = false := fun o => fz_at (alloc_at HK2.out o) 1
  clear hdr2
  cases own with
  | true =>
    have HF : As (readText r = (r.rest.tail, r)) := ⟨by rw [HRT.out]; rfl⟩
    go_wp2_with (fail)
    go_ret
    rw [HF.out]
    exact ⟨rfl, ⟨v, HV.out, HK2.out⟩, HB2.out.mono (Nat.le_of_lt hbl), fun k hk _ => HB2.out.block k hk⟩
  | false =>
    have HF : As (readText r = (r.rest, ⟨r.rest, false⟩)) := ⟨by rw [HRT.out]; rfl⟩
    go_wp2_with (fail)
    go_ret
    rw [HF.out]
    exact ⟨rfl, ⟨_, .inr ⟨rfl, _, rfl⟩, (set_at (alloc_at HK2.out _)).2⟩, ((HB2.out.alloc HB2.out.size _).mono (Nat.le_of_lt hbl)).setCell (p := ⟨b, 1, none⟩) (Nat.le_refl _) _, fun k hk hkb => (set_other hkb _ _).trans ((HB2.out.alloc HB2.out.size _).block k hk)⟩
end Go.Proofs.YtehmhfbfgniekaaGreatDoor.Ob

namespace Go.Proofs.YtehmhfbfgniekaaGreatDoor.Ob
set_option linter.unusedVariables false
set_option linter.unusedSimpArgs false
open Go Go.RowKit Go.Proofs.YtehmhfbfgniekaaGreatDoorW.PrintWords Go.Proofs.YtehmhfbfgniekaaGreatDoorW.PrintLast Go.Proofs.YtehmhfbfgniekaaGreatDoorW.PrintMore PObBase PObDoc
def readPs : Nat → Rd → List ByteArray × Rd
  | 0, r => ([], r)
  | n + 1, r => if (wParent ++ [32]).isPrefixOf r.rest = true ∧ r.ok = true then (bs (readLine wParent r).1 :: (readPs n (readLine wParent r).2).1, (readPs n (readLine wParent r).2).2) else ([], r)
def rdC1 (s : ByteArray) : List UInt8 × Rd := readLine wTree ⟨L s, true⟩
def rdC2 (s : ByteArray) : List ByteArray × Rd := readPs (s.size + 1) (rdC1 s).2
def rdC3 (s : ByteArray) : List UInt8 × Rd := readLine wWho (rdC2 s).2
def rdC4 (s : ByteArray) : List UInt8 × Rd := readText (rdC3 s).2
def parseC (s : ByteArray) : Chg := ⟨bs (rdC1 s).1, (rdC2 s).1, bs (rdC3 s).1, bs (rdC4 s).1⟩
def noChg : Chg := ⟨⟨#[]⟩, [], ⟨#[]⟩, ⟨#[]⟩⟩
open Classical in
noncomputable def getChange (s : ByteArray) : Chg × Bool := if (rdC4 s).2.ok = true ∧ putChange (parseC s) = (s, true) then (parseC s, true) else (noChg, false)
def kindOf (v : List UInt8) : Int := if v = [] then 0 else if v = wBlob then 1 else if v = wTree then 2 else if v = wCommit then 3 else if v = wTag then 4 else -1
def rdL1 (s : ByteArray) : List UInt8 × Rd := readLine wObject ⟨L s, true⟩
def rdL2 (s : ByteArray) : List UInt8 × Rd := readLine wKind (rdL1 s).2
def rdL3 (s : ByteArray) : List UInt8 × Rd := readLine wName (rdL2 s).2
def rdL4 (s : ByteArray) : List UInt8 × Rd := readText (rdL3 s).2
def parseL (s : ByteArray) : Lab := ⟨bs (rdL1 s).1, kindOf (rdL2 s).1, bs (rdL3 s).1, bs (rdL4 s).1⟩
def noLab : Lab := ⟨⟨#[]⟩, 0, ⟨#[]⟩, ⟨#[]⟩⟩
open Classical in
noncomputable def getLabel (s : ByteArray) : Lab × Bool := if (rdL4 s).2.ok = true ∧ putLabel (parseL s) = (s, true) then (parseL s, true) else (noLab, false)
theorem line_of {w v : List UInt8} (t : List UInt8) (hw : ∀ u ∈ w, u ≠ 10) (hv : ∀ u ∈ v, u ≠ 10) : readLine w ⟨lineL w v ++ t, true⟩ = (v, ⟨t, true⟩) := by
  have hc : cutB 10 (lineL w v ++ t) = (w ++ 32 :: v, t, true) := by
    have e : lineL w v ++ t = (w ++ 32 :: v) ++ 10 :: t := by simp [lineL]
    rw [e]
    refine cutB_app 10 _ _ (fun x hx => ?_)
    rcases List.mem_append.1 hx with hx | hx
    · exact hw x hx
    · rcases List.mem_cons.1 hx with rfl | hx
      · decide
      · exact hv x hx
  unfold readLine
  have hp : (w ++ [32]).isPrefixOf (w ++ 32 :: v) = true := by
    rw [List.isPrefixOf_iff_prefix]
    exact ⟨v, by simp⟩
  simp only [hc]
  rw [if_pos ⟨trivial, hp, trivial⟩]
  congr 1
  have : w ++ 32 :: v = (w ++ [32]) ++ v := by simp
  rw [this, List.drop_left' (by simp)]
theorem hex_no10 {s : ByteArray} (h : nmB s = true) : ∀ u ∈ L s, u ≠ 10 := by
  intro u hu e
  unfold nmB at h
  rw [Bool.and_eq_true, List.all_eq_true] at h
  have := (hexOk_iff u).1 (h.1 u hu)
  rw [e] at this
  revert this; decide
theorem part_no10 {s : ByteArray} (h : partB s = true) : ∀ u ∈ L s, u ≠ 10 := by
  intro u hu e
  have := part_bytes h u hu
  rw [e] at this
  revert this; decide
theorem change_parts {c : Chg} (h : changeB c = true) : nmB c.f0 = true ∧ (∀ p ∈ c.f1, nmB p = true) ∧ c.f1.length ≤ 8 ∧ c.f1.Nodup ∧ c.f2.size ≤ 100 ∧ (L c.f2).all whoOk = true := by
  unfold changeB at h
  simp only [Bool.and_eq_true, decide_eq_true_iff, List.all_eq_true] at h
  obtain ⟨⟨⟨⟨⟨a, b⟩, d⟩, e⟩, f⟩, g⟩ := h
  exact ⟨a, b, d, e, f, List.all_eq_true.2 g⟩
theorem label_parts {x : Lab} (h : labelB x = true) : nmB x.f0 = true ∧ 1 ≤ x.f1 ∧ x.f1 ≤ 4 ∧ partB x.f2 = true := by
  unfold labelB at h
  simp only [Bool.and_eq_true, decide_eq_true_iff] at h
  exact ⟨h.1.1.1, h.1.1.2, h.1.2, h.2⟩
theorem who_no10 {s : ByteArray} (h : (L s).all whoOk = true) : ∀ u ∈ L s, u ≠ 10 := by
  intro u hu e
  have := List.all_eq_true.1 h u hu
  rw [e] at this
  revert this; decide
theorem readPs_of : ∀ (ps : List ByteArray) (n : Nat) (t : List UInt8), (∀ p ∈ ps, nmB p = true) → ps.length < n → (wParent ++ [32]).isPrefixOf t = false → readPs n ⟨ps.flatMap (fun p => lineL wParent (L p)) ++ t, true⟩ = (ps, ⟨t, true⟩)
  | _, 0, _, _, h, _ => absurd h (Nat.not_lt_zero _)
  | [], n + 1, t, _, _, ht => by
    rw [readPs]
    simp [ht]
  | p :: r, n + 1, t, hp, hn, ht => by
    have h1 := readPs_of r n t (fun q hq => hp q (List.mem_cons_of_mem _ hq)) (by rw [List.length_cons] at hn; omega) ht
    have e : (p :: r).flatMap (fun p => lineL wParent (L p)) ++ t = lineL wParent (L p) ++ (r.flatMap (fun p => lineL wParent (L p)) ++ t) := by simp
    have hl := line_of (w := wParent) (v := L p) (r.flatMap (fun p => lineL wParent (L p)) ++ t) (by decide) (hex_no10 (hp p List.mem_cons_self))
    rw [readPs, e, hl, bs_L]
    have hpre : (wParent ++ [32]).isPrefixOf (lineL wParent (L p) ++ (r.flatMap (fun p => lineL wParent (L p)) ++ t)) = true := by
      rw [List.isPrefixOf_iff_prefix]
      exact ⟨L p ++ [10] ++ (r.flatMap (fun p => lineL wParent (L p)) ++ t), by simp [lineL]⟩
    rw [if_pos ⟨hpre, rfl⟩]
    simp only [h1]
theorem parents_len (ps : List ByteArray) : ps.length ≤ (ps.flatMap (fun p => lineL wParent (L p))).length := by
  induction ps with
  | nil => simp
  | cons p r ih =>
    rw [List.flatMap_cons, List.length_append, List.length_cons]
    have : 1 ≤ (lineL wParent (L p)).length := by simp [lineL]; omega
    omega
theorem putChange_iff {c : Chg} {s : ByteArray} : putChange c = (s, true) ↔ (changeB c = true ∧ s = bs (changeL c)) := by
  unfold putChange
  constructor
  · intro h
    split at h
    · rename_i g; exact ⟨g, (Prod.mk.inj h).1.symm⟩
    · cases (Prod.mk.inj h).2
  · rintro ⟨g, rfl⟩; rw [if_pos g]
theorem putLabel_iff {c : Lab} {s : ByteArray} : putLabel c = (s, true) ↔ (labelB c = true ∧ s = bs (labelL c)) := by
  unfold putLabel
  constructor
  · intro h
    split at h
    · rename_i g; exact ⟨g, (Prod.mk.inj h).1.symm⟩
    · cases (Prod.mk.inj h).2
  · rintro ⟨g, rfl⟩; rw [if_pos g]
theorem readText_of (t : List UInt8) : readText ⟨10 :: t, true⟩ = (t, ⟨10 :: t, true⟩) := by
  unfold readText
  rw [if_pos (by simp)]; rfl
theorem parse_change {c : Chg} (h : changeB c = true) : parseC (bs (changeL c)) = c ∧ (rdC4 (bs (changeL c))).2.ok = true := by
  obtain ⟨h0, h1, _, _, _, h2⟩ := change_parts h
  have e : L (bs (changeL c)) = lineL wTree (L c.f0) ++ (c.f1.flatMap (fun p => lineL wParent (L p)) ++ (lineL wWho (L c.f2) ++ 10 :: L c.f3)) := by rw [L_bs, changeL]; simp
  have r1 : rdC1 (bs (changeL c)) = (L c.f0, ⟨c.f1.flatMap (fun p => lineL wParent (L p)) ++ (lineL wWho (L c.f2) ++ 10 :: L c.f3), true⟩) := by
    unfold rdC1
    rw [e, line_of _ (by decide) (hex_no10 h0)]
  have r2 : rdC2 (bs (changeL c)) = (c.f1, ⟨lineL wWho (L c.f2) ++ 10 :: L c.f3, true⟩) := by
    unfold rdC2
    rw [r1]
    refine readPs_of c.f1 _ _ h1 ?_ rfl
    rw [← L_len, e]
    have := parents_len c.f1
    simp only [List.length_append]
    omega
  have r3 : rdC3 (bs (changeL c)) = (L c.f2, ⟨10 :: L c.f3, true⟩) := by
    unfold rdC3
    rw [r2, line_of _ (by decide) (who_no10 h2)]
  have r4 : rdC4 (bs (changeL c)) = (L c.f3, ⟨10 :: L c.f3, true⟩) := by
    unfold rdC4
    rw [r3, readText_of]
  unfold parseC
  rw [r1, r2, r3, r4, bs_L, bs_L, bs_L]
  exact ⟨rfl, rfl⟩
theorem getChange_iff (s : ByteArray) (c : Chg) : getChange s = (c, true) ↔ putChange c = (s, true) := by
  classical
  unfold getChange
  constructor
  · intro h
    split at h
    · rename_i g
      rw [← (Prod.mk.inj h).1]; exact g.2
    · cases (Prod.mk.inj h).2
  · intro h
    obtain ⟨h1, rfl⟩ := putChange_iff.1 h
    obtain ⟨g1, g2⟩ := parse_change h1
    rw [if_pos ⟨g2, by rw [g1]; exact h⟩, g1]
theorem kind_word {k : Int} (h1 : 1 ≤ k) (h4 : k ≤ 4) : kindOf (wordL k) = k := by
  rcases (show k = 1 ∨ k = 2 ∨ k = 3 ∨ k = 4 by omega) with rfl | rfl | rfl | rfl <;> decide
theorem word_no10 (k : Int) : ∀ u ∈ wordL k, u ≠ 10 := by
  unfold wordL
  split
  · decide
  · split
    · decide
    · split
      · decide
      · split <;> decide
theorem parse_label {x : Lab} (h : labelB x = true) : parseL (bs (labelL x)) = x ∧ (rdL4 (bs (labelL x))).2.ok = true := by
  obtain ⟨h0, g1, g4, hp⟩ := label_parts h
  have e : L (bs (labelL x)) = lineL wObject (L x.f0) ++ (lineL wKind (wordL x.f1) ++ (lineL wName (L x.f2) ++ 10 :: L x.f3)) := by rw [L_bs, labelL]; simp
  have r1 : rdL1 (bs (labelL x)) = (L x.f0, ⟨lineL wKind (wordL x.f1) ++ (lineL wName (L x.f2) ++ 10 :: L x.f3), true⟩) := by
    unfold rdL1
    rw [e, line_of _ (by decide) (hex_no10 h0)]
  have r2 : rdL2 (bs (labelL x)) = (wordL x.f1, ⟨lineL wName (L x.f2) ++ 10 :: L x.f3, true⟩) := by
    unfold rdL2
    rw [r1, line_of _ (by decide) (word_no10 _)]
  have r3 : rdL3 (bs (labelL x)) = (L x.f2, ⟨10 :: L x.f3, true⟩) := by
    unfold rdL3
    rw [r2, line_of _ (by decide) (part_no10 hp)]
  have r4 : rdL4 (bs (labelL x)) = (L x.f3, ⟨10 :: L x.f3, true⟩) := by
    unfold rdL4
    rw [r3, readText_of]
  unfold parseL
  rw [r1, r2, r3, r4, bs_L, bs_L, bs_L, kind_word g1 g4]
  exact ⟨rfl, rfl⟩
theorem getLabel_iff (s : ByteArray) (c : Lab) : getLabel s = (c, true) ↔ putLabel c = (s, true) := by
  classical
  unfold getLabel
  constructor
  · intro h
    split at h
    · rename_i g
      rw [← (Prod.mk.inj h).1]; exact g.2
    · cases (Prod.mk.inj h).2
  · intro h
    obtain ⟨h1, rfl⟩ := putLabel_iff.1 h
    obtain ⟨g1, g2⟩ := parse_label h1
    rw [if_pos ⟨g2, by rw [g1]; exact h⟩, g1]
end Go.Proofs.YtehmhfbfgniekaaGreatDoor.Ob

namespace Go.Proofs.YtehmhfbfgniekaaGreatDoor.Ob
set_option linter.unusedVariables false
set_option linter.unusedSimpArgs false
open Go Go.RowKit Go.Proofs.YtehmhfbfgniekaaGreatDoorW.PrintWords Go.Proofs.YtehmhfbfgniekaaGreatDoorW.PrintLast Go.Proofs.YtehmhfbfgniekaaGreatDoorW.PrintMore PObBase PObDoc
theorem whoOk_iff (u : UInt8) : whoOk u = true ↔ (32 ≤ u.toNat ∧ u.toNat ≤ 126) := by
  unfold whoOk
  rw [Bool.and_eq_true, decide_eq_true_iff, decide_eq_true_iff]
theorem readLine_le (w : List UInt8) (r : Rd) : (readLine w r).1.length ≤ r.rest.length ∧ (readLine w r).2.rest.length ≤ r.rest.length ∧ ((readLine w r).2.ok = true → r.ok = true ∧ (readLine w r).2.rest.length < r.rest.length) := by
  have h0 := (cutB_len 10 r.rest).1
  obtain ⟨_, h2⟩ := cutB_spec 10 r.rest
  unfold readLine
  split
  · rename_i g
    refine ⟨?_, ?_, fun _ => ⟨g.2.2, ?_⟩⟩
    · show ((cutB 10 r.rest).1.drop _).length ≤ _
      rw [List.length_drop]; omega
    · show (cutB 10 r.rest).2.1.length ≤ _
      omega
    · show (cutB 10 r.rest).2.1.length < _
      rcases h2 with ⟨_, g2⟩ | ⟨g1, _⟩
      · have := congrArg List.length g2
        rw [List.length_append, List.length_cons] at this
        omega
      · rw [g.1] at g1; cases g1
  · exact ⟨Nat.zero_le _, Nat.le_refl _, fun h => by cases h⟩
theorem readPs_le : ∀ (n : Nat) (r : Rd), (readPs n r).1.length ≤ n ∧ (∀ p ∈ (readPs n r).1, p.size ≤ r.rest.length) ∧ (readPs n r).2.rest.length ≤ r.rest.length
  | 0, r => ⟨Nat.le_refl _, fun p hp => (by cases hp), Nat.le_refl _⟩
  | n + 1, r => by
    rw [readPs]
    split
    · obtain ⟨h1, h2, h3⟩ := readPs_le n (readLine wParent r).2
      obtain ⟨g1, g2, _⟩ := readLine_le wParent r
      refine ⟨?_, fun p hp => ?_, ?_⟩
      · show (_ :: _).length ≤ _
        rw [List.length_cons]; omega
      · rcases List.mem_cons.1 hp with rfl | hp
        · rw [bs_size]; exact g1
        · have := h2 p hp; omega
      · show (readPs n (readLine wParent r).2).2.rest.length ≤ _
        omega
    · exact ⟨Nat.zero_le _, fun p hp => (by cases hp), Nat.le_refl _⟩
theorem readText_le (r : Rd) : (readText r).1.length ≤ r.rest.length ∧ (readText r).2.rest.length ≤ r.rest.length := by
  unfold readText
  split
  · refine ⟨?_, Nat.le_refl _⟩
    show r.rest.tail.length ≤ _
    rw [List.length_tail]; omega
  · exact ⟨Nat.le_refl _, Nat.le_refl _⟩
theorem rdC_le (s : ByteArray) : (rdC1 s).1.length ≤ s.size ∧ (rdC1 s).2.rest.length ≤ s.size ∧ (rdC2 s).1.length ≤ s.size + 1 ∧ (∀ p ∈ (rdC2 s).1, p.size ≤ s.size) ∧ (rdC2 s).2.rest.length ≤ s.size ∧ (rdC3 s).1.length ≤ s.size ∧ (rdC3 s).2.rest.length ≤ s.size ∧ (rdC4 s).1.length ≤ s.size := by
  have hl : (L s).length = s.size := L_len s
  obtain ⟨a1, a2, _⟩ := readLine_le wTree ⟨L s, true⟩
  obtain ⟨b1, b2, b3⟩ := readPs_le (s.size + 1) (rdC1 s).2
  obtain ⟨c1, c2, _⟩ := readLine_le wWho (rdC2 s).2
  obtain ⟨d1, _⟩ := readText_le (rdC3 s).2
  have e1 : (rdC1 s).1.length ≤ s.size := by rw [← hl]; exact a1
  have e2 : (rdC1 s).2.rest.length ≤ s.size := by rw [← hl]; exact a2
  have e3 : (rdC2 s).2.rest.length ≤ s.size := Nat.le_trans b3 e2
  have e4 : (rdC3 s).2.rest.length ≤ s.size := Nat.le_trans c2 e3
  exact ⟨e1, e2, b1, fun p hp => Nat.le_trans (b2 p hp) e2, e3, Nat.le_trans c1 e3, e4, Nat.le_trans d1 e4⟩
theorem rdL_le (s : ByteArray) : (rdL1 s).1.length ≤ s.size ∧ (rdL1 s).2.rest.length ≤ s.size ∧ (rdL2 s).1.length ≤ s.size ∧ (rdL2 s).2.rest.length ≤ s.size ∧ (rdL3 s).1.length ≤ s.size ∧ (rdL3 s).2.rest.length ≤ s.size ∧ (rdL4 s).1.length ≤ s.size := by
  have hl : (L s).length = s.size := L_len s
  obtain ⟨a1, a2, _⟩ := readLine_le wObject ⟨L s, true⟩
  obtain ⟨b1, b2, _⟩ := readLine_le wKind (rdL1 s).2
  obtain ⟨c1, c2, _⟩ := readLine_le wName (rdL2 s).2
  obtain ⟨d1, _⟩ := readText_le (rdL3 s).2
  have e1 : (rdL1 s).1.length ≤ s.size := by rw [← hl]; exact a1
  have e2 : (rdL1 s).2.rest.length ≤ s.size := by rw [← hl]; exact a2
  have e3 : (rdL2 s).2.rest.length ≤ s.size := Nat.le_trans b2 e2
  have e4 : (rdL3 s).2.rest.length ≤ s.size := Nat.le_trans c2 e3
  exact ⟨e1, e2, Nat.le_trans b1 e2, e3, Nat.le_trans c1 e3, e4, Nat.le_trans d1 e4⟩
structure Csh (x : Chg) : Prop where
  h0 : x.f0.size ≤ 1000000000
  hl : x.f1.length ≤ 1000000000
  h1 : ∀ p ∈ x.f1, p.size ≤ 1000000000
  h2 : x.f2.size ≤ 1000000000
  h3 : x.f3.size ≤ 1000000000
theorem parseC_sh {s : ByteArray} (hs : s.size ≤ 500000000) : Csh (parseC s) := by
  obtain ⟨a, _, b, c, _, d, _, e⟩ := rdC_le s
  exact ⟨by show (bs (rdC1 s).1).size ≤ _; rw [bs_size]; omega, by show (rdC2 s).1.length ≤ _; omega, fun p hp => by have := c p hp; omega, by show (bs (rdC3 s).1).size ≤ _; rw [bs_size]; omega, by show (bs (rdC4 s).1).size ≤ _; rw [bs_size]; omega⟩
def preL (x : Chg) (i : Nat) : List UInt8 := lineL wTree (L x.f0) ++ (x.f1.take i).flatMap (fun p => lineL wParent (L p))
theorem preL_step {x : Chg} {i : Nat} {p : ByteArray} (hp : x.f1[i]? = some p) : preL x (i + 1) = preL x i ++ lineL wParent (L p) := by
  unfold preL
  rw [List.take_add_one, hp, List.flatMap_append, List.append_assoc]; simp
theorem preL_len {x : Chg} (h0 : x.f0.size = 64) (h : ∀ p ∈ x.f1, p.size = 64) (i : Nat) : (preL x i).length ≤ 70 + 72 * i := by
  unfold preL
  rw [List.length_append]
  have h1 : (lineL wTree (L x.f0)).length = 70 := by simp [lineL, wTree, h0]
  have h2 : ∀ l : List ByteArray, (∀ p ∈ l, p.size = 64) → (l.flatMap (fun p => lineL wParent (L p))).length = 72 * l.length := by
    intro l hl
    induction l with
    | nil => rfl
    | cons p r ih =>
      rw [List.flatMap_cons, List.length_append, ih (fun q hq => hl q (List.mem_cons_of_mem _ hq)), List.length_cons]
      have : (lineL wParent (L p)).length = 72 := by simp [lineL, wParent, hl p List.mem_cons_self]
      omega
  rw [h1, h2 _ (fun p hp => h p (List.mem_of_mem_take hp)), List.length_take]
  omega
theorem txt_tree (s : ByteArray) : L ((⟨#[116, 114, 101, 101, 32]⟩ : ByteArray) ++ s ++ (⟨#[10]⟩ : ByteArray)) = lineL wTree (L s) := by simp [L, lineL, wTree, ByteArray.data_append]
theorem txt_parent (s : ByteArray) : L ((⟨#[112, 97, 114, 101, 110, 116, 32]⟩ : ByteArray) ++ s ++ (⟨#[10]⟩ : ByteArray)) = lineL wParent (L s) := by simp [L, lineL, wParent, ByteArray.data_append]
theorem txt_who (s t : ByteArray) : L ((⟨#[119, 104, 111, 32]⟩ : ByteArray) ++ s ++ (⟨#[10, 10]⟩ : ByteArray) ++ t) = lineL wWho (L s) ++ 10 :: L t := by simp [L, lineL, wWho, ByteArray.data_append]
theorem change_all_text {x : Chg} {n : Nat} (hn : x.f1.length = n) : preL x n ++ (lineL wWho (L x.f2) ++ 10 :: L x.f3) = changeL x := by
  unfold preL changeL
  rw [List.take_of_length_le (by omega)]; simp
end Go.Proofs.YtehmhfbfgniekaaGreatDoor.Ob

namespace Go.Proofs.YtehmhfbfgniekaaGreatDoor.Ob
set_option linter.unusedVariables false
set_option linter.unusedSimpArgs false
open Go Go.RowKit Go.Proofs.YtehmhfbfgniekaaGreatDoorW.PrintWords Go.Proofs.YtehmhfbfgniekaaGreatDoorW.PrintLast Go.Proofs.YtehmhfbfgniekaaGreatDoorW.PrintMore PObBase PObDoc
theorem rdS {l : List ByteArray} {i : Nat} {p : ByteArray} (hp : l[i]? = some p) : rdOf ByteArray.empty l (i : Int) = p := by
  unfold rdOf
  rw [Int.toNat_natCast, List.getD_eq_getElem?_getD, hp]; rfl
end Go.Proofs.YtehmhfbfgniekaaGreatDoor.Ob

namespace Go.Proofs.YtehmhfbfgniekaaGreatDoor.Ob
set_option linter.unusedVariables false
set_option linter.unusedSimpArgs false
open Go Go.RowKit Go.Proofs.YtehmhfbfgniekaaGreatDoorW.PrintWords Go.Proofs.YtehmhfbfgniekaaGreatDoorW.PrintLast Go.Proofs.YtehmhfbfgniekaaGreatDoorW.PrintMore PObBase PObDoc
def tupC (g : Chg × Bool) : ByteArray × List ByteArray × ByteArray × ByteArray × Bool := (g.1.f0, g.1.f1, g.1.f2, g.1.f3, g.2)
def tupL (g : Lab × Bool) : ByteArray × Int × ByteArray × ByteArray × Bool := (g.1.f0, g.1.f1, g.1.f2, g.1.f3, g.2)
open Classical in
noncomputable def finC (s : ByteArray) (c : Chg) (ok : Bool) : Chg × Bool := if ok = true ∧ putChange c = (s, true) then (c, true) else (noChg, false)
open Classical in
noncomputable def finL (s : ByteArray) (c : Lab) (ok : Bool) : Lab × Bool := if ok = true ∧ putLabel c = (s, true) then (c, true) else (noLab, false)
theorem getChange_fin (s : ByteArray) : getChange s = finC s (parseC s) (rdC4 s).2.ok := rfl
theorem getLabel_fin (s : ByteArray) : getLabel s = finL s (parseL s) (rdL4 s).2.ok := rfl
theorem finC_no (s : ByteArray) (c : Chg) : finC s c false = (noChg, false) := by unfold finC; rw [if_neg (by simp)]
theorem finL_no (s : ByteArray) (c : Lab) : finL s c false = (noLab, false) := by unfold finL; rw [if_neg (by simp)]
theorem ps_no {r : Rd} (h : r.ok = false) : ∀ n, readPs n r = ([], r)
  | 0 => rfl
  | n + 1 => by rw [readPs, if_neg (fun g => by rw [h] at g; cases g.2)]
def kk (q : ByteArray) : Int := if q = bs (wordL 4) then 4 else if q = bs (wordL 3) then 3 else if q = bs (wordL 2) then 2 else if q = bs (wordL 1) then 1 else 0
theorem bs_inj {a b : List UInt8} : bs a = bs b ↔ a = b := ⟨fun h => by rw [← L_bs a, h, L_bs], fun h => by rw [h]⟩
end Go.Proofs.YtehmhfbfgniekaaGreatDoor.Ob

namespace Go.Proofs.YtehmhfbfgniekaaGreatDoor.Ob
set_option linter.unusedVariables false
set_option linter.unusedSimpArgs false
open Go Go.RowKit Go.Proofs.YtehmhfbfgniekaaGreatDoorW.PrintWords Go.Proofs.YtehmhfbfgniekaaGreatDoorW.PrintLast Go.Proofs.YtehmhfbfgniekaaGreatDoorW.PrintMore PObBase PObDoc
namespace Gv
noncomputable def putTree.f (l0 : List It) : Option (ByteArray × Bool) := by classical exact if Ish l0 ∧ l0.length ≤ 1000000000 then some (Ob.putTree l0) else none
theorem putTree.f_eq {l : List It} (h : Ish l) (hl : l.length ≤ 1000000000) : putTree.f l = some (Ob.putTree l) := by unfold putTree.f; rw [if_pos ⟨h, hl⟩]
theorem putTree.calls (A0 : Option Addr) (c0 : Nat) (l0 : List It) (r1 : ByteArray) (r2 : Bool) (w : World) (hr0 : Kd.C k58 w A0 l0.length l0) (hc0 : l0.length ≤ c0) (h : putTree.f l0 = some (r1, r2)) (ht : Tbl w) :
    Calls Tryz.prog 87 #[.slice A0 l0.length c0] w fun e w' => e = .returned (.tuple #[.string r1, .bool r2]) ∧ Below w.heap.size w w' := by
  unfold putTree.f at h
  split at h
  · rename_i h0
    have h1 := Option.some.inj h
    have := putTree_walk A0 c0 _ l0 w hr0 rfl hc0 h0.1 h0.2 ht
    rw [h1] at this
    exact this
  · cases h
end Gv
end Go.Proofs.YtehmhfbfgniekaaGreatDoor.Ob

namespace Go.Proofs.YtehmhfbfgniekaaGreatDoor.PObGet
open Go.Proofs.YtehmhfbfgniekaaGreatDoor.PObBase Go.Proofs.YtehmhfbfgniekaaGreatDoor.PObDoc
open Go.RowKit Go.Proofs.YtehmhfbfgniekaaGreatDoorW.PrintWords Go.Proofs.YtehmhfbfgniekaaGreatDoorW.PrintLast Go.Proofs.YtehmhfbfgniekaaGreatDoorW.PrintMore
attribute [local go_sem] max2_int min2_int max_two min_two max_three min_three max_four min_four   -- for this text's walks alone
set_option linter.unusedVariables false
set_option linter.unusedSimpArgs false
def errW : Option Int → Value
 | none => .nilIface
 | some c => .iface 0 (.int .i64 c)
theorem errW_none : errW none = .nilIface := rfl
theorem errW_some (c : Int) : errW (some c) = .iface 0 (.int .i64 c) := rfl
theorem info58 : (Tryz.prog.info? 58).map (fun i => (i.zero, i.size, i.bytes)) = some (some (.agg #[(.int .i64 0), (.string ⟨#[]⟩), (.string ⟨#[]⟩)]), 3, 40) := by kernel_rfl
end Go.Proofs.YtehmhfbfgniekaaGreatDoor.PObGet

namespace Go.Proofs.YtehmhfbfgniekaaGreatDoor.PObGet
open Go.Proofs.YtehmhfbfgniekaaGreatDoor.PObBase Go.Proofs.YtehmhfbfgniekaaGreatDoor.PObDoc
open Go.RowKit Go.Proofs.YtehmhfbfgniekaaGreatDoorW.PrintWords Go.Proofs.YtehmhfbfgniekaaGreatDoorW.PrintLast Go.Proofs.YtehmhfbfgniekaaGreatDoorW.PrintMore
attribute [local go_sem] max2_int min2_int max_two min_two max_three min_three max_four min_four   -- for this text's walks alone
set_option linter.unusedVariables false
set_option linter.unusedSimpArgs false
theorem o5_ {p : Prop} (h : p := by (with_reducible repeat (first | apply Kd.R_alloc | apply Kd.R_drewN | apply Kd.R_drew)); exact HO_4.out) : p := h
noncomputable def object_GetTree.l0 : Nat → ByteArray → List (S58) → ByteArray → Option ((List (S58)) × Bool)
 | 0, _, _, _ => none
 | k + 1, x0, x4, x5 => if x5.toList = ([] : List UInt8) then ((Ob.Gv.putTree.f x4).bind fun bt101 => (if bt101.2 = true then (if bt101.1.toList = x0.toList then (some (x4, true)) else (some (([] : List (S58)), false))) else (some (([] : List (S58)), false)))) else ((PObBase.strings_Cut.f x5 (⟨#[0]⟩ : ByteArray)).bind fun bt103 => (if bt103.2.2 = true then (if (bt103.1.size : Int) < 2 then (some (([] : List (S58)), false)) else (if 1 < (bt103.1.size : Int) then (if (bt bt103.1 1) = 32 then (if (bt103.2.1.size : Int) < 64 then (some (([] : List (S58)), false)) else (if 0 < (bt103.1.size : Int) then (if 2 ≤ (bt103.1.size : Int) then (if 0 ≤ 64 then (if 64 ≤ (bt103.2.1.size : Int) then (if x4.length < 3518437208883 then (object_GetTree.l0 k x0 (x4 ++ [(⟨wrap64 ((wrap64 (bt bt103.1 0)) - 48), bt103.1.extract 2 bt103.1.size, bt103.2.1.extract 0 64⟩ : S58)]) (bt103.2.1.extract 64 bt103.2.1.size)) else (none)) else (none)) else (none)) else (none)) else (none))) else (some (([] : List (S58)), false))) else (none))) else (some (([] : List (S58)), false))))
noncomputable def object_GetTree.f (k : Nat) (a0 : ByteArray) : Option ((List (S58)) × Bool) := object_GetTree.l0 k a0 ([] : List (S58)) a0
def object_GetTree.T7 : Bool × List (List Nat × List Nat) := (true, [([], []), ([], []), ([1], [1]), ([2], [2]), ([3], [3]), ([], []), ([5], [5]), ([], []), ([7], [7]), ([4, 6, 8], [4, 6, 8]), ([9], [9]), ([0, 10], [0, 10]), ([11, 11, 0, 1, 2, 3, 4, 5, 6, 7, 8, 9, 10, 11], [0, 11])])
def object_GetTree.B7 : List Nat := [0, 0, 2, 6, 14, 0, 32, 0, 128, 510, 1022, 2047, 4095]
theorem object_GetTree.tab7 : rtab .any (opsOf Tryz.f65 7) = object_GetTree.T7 := by kernel_rfl
theorem object_GetTree.bits7 : waitsOk object_GetTree.T7.2 object_GetTree.B7 = true := by kernel_rfl
set_option maxHeartbeats 8000000 in
set_option maxRecDepth 100000 in
theorem object_GetTree.calls (k : Nat) (a0 : ByteArray) (r1 : List (S58)) (r2 : Bool) (w : World) (h : object_GetTree.f k a0 = some (r1, r2)) (ht_ : Lib.TabIs Tryz.prog w "internal/strconv.uint64pow10" .u64 Lib.pow10Tab) :
  Calls Tryz.prog 65 #[.string a0] w fun e w' => ∃ v0_ : Value, e = .returned (.tuple #[v0_, .bool r2]) ∧ Kd.R k58 58 w' w.heap.size (fun _ => True) v0_ r1 ∧ Below w.heap.size w w' := by
 have HTAB_ : Aside0 (∀ w_ : World, Below w.heap.size w w_ → Lib.TabIs Tryz.prog w_ "internal/strconv.uint64pow10" .u64 Lib.pow10Tab) := Aside0.mk (fun w_ hb_ => Lib.tabBelow_of_tabIs ht_ w_ hb_)
 clear ht_
 have hu58 := Tryz.underlying58
 have HB := Aside0.mk (Below.refl w.heap.size w)
 have H : (object_GetTree.l0 k a0 ([] : List (S58)) a0) = some (r1, r2) := h
 clear h
 have H' := Aside0.mk H
 clear H
 go_enter Tryz.func65, Tryz.ntmps65
 go_wp2
 go_loopg [4, 5] k (fun kq v4 v5 w' => ∃ (x4_1 : List (S58)) (x5_1 : ByteArray), v5 = .string x5_1 ∧ Aside0 (object_GetTree.l0 kq a0 x4_1 x5_1 = some (r1, r2)) ∧ Aside0 (kq ≤ k) ∧ Aside0 (Kd.R k58 58 w' w.heap.size (fun _ => True) v4 x4_1) ∧ Aside0 (Below w.heap.size w w'))
 case atStart => exact ⟨(([] : List (S58))), (a0), sd_, H', ⟨Nat.le_refl _⟩, ⟨kn_⟩, ⟨bw_⟩⟩
 case round =>
  clear H'
  obtain ⟨x4_1, x5_1, rfl, HA, HK1, HO_4, HB⟩ := hrel
  cases gk with
  | zero => exact absurd HA.out (by simp [object_GetTree.l0])
  | succ k1 =>
   have H := HA.out
   clear HA
   simp only [object_GetTree.l0] at H
   by_cases c2 : x5_1.toList = ([] : List UInt8)
   ·
    rw [if_pos c2] at H
    have c2b0 : (x5_1.toList == ([] : List UInt8)) = true := beq_iff_eq.mpr c2
    have c2b1 : (x5_1.toList != ([] : List UInt8)) = false := bne_eq_false_iff_eq.mpr c2
    clear c2
    replace H := Option.bind_eq_some_iff.mp H
    obtain ⟨⟨t101, t102⟩, A30, H⟩ := H
    replace H : (if t102 = true then (if t101.toList = a0.toList then (some (x4_1, true)) else (some (([] : List (S58)), false))) else (some (([] : List (S58)), false))) = some (r1, r2) := H
    have A3 := Aside0.mk A30
    clear A30
    by_cases c4 : t102 = true
    ·
     subst c4
     have H1 : (if t101.toList = a0.toList then (some (x4_1, true)) else (some (([] : List (S58)), false))) = some (r1, r2) := by rw [if_pos rfl] at H; exact H
     clear H
     have H := H1
     clear H1
     by_cases c5 : t101.toList = a0.toList
     ·
      rw [if_pos c5] at H
      have c5b0 : (t101.toList == a0.toList) = true := beq_iff_eq.mpr c5
      have c5b1 : (t101.toList != a0.toList) = false := bne_eq_false_iff_eq.mpr c5
      clear c5
      simp only [Option.some.injEq, Prod.mk.injEq] at H
      obtain ⟨rfl, rfl⟩ := H
      obtain ⟨Ao6, co6, eo6⟩ := Kd.R_slice HO_4.out
      subst eo6
      go_wp2_with (first | ((with_reducible refine gate_callee (f := 87) rfl ?_); refine goesL_ (some 53) rfl rfl Tryz.func87 (by kernel_rfl) rfl #[.slice Ao6 x4_1.length co6] rfl la_ ?_; (with_reducible refine (Ob.Gv.putTree.calls _ _ x4_1 t101 true _ ?side1 ?side2 A3.out (HTAB_.out _ (by first | exact Below.refl _ _ | (with_reducible exact Aside0.out (by assumption)) | repeat (first | (with_reducible exact Aside0.out (by assumption)) | apply below_alloc | apply pw_below_drewN | apply below_drew1 | (refine below_set ?_ ?_; rotate_left; (with_reducible exact Aside0.out (by assumption))))))).mono ?_); (case side1 => repeat (first | exact (Kd.R_reads' HO_4.out).2.2 | (with_reducible refine Kd.C_alloc ?_ _) | (with_reducible refine Kd.C_drewN ?_ _) | (with_reducible refine Kd.C_drew ?_))); (case side2 => exact (Kd.R_reads' HO_4.out).2.1); rintro e w7 ⟨rfl, hb⟩; refine ⟨_, rfl, ?_⟩; have n0_ := Aside0.mk (Kd.R_below o5_ hb); have n1_ := Aside0.mk (below_step bw_ hb); clear HO_4; clear HB; have HO_4 := n0_; have HB := n1_; clear n0_ n1_; (try clear hb); (try clear hb2); (try clear hk); (try clear hi)))
      go_ret2
      exact ⟨_, er_, o5_, bw_⟩
     ·
      rw [if_neg c5] at H
      have c5b0 : (t101.toList == a0.toList) = false := beq_eq_false_iff_ne.mpr c5
      have c5b1 : (t101.toList != a0.toList) = true := bne_iff_ne.mpr c5
      simp only [Option.some.injEq, Prod.mk.injEq] at H
      obtain ⟨rfl, rfl⟩ := H
      obtain ⟨Ao8, co8, eo8⟩ := Kd.R_slice HO_4.out
      subst eo8
      go_wp2_with (first | ((with_reducible refine gate_callee (f := 87) rfl ?_); refine goesL_ (some 53) rfl rfl Tryz.func87 (by kernel_rfl) rfl #[.slice Ao8 x4_1.length co8] rfl la_ ?_; (with_reducible refine (Ob.Gv.putTree.calls _ _ x4_1 t101 true _ ?side1 ?side2 A3.out (HTAB_.out _ (by first | exact Below.refl _ _ | (with_reducible exact Aside0.out (by assumption)) | repeat (first | (with_reducible exact Aside0.out (by assumption)) | apply below_alloc | apply pw_below_drewN | apply below_drew1 | (refine below_set ?_ ?_; rotate_left; (with_reducible exact Aside0.out (by assumption))))))).mono ?_); (case side1 => repeat (first | exact (Kd.R_reads' HO_4.out).2.2 | (with_reducible refine Kd.C_alloc ?_ _) | (with_reducible refine Kd.C_drewN ?_ _) | (with_reducible refine Kd.C_drew ?_))); (case side2 => exact (Kd.R_reads' HO_4.out).2.1); rintro e w9 ⟨rfl, hb⟩; refine ⟨_, rfl, ?_⟩; have n0_ := Aside0.mk (Kd.R_below o5_ hb); have n1_ := Aside0.mk (below_step bw_ hb); clear HO_4; clear HB; have HO_4 := n0_; have HB := n1_; clear n0_ n1_; (try clear hb); (try clear hb2); (try clear hk); (try clear hi)))
      go_ret2
      exact ⟨_, er_, kn_, bw_⟩
    ·
     replace c4 := Bool.eq_false_iff.mpr c4
     subst c4
     have H1 : (some (([] : List (S58)), false)) = some (r1, r2) := by rw [if_neg (show ¬ (false = true) by decide)] at H; exact H
     clear H
     have H := H1
     clear H1
     simp only [Option.some.injEq, Prod.mk.injEq] at H
     obtain ⟨rfl, rfl⟩ := H
     obtain ⟨Ao10, co10, eo10⟩ := Kd.R_slice HO_4.out
     subst eo10
     go_wp2_with (first | ((with_reducible refine gate_callee (f := 87) rfl ?_); refine goesL_ (some 53) rfl rfl Tryz.func87 (by kernel_rfl) rfl #[.slice Ao10 x4_1.length co10] rfl la_ ?_; (with_reducible refine (Ob.Gv.putTree.calls _ _ x4_1 t101 false _ ?side1 ?side2 A3.out (HTAB_.out _ (by first | exact Below.refl _ _ | (with_reducible exact Aside0.out (by assumption)) | repeat (first | (with_reducible exact Aside0.out (by assumption)) | apply below_alloc | apply pw_below_drewN | apply below_drew1 | (refine below_set ?_ ?_; rotate_left; (with_reducible exact Aside0.out (by assumption))))))).mono ?_); (case side1 => repeat (first | exact (Kd.R_reads' HO_4.out).2.2 | (with_reducible refine Kd.C_alloc ?_ _) | (with_reducible refine Kd.C_drewN ?_ _) | (with_reducible refine Kd.C_drew ?_))); (case side2 => exact (Kd.R_reads' HO_4.out).2.1); rintro e w11 ⟨rfl, hb⟩; refine ⟨_, rfl, ?_⟩; have n0_ := Aside0.mk (Kd.R_below o5_ hb); have n1_ := Aside0.mk (below_step bw_ hb); clear HO_4; clear HB; have HO_4 := n0_; have HB := n1_; clear n0_ n1_; (try clear hb); (try clear hb2); (try clear hk); (try clear hi)))
     go_ret2
     exact ⟨_, er_, kn_, bw_⟩
   ·
    rw [if_neg c2] at H
    have c2b0 : (x5_1.toList == ([] : List UInt8)) = false := beq_eq_false_iff_ne.mpr c2
    have c2b1 : (x5_1.toList != ([] : List UInt8)) = true := bne_iff_ne.mpr c2
    replace H := Option.bind_eq_some_iff.mp H
    obtain ⟨⟨t103, t104, t105⟩, A120, H⟩ := H
    replace H : (if t105 = true then (if (t103.size : Int) < 2 then (some (([] : List (S58)), false)) else (if 1 < (t103.size : Int) then (if (bt t103 1) = 32 then (if (t104.size : Int) < 64 then (some (([] : List (S58)), false)) else (if 0 < (t103.size : Int) then (if 2 ≤ (t103.size : Int) then (if 0 ≤ 64 then (if 64 ≤ (t104.size : Int) then (if x4_1.length < 3518437208883 then (object_GetTree.l0 k1 a0 (x4_1 ++ [(⟨wrap64 ((wrap64 (bt t103 0)) - 48), t103.extract 2 t103.size, t104.extract 0 64⟩ : S58)]) (t104.extract 64 t104.size)) else (none)) else (none)) else (none)) else (none)) else (none))) else (some (([] : List (S58)), false))) else (none))) else (some (([] : List (S58)), false))) = some (r1, r2) := H
    have A12 := Aside0.mk A120
    clear A120
    by_cases c13 : t105 = true
    ·
     subst c13
     have H1 : (if (t103.size : Int) < 2 then (some (([] : List (S58)), false)) else (if 1 < (t103.size : Int) then (if (bt t103 1) = 32 then (if (t104.size : Int) < 64 then (some (([] : List (S58)), false)) else (if 0 < (t103.size : Int) then (if 2 ≤ (t103.size : Int) then (if 0 ≤ 64 then (if 64 ≤ (t104.size : Int) then (if x4_1.length < 3518437208883 then (object_GetTree.l0 k1 a0 (x4_1 ++ [(⟨wrap64 ((wrap64 (bt t103 0)) - 48), t103.extract 2 t103.size, t104.extract 0 64⟩ : S58)]) (t104.extract 64 t104.size)) else (none)) else (none)) else (none)) else (none)) else (none))) else (some (([] : List (S58)), false))) else (none))) = some (r1, r2) := by rw [if_pos rfl] at H; exact H
     clear H
     have H := H1
     clear H1
     by_cases c14 : (t103.size : Int) < 2
     ·
      rw [if_pos c14] at H
      have c14b0 : decide ((t103.size : Int) < 2) = true := decide_eq_true c14
      have c14b1 : decide (t103.size < 2) = true := decide_eq_true (by omega)
      clear c14
      simp only [Option.some.injEq, Prod.mk.injEq] at H
      obtain ⟨rfl, rfl⟩ := H
      go_wp2_with (first | ((with_reducible refine gate_callee (f := 86) rfl ?_); refine goesL_ (some 16) rfl rfl Tryz.func86 (by kernel_rfl) rfl #[.string x5_1, .string (⟨#[0]⟩ : ByteArray)] rfl la_ ?_; (with_reducible refine (PObBase.strings_Cut.calls x5_1 (⟨#[0]⟩ : ByteArray) t103 t104 true _ A12.out).mono ?_); rintro e w' ⟨rfl, ⟨nd, rfl⟩⟩; refine ⟨_, rfl, ?_⟩))
      go_ret2
      exact ⟨_, er_, kn_, bw_⟩
     ·
      rw [if_neg c14] at H
      have c14b0 : decide ((t103.size : Int) < 2) = false := decide_eq_false c14
      have c14b1 : decide (t103.size < 2) = false := decide_eq_false (by omega)
      clear c14
      by_cases c15 : 1 < (t103.size : Int)
      ·
       rw [if_pos c15] at H
       have c15b0 : decide (1 < (t103.size : Int)) = true := decide_eq_true c15
       have c15b1 : decide (1 < t103.size) = true := decide_eq_true (by omega)
       clear c15
       by_cases c17 : (bt t103 1) = 32
       ·
        rw [if_pos c17] at H
        have c17b0 : ((bt t103 1) == 32) = true := beq_iff_eq.mpr c17
        have c17b1 : ((bt t103 1) != 32) = false := bne_eq_false_iff_eq.mpr c17
        clear c17
        by_cases c18 : (t104.size : Int) < 64
        ·
         rw [if_pos c18] at H
         have c18b0 : decide ((t104.size : Int) < 64) = true := decide_eq_true c18
         have c18b1 : decide (t104.size < 64) = true := decide_eq_true (by omega)
         clear c18
         simp only [Option.some.injEq, Prod.mk.injEq] at H
         obtain ⟨rfl, rfl⟩ := H
         go_wp2_with (first | ((with_reducible refine gate_callee (f := 86) rfl ?_); refine goesL_ (some 16) rfl rfl Tryz.func86 (by kernel_rfl) rfl #[.string x5_1, .string (⟨#[0]⟩ : ByteArray)] rfl la_ ?_; (with_reducible refine (PObBase.strings_Cut.calls x5_1 (⟨#[0]⟩ : ByteArray) t103 t104 true _ A12.out).mono ?_); rintro e w' ⟨rfl, ⟨nd, rfl⟩⟩; refine ⟨_, rfl, ?_⟩; have p16 : 0 ≤ (1 : Int) := (by omega); have q16 : 1 < t103.size := (by have : (1 : Int) < (t103.size : Int) := oda_; omega); have hx16 : ∀ h : 1 < t103.size, ((t103[1]'h).toNat : Int) = bt t103 1 := bt_at t103 1; clear p16; have qi16 : (1 < (t103.size : Int)) = True := eq_true (oda_); replace q16 := eq_true q16))
         go_ret2
         exact ⟨_, er_, kn_, bw_⟩
        ·
         rw [if_neg c18] at H
         have c18b0 : decide ((t104.size : Int) < 64) = false := decide_eq_false c18
         have c18b1 : decide (t104.size < 64) = false := decide_eq_false (by omega)
         clear c18
         by_cases c19 : 0 < (t103.size : Int)
         ·
          rw [if_pos c19] at H
          have c19b0 : decide (0 < (t103.size : Int)) = true := decide_eq_true c19
          have c19b1 : decide (0 < t103.size) = true := decide_eq_true (by omega)
          clear c19
          by_cases c21 : 2 ≤ (t103.size : Int)
          ·
           rw [if_pos c21] at H
           have c21b0 := eq_true c21
           have c21b1 : decide (2 ≤ (t103.size : Int)) = true := decide_eq_true c21
           clear c21
           by_cases c22 : 0 ≤ 64
           ·
            rw [if_pos c22] at H
            have c22b0 := eq_true c22
            have c22b1 : decide (0 ≤ 64) = true := decide_eq_true c22
            clear c22
            by_cases c23 : 64 ≤ (t104.size : Int)
            ·
             rw [if_pos c23] at H
             have c23b0 := eq_true c23
             have c23b1 : decide (64 ≤ (t104.size : Int)) = true := decide_eq_true c23
             clear c23
             by_cases c24 : x4_1.length < 3518437208883
             ·
              rw [if_pos c24] at H
              have LMc24 := Aside0.mk c24
              clear c24
              obtain ⟨y106, hy106⟩ : ∃ y_ : List (S58), y_ = (x4_1 ++ [(⟨wrap64 ((wrap64 (bt t103 0)) - 48), t103.extract 2 t103.size, t104.extract 0 64⟩ : S58)]) := ⟨_, rfl⟩
              replace H : (object_GetTree.l0 k1 a0 y106 (t104.extract 64 t104.size)) = some (r1, r2) := by first | (rw [hy106]; with_reducible exact H) | (have H2_ := (Option.bind_some _ _).symm.trans H; rw [hy106]; with_reducible exact H2_) | (have H2_ := (Option.bind_some _ _).symm.trans H; with_reducible exact H2_) | with_reducible exact H | (rw [hy106]; exact H) | exact H
              have Ny106 := Aside0.mk hy106
              clear hy106
              have c25b0 := eq_true (oda_ : 64 ≤ (t104.size : Int))
              have H' := Aside0.mk H
              clear H
              try go_wp2_with (first | ((with_reducible refine gate_callee (f := 86) rfl ?_); refine goesL_ (some 16) rfl rfl Tryz.func86 (by kernel_rfl) rfl #[.string x5_1, .string (⟨#[0]⟩ : ByteArray)] rfl la_ ?_; (with_reducible refine (PObBase.strings_Cut.calls x5_1 (⟨#[0]⟩ : ByteArray) t103 t104 true _ A12.out).mono ?_); rintro e w' ⟨rfl, ⟨nd, rfl⟩⟩; refine ⟨_, rfl, ?_⟩; have p16 : 0 ≤ (1 : Int) := (by omega); have q16 : 1 < t103.size := (by have : (1 : Int) < (t103.size : Int) := oda_; omega); have hx16 : ∀ h : 1 < t103.size, ((t103[1]'h).toNat : Int) = bt t103 1 := bt_at t103 1; clear p16; have qi16 : (1 < (t103.size : Int)) = True := eq_true (oda_); replace q16 := eq_true q16))
              (try (rw [drewN_self wr]; generalize hq_ : World.drewN wr _ = wr; have n0_ : Aside0 (Kd.R k58 58 wr w.heap.size (fun _ => True) u4 x4_1) := ⟨by rw [← hq_]; exact o5_⟩; have n1_ : Aside0 (Below w.heap.size w wr) := ⟨by rw [← hq_]; exact bw_⟩; clear HO_4 HB hq_; have HO_4 := n0_; have HB := n1_; clear n0_ n1_))
              have n0_ := Aside0.mk (Kd.R_drew HO_4.out)
              have n1_ := Aside0.mk (below_drew1 HB.out)
              clear HO_4
              clear HB
              have HO_4 := n0_
              have HB := n1_
              clear n0_ n1_
              have p20 : 0 ≤ (0 : Int) := (by omega)
              have q20 : 0 < t103.size := (by have : (0 : Int) < (t103.size : Int) := oda_; omega)
              have hx20 : ∀ h : 0 < t103.size, ((t103[0]'h).toNat : Int) = bt t103 0 := bt_at t103 0
              clear p20
              have qi20 : (0 < (t103.size : Int)) = True := eq_true (oda_)
              replace q20 := eq_true q20
              refine start_ (n := 13) (S := fun w' => True) (ds := []) (bl_ 13 0) (by kernel_rfl) rfl rfl trivial (fun hHeld => ?_); refine with_tabW object_GetTree.tab7 object_GetTree.bits7 (fun HT_ HW_ => ?_)
              generalize wr.drew = w26 at HO_4 HB hHeld ⊢
              refine pv_ 0 37 (bl_ 13 1) ?_
              refine pv_ 1 38 (bl_ 13 3) ?_
              refine pv_ 5 42 (bl_ 13 35) ?_
              refine pv_ 6 43 (bl_ 13 99) ?_
              refine pv_ 7 44 (bl_ 13 227) ?_
              refine pv_ 8 45 (bl_ 13 483) ?_
              refine tk_ 2 39 (bl_ 13 487) hHeld (hv := by intro w' _; go_simp; with_reducible rfl) (h := ?_)
              refine pv_ 3 40 (bl_ 13 495) ?_
              refine pv_ 4 41 (bl_ 13 511) ?_
              refine pv_ 9 46 (bl_ 13 1023) ?_
              refine one_ (i := 10) (N := some 47) (bl_ 13 2047) rfl rfl (one_of HT_.out (by kernel_rfl)) (by decide) (fun K hK => ?_)
              refine value_ (w1 := ?_) (v := ?_) (by rfl) rfl ?_ ?_
              rotate_left 2
              ·
               go_simp
               constructor
               · rfl
               · rfl
              refine hK.out _ _ trivial (fun hHeld => ?_)
              clear hK K
              refine norm_ (a' := ?_) ?_ ?_
              rotate_left
              ·
               show Act.put _ (some 47) _ = _
               simp only [ps_]
               rfl
              refine one_ (i := 11) (N := some 48) (bl_ 13 4095) rfl rfl (one_of HT_.out (by kernel_rfl)) (by decide) (fun K hK => ?_)
              refine Kd.R_append_step k58 (w0 := w) w.heap.size (by rfl) (.tmp 37) (.tmp 47) 59 58 (.agg #[(.int .i64 0), (.string ⟨#[]⟩), (.string ⟨#[]⟩)]) 40 rfl Tryz.underlying59 info58 rfl (by decide) (by omega) u4 x4_1 (⟨wrap64 ((wrap64 (bt t103 0)) - 48), t103.extract 2 t103.size, t104.extract 0 64⟩ : S58) [.int .i64 (wrap64 ((wrap64 (bt t103 0)) - 48)), .string (t103.extract 2 t103.size), .string (t104.extract 0 64)] (fun _ => True) (fun _ => False) rfl rfl ?aP (fun _ hk => hk.elim) ?aF ?aO ?aB ?aS ?aL ?_
              (case aP => exact k58_mkM _ _ _ (⟨wrap64 ((wrap64 (bt t103 0)) - 48), t103.extract 2 t103.size, t104.extract 0 64⟩ : S58))
              (case aB => exact bw_)
              (case aF => exact (fun _ _ => trivial))
              (case aO => exact o5_)
              (case aS => exact (below_size bw_))
              (case aL => have := LMc24.out; omega)
              intro v107 w27 ho hb hg hat
              rw [← Ny106.out] at ho
              have n0_ := Aside0.mk (hb)
              have n1_ := Aside0.mk (ho)
              clear HB
              clear HO_4
              have HB := n0_
              have HO108 := n1_
              clear n0_ n1_
              clear ho hb hg hat
              refine hK.out _ _ trivial (fun hHeld => ?_)
              clear hK K
              refine norm_ (a' := ?_) ?_ ?_
              rotate_left
              ·
               show Act.put _ (some 48) _ = _
               simp only [ps_]
               rfl
              refine pv_ 12 4 (bl_ 13 8191) ?_
              refine done_ (done_of HT_.out (by kernel_rfl)) ?_
              try go_wp2
              go_roundg k1
              case measure => have := HK1.out; omega
              case rel => exact ⟨(y106), (t104.extract 64 t104.size), sd_, H', ⟨by have := HK1.out; omega⟩, ⟨by (with_reducible repeat (first | apply Kd.R_alloc | apply Kd.R_drewN | apply Kd.R_drew)); exact HO108.out⟩, ⟨bw_⟩⟩
             ·
              rw [if_neg c24] at H
              exact absurd H (by simp)
            ·
             rw [if_neg c23] at H
             exact absurd H (by simp)
           ·
            rw [if_neg c22] at H
            exact absurd H (by simp)
          ·
           rw [if_neg c21] at H
           exact absurd H (by simp)
         ·
          rw [if_neg c19] at H
          exact absurd H (by simp)
       ·
        rw [if_neg c17] at H
        have c17b0 : ((bt t103 1) == 32) = false := beq_eq_false_iff_ne.mpr c17
        have c17b1 : ((bt t103 1) != 32) = true := bne_iff_ne.mpr c17
        simp only [Option.some.injEq, Prod.mk.injEq] at H
        obtain ⟨rfl, rfl⟩ := H
        go_wp2_with (first | ((with_reducible refine gate_callee (f := 86) rfl ?_); refine goesL_ (some 16) rfl rfl Tryz.func86 (by kernel_rfl) rfl #[.string x5_1, .string (⟨#[0]⟩ : ByteArray)] rfl la_ ?_; (with_reducible refine (PObBase.strings_Cut.calls x5_1 (⟨#[0]⟩ : ByteArray) t103 t104 true _ A12.out).mono ?_); rintro e w' ⟨rfl, ⟨nd, rfl⟩⟩; refine ⟨_, rfl, ?_⟩; have p16 : 0 ≤ (1 : Int) := (by omega); have q16 : 1 < t103.size := (by have : (1 : Int) < (t103.size : Int) := oda_; omega); have hx16 : ∀ h : 1 < t103.size, ((t103[1]'h).toNat : Int) = bt t103 1 := bt_at t103 1; clear p16; have qi16 : (1 < (t103.size : Int)) = True := eq_true (oda_); replace q16 := eq_true q16))
        go_ret2
        exact ⟨_, er_, kn_, bw_⟩
      ·
       rw [if_neg c15] at H
       exact absurd H (by simp)
    ·
     replace c13 := Bool.eq_false_iff.mpr c13
     subst c13
     have H1 : (some (([] : List (S58)), false)) = some (r1, r2) := by rw [if_neg (show ¬ (false = true) by decide)] at H; exact H
     clear H
     have H := H1
     clear H1
     simp only [Option.some.injEq, Prod.mk.injEq] at H
     obtain ⟨rfl, rfl⟩ := H
     go_wp2_with (first | ((with_reducible refine gate_callee (f := 86) rfl ?_); refine goesL_ (some 16) rfl rfl Tryz.func86 (by kernel_rfl) rfl #[.string x5_1, .string (⟨#[0]⟩ : ByteArray)] rfl la_ ?_; (with_reducible refine (PObBase.strings_Cut.calls x5_1 (⟨#[0]⟩ : ByteArray) t103 t104 false _ A12.out).mono ?_); rintro e w' ⟨rfl, ⟨nd, rfl⟩⟩; refine ⟨_, rfl, ?_⟩))
     go_ret2
     exact ⟨_, er_, kn_, bw_⟩
end Go.Proofs.YtehmhfbfgniekaaGreatDoor.PObGet

namespace Go.Proofs.YtehmhfbfgniekaaGreatDoor.Ob
set_option linter.unusedVariables false
set_option linter.unusedSimpArgs false
open Go Go.RowKit Go.Proofs.YtehmhfbfgniekaaGreatDoorW.PrintWords Go.Proofs.YtehmhfbfgniekaaGreatDoorW.PrintLast Go.Proofs.YtehmhfbfgniekaaGreatDoorW.PrintMore PObBase PObDoc
theorem head_nums {n : Int} (h0 : 1 ≤ n) (h1 : n ≤ 3) : L (strOfNums [(wrap64 (48 + n)) % 256, 32]) = [UInt8.ofNat (48 + n.toNat), 32] ∧ (strOfNums [(wrap64 (48 + n)) % 256, 32]).size = 2 := by
  rcases (show n = 1 ∨ n = 2 ∨ n = 3 by omega) with rfl | rfl | rfl <;> decide +kernel
theorem rputT_l0 (l : List It) (h : treeB l = true) : ∀ (d i : Nat) (b : ByteArray), l.length - i = d → i ≤ l.length → L b = itemsL (l.take i) → Ev (fun k => r04_PutTree.l0 k l b (i : Int)) (treeT l, true) := by
  have h256 := (treeB_parts h).2
  intro d
  induction d with
  | zero =>
    intro i b hi hil hb
    rw [List.take_of_length_le (by omega)] at hb
    have : b = treeT l := L_inj (by rw [hb, L_tree])
    subst this
    refine Ev.step (f := fun _ => some (treeT l, true)) (fun k => ?_) (Ev.now _)
    simp only [r04_PutTree.l0]
    rw [if_neg (by omega)]
  | succ d ih =>
    intro i b hi hil hb
    have hlt : i < l.length := by omega
    obtain ⟨x, hx⟩ : ∃ x, l[i]? = some x := ⟨_, List.getElem?_eq_getElem hlt⟩
    have hok := tree_items h x (List.mem_of_getElem? hx)
    obtain ⟨hn1, hn2⟩ := head_nums hok.1 hok.2.1
    have hs1 := (partB_size hok.2.2.1).2
    have hs2 := nm_size hok.2.2.2
    have hbs : b.size ≤ i * 137 := by
      rw [← L_len, hb]
      have := items_len (l := l.take i) (fun y hy => by
        have hy' := tree_items h y (List.mem_of_mem_take hy)
        exact ⟨hy'.1, hy'.2.1, (partB_size hy'.2.2.1).2, nm_size hy'.2.2.2⟩)
      rw [List.length_take] at this
      omega
    obtain ⟨q, hq⟩ : ∃ q, strOfNums [(wrap64 (48 + x.f0)) % 256, 32] = q := ⟨_, rfl⟩
    rw [hq] at hn1 hn2
    have s1 : (b ++ q).size = b.size + 2 := by rw [ByteArray.size_append, hn2]
    have s2 : ((b ++ q) ++ x.f1).size = b.size + 2 + x.f1.size := by rw [ByteArray.size_append, s1]
    have s3 : (((b ++ q) ++ x.f1) ++ (⟨#[0]⟩ : ByteArray)).size = b.size + 2 + x.f1.size + 1 := by rw [ByteArray.size_append, s2]; rfl
    refine Ev.step (fun k => ?_) (ih (i + 1) ((((b ++ q) ++ x.f1) ++ (⟨#[0]⟩ : ByteArray)) ++ x.f2) (by omega) (by omega) ?_)
    · simp only [r04_PutTree.l0]
      rw [if_pos (by omega), if_pos (by omega), rdI hx, Option.bind_some, hq, if_pos (by omega), if_pos (by rw [s1]; omega), if_pos (by rw [s2]; omega), if_pos (by rw [s3]; omega), wr1 hlt (by omega)]
    · rw [items_step hx, ← hb, L_item hok]
      rw [show L ((((b ++ q) ++ x.f1) ++ (⟨#[0]⟩ : ByteArray)) ++ x.f2) = L b ++ L q ++ L x.f1 ++ [0] ++ L x.f2 by simp [L, ByteArray.data_append], hn1]
      simp
theorem rputT_ev (l : List It) (hl : l.length ≤ 1000000000) (hsh : Ish l) : Ev (fun k => r04_PutTree.f k l) (putTree l) := by
  unfold r04_PutTree.f
  refine Ev.bind (rtree_ev l hl hsh) ?_
  by_cases h : treeB l = true
  · rw [putTree_right h]
    exact Ev.congr (fun k => if_pos h) (rputT_l0 l h l.length 0 _ rfl (Nat.zero_le _) rfl)
  · have e : putTree l = (⟨#[]⟩, false) := by rw [putTree, if_neg h]
    rw [e]
    exact Ev.congr (fun k => if_neg h) (Ev.now _)
def endT (s : ByteArray) (l : List It) : List It × Bool := if putTree l = (s, true) then (l, true) else ([], false)
theorem rgetT_found (s all : ByteArray) (hs : s.size ≤ 1000000000) (acc : List It) (m : Nat) (hlt : m < s.size) (h0 : (L s)[m]? = some 0) (hacc : acc.length ≤ 1000000000) (r : List It × Bool) (c : UInt8) (d : UInt8) (hc : (L s)[0]? = some c) (hd : (L s)[1]? = some d)
    (h : if 2 ≤ m ∧ m + 65 ≤ s.size ∧ d = 32 then Ev (fun k => r04_GetTree.l0 k (bs ((L s).drop (m + 65))) (acc ++ [⟨(c.toNat : Int) - 48, s.extract 2 m, s.extract (m + 1) (m + 65)⟩]) all) r else r = ([], false)) : Ev (fun k => r04_GetTree.l1 k s acc all (m : Int)) r := by
  have c1 : (m : Int) < (s.size : Int) := by omega
  have c2 : (0 : Int) ≤ (m : Int) := by omega
  have w65 : wrap64 ((m : Int) + 65) = ((m + 65 : Nat) : Int) := by rw [w64 _ (by omega) (by omega)]; omega
  have w1 : wrap64 ((m : Int) + 1) = ((m + 1 : Nat) : Int) := by rw [w64 _ (by omega) (by omega)]; omega
  have hcl : c.toNat < 256 := c.toNat_lt
  have wc : wrap64 ((wrap64 (c.toNat : Int)) - 48) = (c.toNat : Int) - 48 := by
    rw [w64 (c.toNat : Int) (by omega) (by omega)]; unfold wrap64; omega
  have b0 := bt_get hc 0 rfl
  have b1 := bt_get hd 1 rfl
  have bm := bt_get h0 (m : Int) rfl
  by_cases g2 : 2 ≤ m
  · by_cases g65 : m + 65 ≤ s.size
    · by_cases g32 : d = 32
      · rw [if_pos ⟨g2, g65, g32⟩] at h
        refine Ev.step (fun k => ?_) h
        have e32 : (d.toNat : Int) = 32 := by rw [g32]; rfl
        have k1 : ¬ (m : Int) < 2 := by omega
        have k2 : ¬ ((m + 65 : Nat) : Int) > (s.size : Int) := by omega
        have k3 : (1 : Int) < (s.size : Int) := by omega
        have k4 : (0 : Int) < (s.size : Int) := by omega
        have k5 : (2 : Int) ≤ (m : Int) := by omega
        have k6 : (m : Int) ≤ (s.size : Int) := by omega
        have k7 : (0 : Int) ≤ ((m + 1 : Nat) : Int) := by omega
        have k8 : ((m + 1 : Nat) : Int) ≤ ((m + 65 : Nat) : Int) := by omega
        have k9 : ((m + 65 : Nat) : Int) ≤ (s.size : Int) := by omega
        have k10 : acc.length < 3518437208883 := by omega
        have k11 : (0 : Int) ≤ ((m + 65 : Nat) : Int) := by omega
        simp only [r04_GetTree.l1]
        rw [if_pos c1, if_pos c2, bm, if_pos (show ((0 : UInt8).toNat : Int) = 0 from rfl), if_neg k1, w65, if_neg k2, if_pos k3, b1, if_pos e32, if_pos k4, if_pos k5, if_pos k6, w1, if_pos k7, if_pos k8, if_pos k9, if_pos k10, if_pos k11, b0, wc]
        simp only [Int.toNat_natCast, ext_drop]
      · rw [if_neg (fun h => g32 h.2.2)] at h
        subst h
        refine Ev.step (f := fun _ => some ([], false)) (fun k => ?_) (Ev.now _)
        have e32 : ¬ (d.toNat : Int) = 32 := fun e => g32 (UInt8.toNat_inj.1 (by have : (32 : UInt8).toNat = 32 := rfl; omega))
        simp only [r04_GetTree.l1]
        rw [if_pos c1, if_pos c2, bm, if_pos (show ((0 : UInt8).toNat : Int) = 0 from rfl), if_neg (by omega), w65, if_neg (by omega), if_pos (by omega), b1, if_neg e32]
    · rw [if_neg (fun h => g65 h.2.1)] at h
      subst h
      refine Ev.step (f := fun _ => some ([], false)) (fun k => ?_) (Ev.now _)
      simp only [r04_GetTree.l1]
      rw [if_pos c1, if_pos c2, bm, if_pos (show ((0 : UInt8).toNat : Int) = 0 from rfl), if_neg (by omega), w65, if_pos (by omega)]
  · rw [if_neg (fun h => g2 h.1)] at h
    subst h
    refine Ev.step (f := fun _ => some ([], false)) (fun k => ?_) (Ev.now _)
    simp only [r04_GetTree.l1]
    rw [if_pos c1, if_pos c2, bm, if_pos (show ((0 : UInt8).toNat : Int) = 0 from rfl), if_pos (by omega)]
theorem rgetT_none (s all : ByteArray) (hs : s.size ≤ 1000000000) (acc : List It) (m : Nat) (h : m = s.size) : Ev (fun k => r04_GetTree.l1 k s acc all (m : Int)) ([], false) := by
  subst h
  have w65 : wrap64 ((s.size : Int) + 65) = ((s.size + 65 : Nat) : Int) := by rw [w64 _ (by omega) (by omega)]; omega
  refine Ev.step (f := fun _ => some ([], false)) (fun k => ?_) (Ev.now _)
  simp only [r04_GetTree.l1]
  rw [if_neg (Int.lt_irrefl _)]
  by_cases h2 : (s.size : Int) < 2
  · rw [if_pos h2]
  · rw [if_neg h2, w65, if_pos (by omega)]
theorem rgetT_scan (s all : ByteArray) (hs : s.size ≤ 1000000000) (acc : List It) (m : Nat) (hm : m ≤ s.size) (hno : ∀ i u, i < m → (L s)[i]? = some u → u ≠ 0) (r : List It × Bool) (h : Ev (fun k => r04_GetTree.l1 k s acc all (m : Int)) r) : ∀ (d j : Nat), m - j = d → j ≤ m → Ev (fun k => r04_GetTree.l1 k s acc all (j : Int)) r := by
  intro d
  induction d with
  | zero =>
    intro j hd hj
    obtain rfl : j = m := by omega
    exact h
  | succ d ih =>
    intro j hd hj
    obtain ⟨u, hu⟩ : ∃ u, (L s)[j]? = some u := ⟨_, List.getElem?_eq_getElem (by rw [L_len]; omega)⟩
    have hn : ¬ (u.toNat : Int) = 0 := by
      intro e
      refine hno j u (by omega) hu (UInt8.toNat_inj.1 ?_)
      have : (0 : UInt8).toNat = 0 := rfl
      omega
    have hw := wr1 (i := j) (n := s.size) (by omega) (by omega)
    refine Ev.step (fun k => ?_) (ih (j + 1) (by omega) (by omega))
    simp only [r04_GetTree.l1]
    rw [if_pos (by omega), if_pos (by omega), bt_get hu _ rfl, if_neg hn, hw]
theorem rgetT_short (s all : ByteArray) (hs : s.size ≤ 1000000000) (acc : List It) (m : Nat) (hlt : m < s.size) (h0 : (L s)[m]? = some 0) (h2 : m < 2) : Ev (fun k => r04_GetTree.l1 k s acc all (m : Int)) ([], false) := by
  have bm := bt_get h0 (m : Int) rfl
  refine Ev.step (f := fun _ => some ([], false)) (fun k => ?_) (Ev.now _)
  simp only [r04_GetTree.l1]
  rw [if_pos (by omega), if_pos (by omega), bm, if_pos (show ((0 : UInt8).toNat : Int) = 0 from rfl), if_pos (by omega)]
theorem rgetT_fin (s all : ByteArray) (h : s.size = 0) (acc : List It) (hl : acc.length ≤ 1000000000) (hsh : Ish acc) : Ev (fun k => r04_GetTree.l0 k s acc all) (endT all acc) := by
  refine Ev.step (f := fun k => (r04_PutTree.f k acc).bind fun t => if t.2 = true then (if t.1.toList = all.toList then some (acc, true) else some ([], false)) else some ([], false)) (fun k => ?_) (Ev.bind (rputT_ev acc hl hsh) ?_)
  · simp only [r04_GetTree.l0]
    rw [if_neg (by omega)]
  · refine Ev.congr (f := fun _ => some (endT all acc)) (fun k => ?_) (Ev.now _)
    unfold endT
    by_cases h1 : (putTree acc).2 = true
    · rw [if_pos h1]
      by_cases h2 : (putTree acc).1 = all
      · rw [if_pos ((toL_inj _ _).2 h2), if_pos (Prod.ext h2 h1)]
      · rw [if_neg (fun e => h2 ((toL_inj _ _).1 e)), if_neg (fun e => h2 (by rw [e]))]
    · rw [if_neg h1, if_neg (fun e => h1 (by rw [e]))]
theorem rgetT_l0 (all : ByteArray) : ∀ (n : Nat) (s : ByteArray) (acc : List It), s.size ≤ n → s.size ≤ 500000000 → acc.length + s.size ≤ 1000000000 → Ish acc → Ev (fun k => r04_GetTree.l0 k s acc all) (match parseT n (L s) with | some r => endT all (acc ++ r) | none => ([], false)) := by
  intro n
  induction n with
  | zero =>
    intro s acc hn hs ha hsh
    have h0 : s.size = 0 := by omega
    have : L s = [] := List.length_eq_zero_iff.1 (by rw [L_len]; exact h0)
    rw [this, parseT, if_pos rfl]
    simp only [List.append_nil]
    exact rgetT_fin s all h0 acc (by omega) hsh
  | succ n ih =>
    intro s acc hn hs ha hsh
    by_cases h0 : s.size = 0
    · have : L s = [] := List.length_eq_zero_iff.1 (by rw [L_len]; exact h0)
      rw [this, parseT, if_pos rfl]
      simp only [List.append_nil]
      exact rgetT_fin s all h0 acc (by omega) hsh
    · have hne : L s ≠ [] := fun h => h0 (by rw [← L_len, h]; rfl)
      obtain ⟨k1, k2⟩ := cutB_spec 0 (L s)
      have hlen := (cutB_len 0 (L s)).1
      obtain ⟨p, hp⟩ : ∃ p, (cutB 0 (L s)).1 = p := ⟨_, rfl⟩
      obtain ⟨z, hz⟩ : ∃ z, (cutB 0 (L s)).2.1 = z := ⟨_, rfl⟩
      obtain ⟨f, hf⟩ : ∃ f, (cutB 0 (L s)).2.2 = f := ⟨_, rfl⟩
      rw [parseT, if_neg hne, hp, hz, hf]
      rw [hp] at k1 k2 hlen
      rw [hz] at k2 hlen
      rw [hf] at k2
      rw [L_len] at hlen
      have hno : ∀ i u, i < p.length → (L s)[i]? = some u → u ≠ 0 := by
        intro i u hi hu
        refine k1 u (List.mem_of_getElem? (i := i) ?_)
        rcases k2 with ⟨_, g⟩ | ⟨_, g, _⟩
        · rw [g, List.getElem?_append_left hi] at hu; exact hu
        · rw [g] at hu; exact hu
      refine Ev.step (f := fun k => r04_GetTree.l1 k s acc all ((0 : Nat) : Int)) (fun k => ?_) (rgetT_scan s all (by omega) acc p.length (by omega) hno _ ?_ p.length 0 rfl (Nat.zero_le _))
      · simp only [r04_GetTree.l0]
        rw [if_pos (by omega)]; rfl
      rcases k2 with ⟨rfl, g⟩ | ⟨rfl, g, _⟩
      · have hm0 : (L s)[p.length]? = some 0 := by
          rw [g, List.getElem?_append_right (Nat.le_refl _), Nat.sub_self]; rfl
        have hmlt : p.length < s.size := by
          have := (List.getElem?_eq_some_iff.1 hm0).1
          rw [L_len] at this; exact this
        have hsz : s.size = p.length + 1 + z.length := by
          rw [← L_len, g, List.length_append, List.length_cons]; omega
        by_cases h2 : 2 ≤ p.length
        · obtain ⟨c, hc⟩ : ∃ c, p[0]? = some c := ⟨_, List.getElem?_eq_getElem (by omega)⟩
          obtain ⟨d, hd⟩ : ∃ d, p[1]? = some d := ⟨_, List.getElem?_eq_getElem (by omega)⟩
          have hc' : (L s)[0]? = some c := by rw [g, List.getElem?_append_left (by omega)]; exact hc
          have hd' : (L s)[1]? = some d := by rw [g, List.getElem?_append_left (by omega)]; exact hd
          refine rgetT_found s all (by omega) acc p.length hmlt hm0 (by omega) _ c d hc' hd' ?_
          by_cases hcond : 2 ≤ p.length ∧ p.length + 65 ≤ s.size ∧ d = 32
          · have hz64 : 64 ≤ z.length := by omega
            have hcond2 : true = true ∧ 2 ≤ p.length ∧ p[1]? = some 32 ∧ 64 ≤ z.length := ⟨rfl, h2, by rw [hd, hcond.2.2], hz64⟩
            rw [if_pos hcond, if_pos hcond2]
            have e1 : s.extract 2 p.length = bs (p.drop 2) := by
              apply L_inj
              rw [L_bs, L_ext, g, List.drop_append_of_le_length h2, List.take_append_of_le_length (by rw [List.length_drop]; exact Nat.le_refl _), List.take_of_length_le (by rw [List.length_drop]; exact Nat.le_refl _)]
            have hdz : (L s).drop (p.length + 1) = z := by rw [g, ← List.drop_drop, List.drop_left]; rfl
            have e2 : s.extract (p.length + 1) (p.length + 65) = bs (z.take 64) := by
              apply L_inj
              rw [L_bs, L_ext, hdz, show p.length + 65 - (p.length + 1) = 64 by omega]
            have e3 : (L s).drop (p.length + 65) = z.drop 64 := by
              rw [← hdz, List.drop_drop]
            rw [e1, e2, e3, hc]
            have hi := ih (bs (z.drop 64)) (acc ++ [⟨(c.toNat : Int) - 48, bs (p.drop 2), bs (z.take 64)⟩]) (by rw [bs_size, List.length_drop]; omega) (by rw [bs_size, List.length_drop]; omega) (by rw [bs_size, List.length_drop, List.length_append]; simp; omega) (fun y hy => by
              rcases List.mem_append.1 hy with hy | hy
              · exact hsh y hy
              · obtain rfl := List.mem_singleton.1 hy
                exact ⟨by rw [bs_size, List.length_drop]; omega, by rw [bs_size, List.length_take]; omega⟩)
            rw [L_bs] at hi
            cases hr : parseT n (z.drop 64) with
            | none => rw [hr] at hi; exact hi
            | some q =>
              rw [hr] at hi
              simp only [List.append_assoc, List.singleton_append] at hi
              exact hi
          · rw [if_neg hcond, if_neg (fun h => hcond ⟨h2, by have := h.2.2.2; omega, by have := h.2.2.1; rw [hd] at this; exact Option.some.inj this⟩)]
        · rw [if_neg (fun h => h2 h.2.1)]
          exact rgetT_short s all (by omega) acc p.length hmlt hm0 (by omega)
      · rw [if_neg (fun h => by cases h.1)]
        exact rgetT_none s all (by omega) acc p.length (by rw [← L_len, g])
theorem rgetT_ev (s : ByteArray) (hs : s.size ≤ 500000000) : Ev (fun k => r04_GetTree.f k s) (getTree s) := by
  have h := rgetT_l0 s s.size s [] (Nat.le_refl _) hs (by simp; omega) (fun x hx => by cases hx)
  unfold r04_GetTree.f
  have key : (match parseT s.size (L s) with | some r => endT s ([] ++ r) | none => ([], false)) = getTree s := by
    unfold getTree
    cases parseT s.size (L s) with
    | none => rfl
    | some r => rfl
  rw [key] at h
  exact h
end Go.Proofs.YtehmhfbfgniekaaGreatDoor.Ob

namespace Go.Proofs.YtehmhfbfgniekaaGreatDoor.Ob
set_option linter.unusedVariables false
set_option linter.unusedSimpArgs false
open Go Go.RowKit Go.Proofs.YtehmhfbfgniekaaGreatDoorW.PrintWords Go.Proofs.YtehmhfbfgniekaaGreatDoorW.PrintLast Go.Proofs.YtehmhfbfgniekaaGreatDoorW.PrintMore PObBase PObDoc PObGet
theorem getT_fin (all : ByteArray) (acc : List It) (hl : acc.length ≤ 1000000000) (hsh : Ish acc) : ((Gv.putTree.f acc).bind fun t => if t.2 = true then (if t.1.toList = all.toList then some (acc, true) else some ([], false)) else some ([], false)) = some (endT all acc) := by
  rw [Gv.putTree.f_eq hsh hl, Option.bind_some]
  unfold endT
  by_cases h1 : (putTree acc).2 = true
  · rw [if_pos h1]
    by_cases h2 : (putTree acc).1 = all
    · rw [if_pos ((toL_inj _ _).2 h2), if_pos (Prod.ext h2 h1)]
    · rw [if_neg (fun e => h2 ((toL_inj _ _).1 e)), if_neg (fun e => h2 (by rw [e]))]
  · rw [if_neg h1, if_neg (fun e => h1 (by rw [e]))]
theorem getT_l0 (all : ByteArray) : ∀ (n : Nat) (s : List UInt8) (acc : List It), s.length ≤ n → s.length ≤ 500000000 → acc.length + s.length ≤ 1000000000 → Ish acc → Ev (fun k => object_GetTree.l0 k all acc (bs s)) (match parseT n s with | some r => endT all (acc ++ r) | none => ([], false)) := by
  intro n
  induction n with
  | zero =>
    intro s acc hn hs ha hsh
    have : s = [] := List.length_eq_zero_iff.1 (by omega)
    subst this
    rw [parseT, if_pos rfl]
    simp only [List.append_nil]
    refine Ev.step (f := fun _ => some (endT all acc)) (fun k => ?_) (Ev.now _)
    simp only [object_GetTree.l0]
    rw [if_pos (by rw [toL, L_bs])]
    exact getT_fin all acc (by omega) hsh
  | succ n ih =>
    intro s acc hn hs ha hsh
    by_cases h0 : s = []
    · subst h0
      rw [parseT, if_pos rfl]
      simp only [List.append_nil]
      refine Ev.step (f := fun _ => some (endT all acc)) (fun k => ?_) (Ev.now _)
      simp only [object_GetTree.l0]
      rw [if_pos (by rw [toL, L_bs])]
      exact getT_fin all acc (by omega) hsh
    · have hcut := cut_eq (bs s) 0 (by rw [bs_size]; omega)
      rw [L_bs] at hcut
      have hlen := (cutB_len 0 s).1
      have hlt := (cutB_len 0 s).2 h0
      obtain ⟨p, hp⟩ : ∃ p, (cutB 0 s).1 = p := ⟨_, rfl⟩
      obtain ⟨z, hz⟩ : ∃ z, (cutB 0 s).2.1 = z := ⟨_, rfl⟩
      obtain ⟨f, hf⟩ : ∃ f, (cutB 0 s).2.2 = f := ⟨_, rfl⟩
      rw [parseT, if_neg h0, hp, hz, hf]
      rw [hp, hz, hf] at hcut
      rw [hp, hz] at hlen
      rw [hz] at hlt
      have hne : ¬ (bs s).toList = ([] : List UInt8) := by rw [toL, L_bs]; exact h0
      have hps : (bs p).size = p.length := bs_size p
      have hzs : (bs z).size = z.length := bs_size z
      cases f with
      | false =>
        rw [if_neg (fun h => by cases h.1)]
        refine Ev.step (f := fun _ => some ([], false)) (fun k => ?_) (Ev.now _)
        simp only [object_GetTree.l0]
        rw [if_neg hne, hcut, Option.bind_some, if_neg (by simp)]
      | true =>
        by_cases h2 : 2 ≤ p.length
        · obtain ⟨c, hc⟩ : ∃ c, p[0]? = some c := ⟨_, List.getElem?_eq_getElem (by omega)⟩
          obtain ⟨d, hd⟩ : ∃ d, p[1]? = some d := ⟨_, List.getElem?_eq_getElem (by omega)⟩
          have b0 := bt_get (s := bs p) (i := 0) (u := c) (by rw [L_bs]; exact hc) 0 rfl
          have b1 := bt_get (s := bs p) (i := 1) (u := d) (by rw [L_bs]; exact hd) 1 rfl
          have hcl : c.toNat < 256 := c.toNat_lt
          have wc : wrap64 ((wrap64 (c.toNat : Int)) - 48) = (c.toNat : Int) - 48 := by
            rw [w64 (c.toNat : Int) (by omega) (by omega)]; unfold wrap64; omega
          by_cases g32 : d = 32
          · have e32 : (d.toNat : Int) = 32 := by rw [g32]; rfl
            by_cases h64 : 64 ≤ z.length
            · have k1 : ¬ ((bs p).size : Int) < 2 := by omega
              have k2 : (1 : Int) < ((bs p).size : Int) := by omega
              have k3 : ¬ ((bs z).size : Int) < 64 := by omega
              have k4 : (0 : Int) < ((bs p).size : Int) := by omega
              have k5 : (2 : Int) ≤ ((bs p).size : Int) := by omega
              have k6 : (64 : Int) ≤ ((bs z).size : Int) := by omega
              have k7 : acc.length < 3518437208883 := by omega
              have k8 : (0 : Int) ≤ 64 := by omega
              rw [if_pos ⟨rfl, h2, by rw [hd, g32], h64⟩]
              have x1 : (bs p).extract 2 (bs p).size = bs (p.drop 2) := by rw [ext_drop, L_bs]
              have x2 : (bs z).extract 0 64 = bs (z.take 64) := by rw [ext_take, L_bs]
              have x3 : (bs z).extract 64 (bs z).size = bs (z.drop 64) := by rw [ext_drop, L_bs]
              have hi := ih (z.drop 64) (acc ++ [⟨(c.toNat : Int) - 48, bs (p.drop 2), bs (z.take 64)⟩]) (by rw [List.length_drop]; omega) (by rw [List.length_drop]; omega) (by rw [List.length_drop, List.length_append]; simp; omega) (fun y hy => by
                rcases List.mem_append.1 hy with hy | hy
                · exact hsh y hy
                · obtain rfl := List.mem_singleton.1 hy
                  exact ⟨by rw [bs_size, List.length_drop]; omega, by rw [bs_size, List.length_take]; omega⟩)
              refine Ev.step (fun k => ?_) (?_ : Ev (fun k => object_GetTree.l0 k all (acc ++ [⟨(c.toNat : Int) - 48, bs (p.drop 2), bs (z.take 64)⟩]) (bs (z.drop 64))) _)
              · simp only [object_GetTree.l0]
                rw [if_neg hne, hcut, Option.bind_some]
                simp only [if_true, if_neg k1, if_pos k2, b1, if_pos e32, if_neg k3, if_pos k4, if_pos k5, if_pos k6, if_pos k7, b0, wc, x1, x2, x3]
                rw [if_pos (by decide)]
              · rw [hc]
                cases hr : parseT n (z.drop 64) with
                | none => rw [hr] at hi; exact hi
                | some q =>
                  rw [hr] at hi
                  simp only [List.append_assoc, List.singleton_append] at hi
                  exact hi
            · rw [if_neg (fun h => h64 h.2.2.2)]
              refine Ev.step (f := fun _ => some ([], false)) (fun k => ?_) (Ev.now _)
              simp only [object_GetTree.l0]
              have k1 : ¬ ((bs p).size : Int) < 2 := by omega
              have k2 : (1 : Int) < ((bs p).size : Int) := by omega
              have k3 : ((bs z).size : Int) < 64 := by omega
              rw [if_neg hne, hcut, Option.bind_some]
              simp only [if_true, if_neg k1, if_pos k2, b1, if_pos e32, if_pos k3]
          · rw [if_neg (fun h => g32 (by have := h.2.2.1; rw [hd] at this; exact Option.some.inj this))]
            have e32 : ¬ (d.toNat : Int) = 32 := fun e => g32 (UInt8.toNat_inj.1 (by have : (32 : UInt8).toNat = 32 := rfl; omega))
            refine Ev.step (f := fun _ => some ([], false)) (fun k => ?_) (Ev.now _)
            simp only [object_GetTree.l0]
            have k1 : ¬ ((bs p).size : Int) < 2 := by omega
            have k2 : (1 : Int) < ((bs p).size : Int) := by omega
            rw [if_neg hne, hcut, Option.bind_some]
            simp only [if_true, if_neg k1, if_pos k2, b1, if_neg e32]
        · rw [if_neg (fun h => h2 h.2.1)]
          refine Ev.step (f := fun _ => some ([], false)) (fun k => ?_) (Ev.now _)
          simp only [object_GetTree.l0]
          have k1 : ((bs p).size : Int) < 2 := by omega
          rw [if_neg hne, hcut, Option.bind_some]
          simp only [if_true, if_pos k1]
theorem getT_ev (s : ByteArray) (hs : s.size ≤ 500000000) : Ev (fun k => object_GetTree.f k s) (getTree s) := by
  have h := getT_l0 s s.size (L s) [] (by rw [L_len]; exact Nat.le_refl _) (by rw [L_len]; exact hs) (by rw [L_len]; simp; omega) (fun x hx => by cases hx)
  rw [bs_L] at h
  unfold object_GetTree.f
  have key : (match parseT s.size (L s) with | some r => endT s ([] ++ r) | none => ([], false)) = getTree s := by
    unfold getTree
    cases parseT s.size (L s) with
    | none => rfl
    | some r => rfl
  rw [key] at h
  exact h
end Go.Proofs.YtehmhfbfgniekaaGreatDoor.Ob
