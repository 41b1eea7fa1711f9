/- Joined texts: ObHead, PObjectTreesx0, PObjectTreesx1, ObTreesLaw. No condition but what stands in each. -/
import Derived.Test.YtefefhhaopjccaaGreatDoorZObjectTreesJ20
import Derived.Lib.SlBytesConst
import Derived.Test.YtefefhhaopjccaaGreatDoorProg
import Derived.Below
import Derived.Deep.Draws
import Derived.Deep.AppendLies
import Derived.Maps.AppendAt
import Derived.OwnWalk
import Derived.Laws.BytesArg
import Derived.Laws.MakeOwn
import Derived.Laws.OwnMore
import Derived.Deep.OwnRows
import Derived.Tactics
import Derived.Lib.ConvBytes
import Derived.Laws.Slices
import Derived.WalkKit
import Derived.KernelRfl
import Derived.RowKit3
import Derived.Deep.LoopGhost
import Derived.Deep.QuietTactic
import Derived.BigQuiet
import Derived.WideLaws
import Derived.Deep.DeepCutAuto
import Derived.Deep.CutBlock
import Derived.Deep.RegionHeld3
import Derived.Laws.Rows
import Derived.Lib.AppendStr
import Derived.ArgAppend
import Derived.Laws.IdiomCopy
import Derived.OrdersHeld
import Derived.Laws.BitsLemmas
import Derived.RowKit
import Derived.Test.YtefefhhaopjccaaGreatDoorZObjectTreesJ15
import Derived.Test.YtefefhhaopjccaaGreatDoorZObjectTreesJ0
import Derived.Test.YtefefhhaopjccaaGreatDoorZObjectTreesJ2
import Derived.Test.YtefefhhaopjccaaGreatDoorZObjectTreesJ3
import Derived.Test.YtefefhhaopjccaaGreatDoorZObjectTreesJ13
namespace Go.Proofs.YtefefhhaopjccaaGreatDoor.Ob
set_option linter.unusedVariables false
set_option linter.unusedSimpArgs false
set_option maxRecDepth 100000
open Go Go.RowKit Go.Proofs.YtefefhhaopjccaaGreatDoorW.PrintWords Go.Proofs.YtefefhhaopjccaaGreatDoorW.PrintLast Go.Proofs.YtefefhhaopjccaaGreatDoorW.PrintMore PObBase
theorem new_C {α : Type} (d : Kd α) (e : TypeId) (W : World) {xs : List α} {inner : List Value} (hr : Reps (d.K (W.alloc (.cells inner.toArray e))) d.sz xs inner) (hm : xs.length ≤ 9223372036854775807) : d.C (W.alloc (.cells inner.toArray e)) (some ⟨W.heap.size, 0, none⟩) xs.length xs := by
  obtain ⟨A, c, hv, _, h⟩ := (OwnRow.lit W W.heap.size hr (Nat.le_refl _) hm : OwnRow (d.K (W.alloc (.cells inner.toArray e))) e d.sz _ _ _ _).reads
  injection hv with h1 h2 h3
  rw [h1]; exact h
theorem name0_walk (w : World) : Calls Tryz.prog 35 #[.slice (some ⟨w.heap.size, 0, none⟩) 7 7] (w.alloc (.cells #[.int .u8 98, .int .u8 108, .int .u8 111, .int .u8 98, .int .u8 32, .int .u8 48, .int .u8 10] 5 (7, 8))) fun e w' => e = .returned (.string (nameS blob0)) ∧ Below w.heap.size w w' := by
  have hC : (Kd.int .u8).C (w.alloc (.cells #[.int .u8 98, .int .u8 108, .int .u8 111, .int .u8 98, .int .u8 32, .int .u8 48, .int .u8 10] 5 (7, 8))) (some ⟨w.heap.size, 0, none⟩) 7 [98, 108, 111, 98, 32, 48, 10] := by
    refine Kd.C_of_reads (enc := Value.int .u8) (d := (0 : Int)) ⟨rfl, by decide, fun _ => ⟨_, rfl, fun j hj => ?_⟩⟩
    have hb : (w.alloc (.cells #[.int .u8 98, .int .u8 108, .int .u8 111, .int .u8 98, .int .u8 32, .int .u8 48, .int .u8 10] 5 (7, 8))).heap[w.heap.size]? = some (.cells #[.int .u8 98, .int .u8 108, .int .u8 111, .int .u8 98, .int .u8 32, .int .u8 48, .int .u8 10] 5 (7, 8)) := by
      show (w.heap.push _)[w.heap.size]? = _
      simp
    rw [add_at, Nat.zero_add]
    unfold World.cell?
    rw [hb]
    rcases (show j = 0 ∨ j = 1 ∨ j = 2 ∨ j = 3 ∨ j = 4 ∨ j = 5 ∨ j = 6 by omega) with rfl | rfl | rfl | rfl | rfl | rfl | rfl <;> rfl
  refine (Dg.rname_calls _ 7 [98, 108, 111, 98, 32, 48, 10] _ hC (Nat.le_refl _) (by decide) (by decide)).mono ?_
  rintro e w' ⟨rfl, hb⟩
  have h1 : Below w.heap.size w (w.alloc (.cells #[.int .u8 98, .int .u8 108, .int .u8 111, .int .u8 98, .int .u8 32, .int .u8 48, .int .u8 10] 5 (7, 8))) := (Below.refl _ _).alloc (Nat.le_refl _) _
  exact ⟨rfl, h1.trans (hb.mono h1.size)⟩
theorem two_items (x y : It) (hx : x.f2.size ≤ 100 ∧ x.f1.size ≤ 100) (hy : y.f2.size ≤ 100 ∧ y.f1.size ≤ 100) (W : World) (ht : Tbl W) : Calls Tryz.prog 19 #[.slice (some ⟨W.heap.size, 0, none⟩) 2 2] (W.alloc (.cells #[.int .i64 x.f0, .string x.f1, .string x.f2, .int .i64 y.f0, .string y.f1, .string y.f2] 54)) fun e w' => e = .returned (.tuple #[.string (putTree [x, y]).1, .bool (putTree [x, y]).2]) ∧ Below W.heap.size W w' := by
  have hb : Below W.heap.size W (W.alloc (.cells #[.int .i64 x.f0, .string x.f1, .string x.f2, .int .i64 y.f0, .string y.f1, .string y.f2] 54)) := (Below.refl _ _).alloc (Nat.le_refl _) _
  have hC := new_C k54 54 W (xs := [x, y]) (((Reps.none _ _).snoc (k54_mk _ x) rfl).snoc (k54_mk _ y) rfl) (by simp)
  refine (putTree_walk _ 2 2 [x, y] _ hC rfl (Nat.le_refl _) (fun z hz => ?_) (by decide) (ht.below hb)).mono ?_
  · rcases List.mem_cons.1 hz with rfl | hz
    · exact ⟨by omega, by omega⟩
    · obtain rfl := List.mem_singleton.1 hz; exact ⟨by omega, by omega⟩
  · rintro e w' ⟨rfl, hb'⟩
    exact ⟨rfl, hb.trans (hb'.mono hb.size)⟩
set_option maxHeartbeats 64000000 in
theorem head_walk (w : World) (ht : Tbl w) : Calls Tryz.prog 10 #[] w fun e w' => e = .returned (.bool true) ∧ Below w.heap.size w w' := by
  have HTB : As (∀ w', Below w.heap.size w w' → Tbl w') := ⟨fun w' hb => ht.below hb⟩
  have hI := id_walk 1 ⟨#[]⟩ (by decide) w ht
  rw [id_0] at hI
  have hN := name0_walk
  have hnm := nm_nameS blob0
  obtain ⟨a, ha_⟩ : ∃ a, nameS blob0 = a := ⟨_, rfl⟩
  rw [ha_] at hnm hI hN
  have hz := nm_size hnm
  have HI := As.mk hI
  have HN := As.mk hN
  have P1 := As.mk (hd1 hnm)
  obtain ⟨o2, h2⟩ := hd2 hnm
  obtain ⟨o3, h3, hs3⟩ := hd3 hnm
  obtain ⟨o4, h4, hs4⟩ := hd4 hnm
  have P2 := As.mk h2
  have P3 := As.mk h3
  have P3w := As.mk (wants_change h3 hs3)
  have P4 := As.mk h4
  have P4r := As.mk (right_label h4 hs4)
  have S3 := As.mk hs3
  have S4 := As.mk hs4
  have HZ := As.mk hz
  have HT1 := As.mk (fun W ht => two_items ⟨3, na, a⟩ ⟨1, nac, a⟩ ⟨by show a.size ≤ _; omega, by show na.size ≤ _; decide⟩ ⟨by show a.size ≤ _; omega, by show nac.size ≤ _; decide⟩ W ht)
  have HT2 := As.mk (fun W ht => two_items ⟨1, nac, a⟩ ⟨3, na, a⟩ ⟨by show a.size ≤ _; omega, by show nac.size ≤ _; decide⟩ ⟨by show a.size ≤ _; omega, by show na.size ≤ _; decide⟩ W ht)
  clear hI hN hnm ha_ h2 h3 h4 hs3 hs4 hz ht
  go_enter Tryz.func10, Tryz.ntmps10
  go_wp2_with (fail)
  refine HI.out.mono ?_
  rintro e w1 ⟨rfl, hb⟩
  have HB1 := As.mk hb
  clear hb
  go_wp2_with (fail)
  refine (HT1.out w1 (HTB.out _ HB1.out)).mono ?_
  rintro e w2 ⟨rfl, hb⟩
  rw [P1.out]
  have HB2 := As.mk (HB1.out.trans (hb.mono HB1.out.size))
  clear hb
  go_wp2_with (fail)
  refine (HT2.out w2 (HTB.out _ HB2.out)).mono ?_
  rintro e w3 ⟨rfl, hb⟩
  rw [P2.out]
  have HB3 := As.mk (HB2.out.trans (hb.mono HB2.out.size))
  clear hb
  go_wp2_with (fail)
  refine (putChange_walk none 0 0 ⟨a, [], nw, nt⟩ ⟨by show a.size ≤ _; have := HZ.out; omega, Nat.zero_le _, (fun p hp => nomatch hp), by show nw.size ≤ _; decide, by show nt.size ≤ _; decide⟩ w3 (Kd.C_nil _ _) rfl (Nat.le_refl _)).mono ?_
  rintro e w4 ⟨rfl, hb⟩
  rw [P3.out]
  have HB4 := As.mk (HB3.out.trans (hb.mono HB3.out.size))
  clear hb
  go_wp2_with (fail)
  refine (wants_walk 3 o3 (by have := S3.out; omega) w4 (HTB.out _ HB4.out)).mono ?_
  rintro e w5 ⟨v, rfl, hR, hb⟩
  rw [P3w.out] at hR
  obtain ⟨A5, c5, rfl, _, hC5⟩ := Kd.R_reads hR
  have HC5 := As.mk hC5
  have HB5 := As.mk (HB4.out.trans (hb.mono HB4.out.size))
  clear hb hR hC5
  go_wp2_with (fail)
  refine (putLabel_walk ⟨a, 1, nn, ⟨#[]⟩⟩ (by show a.size ≤ _; have := HZ.out; omega) (by show nn.size ≤ _; decide) (Nat.zero_le _) w5).mono ?_
  rintro e w6 ⟨rfl, hb⟩
  rw [P4.out]
  have HC6 := As.mk (Kd.C_below HC5.out hb)
  have HB6 := As.mk (HB5.out.trans (hb.mono HB5.out.size))
  clear hb
  have hcv := Lib.run_convert_bytes_const (P := Tryz.prog) w6 62 5 #[.int .u8 98, .int .u8 108, .int .u8 111, .int .u8 98, .int .u8 32, .int .u8 48, .int .u8 10] 7 7 Tryz.underlying62 Tryz.underlying5
  go_wp2_with (fail)
  refine (HN.out _).mono ?_
  rintro e w7 ⟨rfl, hb⟩
  have HC7 := As.mk (Kd.C_below HC6.out hb)
  have HB7 := As.mk (HB6.out.trans (hb.mono HB6.out.size))
  clear hb hcv
  obtain ⟨ad, had, _, hk⟩ := at_T58 HC7.out 0 (by omega) (by show (0 : Int) < 1; decide)
  subst had
  have hk1 : w7.cell? (ad.add 1) = some (.int .i64 2) := hk
  have hk2 : w7.cell? ⟨ad.block, ad.off + 1, none⟩ = some (.int .i64 2) := by rw [← hk1]; rfl
  clear hk
  have R1 := right_walk 4 o4 (by have := S4.out; omega) w7 (HTB.out _ HB7.out)
  rw [P4r.out] at R1
  go_wp2_with (fail)
  refine R1.mono ?_
  rintro e w8 ⟨rfl, hb⟩
  have HB8 := As.mk (HB7.out.trans (hb.mono HB7.out.size))
  clear hb R1 hk1 hk2
  have R2 := right_walk 4 ⟨#[]⟩ (by decide) w8 (HTB.out _ HB8.out)
  rw [right_4e] at R2
  go_wp2_with (fail)
  refine R2.mono ?_
  rintro e w9 ⟨rfl, hb⟩
  have HB9 := As.mk (HB8.out.trans (hb.mono HB8.out.size))
  clear hb R2
  have R3 := right_walk 2 ⟨#[]⟩ (by decide) w9 (HTB.out _ HB9.out)
  rw [right_2e] at R3
  go_wp2_with (fail)
  refine R3.mono ?_
  rintro e w10 ⟨rfl, hb⟩
  have HB10 := As.mk (HB9.out.trans (hb.mono HB9.out.size))
  clear hb R3
  go_wp2_with (fail)
  go_ret
  exact ⟨rfl, HB10.out⟩
namespace Gv
def head.f : Option Bool := some true
theorem head.calls (r : Bool) (w : World) (h : head.f = some r) (ht : Tbl w) : Calls Tryz.prog 10 #[] w fun e w' => e = .returned (.bool r) ∧ Below w.heap.size w w' := by
  obtain rfl := Option.some.inj h
  exact head_walk w ht
end Gv
end Go.Proofs.YtefefhhaopjccaaGreatDoor.Ob

namespace Go.Proofs.YtefefhhaopjccaaGreatDoor.PObjectTrees
open Go.Proofs.YtefefhhaopjccaaGreatDoor.PObBase Go.Proofs.YtefefhhaopjccaaGreatDoor.PObGet Go.Proofs.YtefefhhaopjccaaGreatDoor.PObDoc Go.Proofs.YtefefhhaopjccaaGreatDoor.PObRt
open Go.RowKit Go.Proofs.YtefefhhaopjccaaGreatDoorW.PrintWords Go.Proofs.YtefefhhaopjccaaGreatDoorW.PrintLast Go.Proofs.YtefefhhaopjccaaGreatDoorW.PrintMore
attribute [local go_sem] max2_int min2_int max_two min_two max_three min_three max_four min_four   -- for this text's walks alone
set_option linter.unusedVariables false
set_option linter.unusedSimpArgs false
def errW : Option Int → Value
 | none => .nilIface
 | some c => .iface 0 (.int .i64 c)
theorem errW_none : errW none = .nilIface := rfl
theorem errW_some (c : Int) : errW (some c) = .iface 0 (.int .i64 c) := rfl
end Go.Proofs.YtefefhhaopjccaaGreatDoor.PObjectTrees

namespace Go.Proofs.YtefefhhaopjccaaGreatDoor.PObjectTrees
open Go.Proofs.YtefefhhaopjccaaGreatDoor.PObBase Go.Proofs.YtefefhhaopjccaaGreatDoor.PObGet Go.Proofs.YtefefhhaopjccaaGreatDoor.PObDoc Go.Proofs.YtefefhhaopjccaaGreatDoor.PObRt
open Go.RowKit Go.Proofs.YtefefhhaopjccaaGreatDoorW.PrintWords Go.Proofs.YtefefhhaopjccaaGreatDoorW.PrintLast Go.Proofs.YtefefhhaopjccaaGreatDoorW.PrintMore
attribute [local go_sem] max2_int min2_int max_two min_two max_three min_three max_four min_four   -- for this text's walks alone
set_option linter.unusedVariables false
set_option linter.unusedSimpArgs false
noncomputable def w04_ObjectTrees.j0 : Nat → List (S54) → ByteArray → Bool → Bool → Option (Bool)
 | 0, _, _, _, _ => none
 | k + 1, x0, x1, x5, x21 => if x21 = true then (some x5) else ((Ob.Gv.putTree.f x0).bind fun bt103 => ((PObDoc.r04_PutTree.f k x0).bind fun bt105 => ((PObGet.object_GetTree.f k x1).bind fun bt107 => ((PObDoc.r04_GetTree.f k x1).bind fun bt111 => (if x5 = true then (if bt103.1.toList = bt105.1.toList then (if (bt103.2 == bt105.2) = true then ((PObBase.r04_SameItems.f k bt107.1 bt111.1).bind fun t115 => (if t115 = true then (some (bt107.2 == bt111.2)) else (some false))) else (some false)) else (some false)) else (some false))))))
noncomputable def w04_ObjectTrees.f (k : Nat) (l0 : List (S54)) (a1 : ByteArray) : Option (Bool) := (Ob.Gv.head.f).bind fun t101 => ((PObBase.w04_GreatItems.f k l0).bind fun t102 => (if t102 = true then (w04_ObjectTrees.j0 k l0 a1 t101 true) else (w04_ObjectTrees.j0 k l0 a1 t101 (decide ((a1.size : Int) > 9000)))))
set_option maxHeartbeats 8000000 in
set_option maxRecDepth 100000 in
theorem w04_ObjectTrees.calls (k : Nat) (A0 : Option Addr) (c0 : Nat) (l0 : List (S54)) (a1 : ByteArray) (r : Bool) (w : World) (hr0 : Kd.C k54 w A0 l0.length l0) (hc0 : l0.length ≤ c0) (h : w04_ObjectTrees.f k l0 a1 = some r) (ht_ : Lib.TabIs Tryz.prog w "internal/strconv.uint64pow10" .u64 Lib.pow10Tab) :
  Calls Tryz.prog 4 #[.slice A0 l0.length c0, .string a1] w fun e w' => e = .returned (.bool r) ∧ Below w.heap.size w w' := by
 have HTAB_ : Aside0 (∀ w_ : World, Below w.heap.size w w_ → Lib.TabIs Tryz.prog w_ "internal/strconv.uint64pow10" .u64 Lib.pow10Tab) := Aside0.mk (fun w_ hb_ => Lib.tabBelow_of_tabIs ht_ w_ hb_)
 clear ht_
 have HR0 := Aside0.mk hr0
 have HC0 := Aside0.mk hc0
 clear hr0 hc0
 have HB := Aside0.mk (Below.refl w.heap.size w)
 have H : ((Ob.Gv.head.f).bind fun t101 => ((PObBase.w04_GreatItems.f k l0).bind fun t102 => (if t102 = true then (w04_ObjectTrees.j0 k l0 a1 t101 true) else (w04_ObjectTrees.j0 k l0 a1 t101 (decide ((a1.size : Int) > 9000)))))) = some r := h
 clear h
 replace H := Option.bind_eq_some_iff.mp H
 obtain ⟨t101, A30, H⟩ := H
 replace H : ((PObBase.w04_GreatItems.f k l0).bind fun t102 => (if t102 = true then (w04_ObjectTrees.j0 k l0 a1 t101 true) else (w04_ObjectTrees.j0 k l0 a1 t101 (decide ((a1.size : Int) > 9000))))) = some r := H
 have A3 := Aside0.mk A30
 clear A30
 have HC4 := Aside0.mk H
 clear H
 go_enter Tryz.func4, Tryz.ntmps4
 go_upto_region 2 with (first | ((with_reducible refine gate_callee (f := 10) rfl ?_); refine goesL_ (some 14) rfl rfl Tryz.func10 (by kernel_rfl) rfl #[] rfl (by (try simp only [List.map_toArray, List.map_cons, List.map_nil]); first | done | rfl | (simp only [List.length_drop, List.length_take]; rfl)) ?_; (with_reducible refine (Ob.Gv.head.calls  t101 _ A3.out (HTAB_.out _ (by first | exact Below.refl _ _ | (with_reducible exact Aside0.out (by assumption)) | repeat (first | (with_reducible exact Aside0.out (by assumption)) | apply below_alloc | apply pw_below_drewN | apply below_drew1)))).mono ?_); rintro e w5 ⟨rfl, hb⟩; refine ⟨_, rfl, ?_⟩; have n0_ := Aside0.mk (below_step (by repeat (first | (with_reducible first | exact HB.out | apply below_alloc | apply pw_below_drewN | apply below_drew1) | exact HB.out)) hb); clear HB; have HB := n0_; clear n0_; (try clear hb); (try clear hb2); (try clear hk); (try clear hi)))
 (try simp only [Act.put, List.setIfInBounds_toArray, List.set_cons_zero, List.set_cons_succ])
 go_cut [21] (fun v21 wc => ∃ (kq : Nat) (x21_3 : Bool), v21 = .bool x21_3 ∧ Aside0 (w04_ObjectTrees.j0 kq l0 a1 t101 x21_3 = some r) ∧ Aside0 (kq ≤ k) ∧ Aside0 (Below w.heap.size w wc))
 case first =>
  have H := HC4.out
  clear HC4
  replace H := Option.bind_eq_some_iff.mp H
  obtain ⟨t102, A60, H⟩ := H
  replace H : (if t102 = true then (w04_ObjectTrees.j0 k l0 a1 t101 true) else (w04_ObjectTrees.j0 k l0 a1 t101 (decide ((a1.size : Int) > 9000)))) = some r := H
  have A6 := Aside0.mk A60
  clear A60
  by_cases c7 : t102 = true
  ·
   subst c7
   have H1 : (w04_ObjectTrees.j0 k l0 a1 t101 true) = some r := by rw [if_pos rfl] at H; exact H
   clear H
   have H := H1
   clear H1
   have H' := Aside0.mk H
   clear H
   go_wp2_with (first | ((with_reducible refine gate_callee (f := 18) rfl ?_); refine goesL_ (some 16) rfl rfl Tryz.func18 (by kernel_rfl) rfl #[.slice A0 l0.length c0] rfl (by (try simp only [List.map_toArray, List.map_cons, List.map_nil]); first | done | rfl | (simp only [List.length_drop, List.length_take]; rfl)) ?_; (with_reducible refine (PObBase.w04_GreatItems.calls k _ _ l0 true _ ?side1 ?side2 A6.out).mono ?_); (case side1 => repeat (first | exact (Kd.C_below HR0.out HB.out) | (with_reducible refine Kd.C_alloc ?_ _) | (with_reducible refine Kd.C_drewN ?_ _) | (with_reducible refine Kd.C_drew ?_))); (case side2 => exact HC0.out); rintro e w8 ⟨rfl, hb⟩; refine ⟨_, rfl, ?_⟩; have n0_ := Aside0.mk (below_step (by repeat (first | (with_reducible first | exact HB.out | apply below_alloc | apply pw_below_drewN | apply below_drew1) | exact HB.out)) hb); clear HB; have HB := n0_; clear n0_; (try clear hb); (try clear hb2); (try clear hk); (try clear hi)))
   go_meet
   case rel => exact ⟨_, (true), (by first | rfl | (simp; done) | (simp [*]; done)), H', ⟨by first | omega | exact Nat.le_refl _⟩, ⟨by repeat (first | (with_reducible first | exact HB.out | apply below_alloc | apply pw_below_drewN | apply below_drew1) | exact HB.out)⟩⟩
  ·
   replace c7 := Bool.eq_false_iff.mpr c7
   subst c7
   have H1 : (w04_ObjectTrees.j0 k l0 a1 t101 (decide ((a1.size : Int) > 9000))) = some r := by rw [if_neg (show ¬ (false = true) by decide)] at H; exact H
   clear H
   have H := H1
   clear H1
   have H' := Aside0.mk H
   clear H
   go_wp2_with (first | ((with_reducible refine gate_callee (f := 18) rfl ?_); refine goesL_ (some 16) rfl rfl Tryz.func18 (by kernel_rfl) rfl #[.slice A0 l0.length c0] rfl (by (try simp only [List.map_toArray, List.map_cons, List.map_nil]); first | done | rfl | (simp only [List.length_drop, List.length_take]; rfl)) ?_; (with_reducible refine (PObBase.w04_GreatItems.calls k _ _ l0 false _ ?side1 ?side2 A6.out).mono ?_); (case side1 => repeat (first | exact (Kd.C_below HR0.out HB.out) | (with_reducible refine Kd.C_alloc ?_ _) | (with_reducible refine Kd.C_drewN ?_ _) | (with_reducible refine Kd.C_drew ?_))); (case side2 => exact HC0.out); rintro e w9 ⟨rfl, hb⟩; refine ⟨_, rfl, ?_⟩; have n0_ := Aside0.mk (below_step (by repeat (first | (with_reducible first | exact HB.out | apply below_alloc | apply pw_below_drewN | apply below_drew1) | exact HB.out)) hb); clear HB; have HB := n0_; clear n0_; (try clear hb); (try clear hb2); (try clear hk); (try clear hi)))
   go_meet
   case rel => exact ⟨_, (decide ((a1.size : Int) > 9000)), (by first | rfl | (simp; done) | (simp [*]; done)), H', ⟨by first | omega | exact Nat.le_refl _⟩, ⟨by repeat (first | (with_reducible first | exact HB.out | apply below_alloc | apply pw_below_drewN | apply below_drew1) | exact HB.out)⟩⟩
 case rest =>
  clear HC4
  try clear c1
  try clear p2
  try clear c4
  try clear c7
  obtain ⟨kq, x21_3, rfl, HA, HJ3, HB⟩ := hcut
  cases kq with
  | zero => exact absurd HA.out (by simp [w04_ObjectTrees.j0])
  | succ kj3 =>
   have H := HA.out
   clear HA
   simp only [w04_ObjectTrees.j0] at H
   by_cases c10 : x21_3 = true
   ·
    subst c10
    have H1 : (some t101) = some r := by rw [if_pos rfl] at H; exact H
    clear H
    have H := H1
    clear H1
    obtain rfl := Option.some.inj H
    go_wp2
    go_ret
    exact ⟨by first | rfl | (simp [errW_none, errW_some] <;> rfl) | (simp [*, errW_none, errW_some] <;> rfl), by repeat (first | (with_reducible first | exact HB.out | apply below_alloc | apply pw_below_drewN | apply below_drew1) | exact HB.out)⟩
   ·
    replace c10 := Bool.eq_false_iff.mpr c10
    subst c10
    have H1 : ((Ob.Gv.putTree.f l0).bind fun bt103 => ((PObDoc.r04_PutTree.f kj3 l0).bind fun bt105 => ((PObGet.object_GetTree.f kj3 a1).bind fun bt107 => ((PObDoc.r04_GetTree.f kj3 a1).bind fun bt111 => (if t101 = true then (if bt103.1.toList = bt105.1.toList then (if (bt103.2 == bt105.2) = true then ((PObBase.r04_SameItems.f kj3 bt107.1 bt111.1).bind fun t115 => (if t115 = true then (some (bt107.2 == bt111.2)) else (some false))) else (some false)) else (some false)) else (some false)))))) = some r := by rw [if_neg (show ¬ (false = true) by decide)] at H; exact H
    clear H
    have H := H1
    clear H1
    replace H := Option.bind_eq_some_iff.mp H
    obtain ⟨⟨t103, t104⟩, A110, H⟩ := H
    replace H : ((PObDoc.r04_PutTree.f kj3 l0).bind fun bt105 => ((PObGet.object_GetTree.f kj3 a1).bind fun bt107 => ((PObDoc.r04_GetTree.f kj3 a1).bind fun bt111 => (if t101 = true then (if t103.toList = bt105.1.toList then (if (t104 == bt105.2) = true then ((PObBase.r04_SameItems.f kj3 bt107.1 bt111.1).bind fun t115 => (if t115 = true then (some (bt107.2 == bt111.2)) else (some false))) else (some false)) else (some false)) else (some false))))) = some r := H
    have A11 := Aside0.mk A110
    clear A110
    replace H := Option.bind_eq_some_iff.mp H
    obtain ⟨⟨t105, t106⟩, A120, H⟩ := H
    replace H : ((PObGet.object_GetTree.f kj3 a1).bind fun bt107 => ((PObDoc.r04_GetTree.f kj3 a1).bind fun bt111 => (if t101 = true then (if t103.toList = t105.toList then (if (t104 == t106) = true then ((PObBase.r04_SameItems.f kj3 bt107.1 bt111.1).bind fun t115 => (if t115 = true then (some (bt107.2 == bt111.2)) else (some false))) else (some false)) else (some false)) else (some false)))) = some r := H
    have A12 := Aside0.mk A120
    clear A120
    replace H := Option.bind_eq_some_iff.mp H
    obtain ⟨⟨t107, t108⟩, A130, H⟩ := H
    replace H : ((PObDoc.r04_GetTree.f kj3 a1).bind fun bt111 => (if t101 = true then (if t103.toList = t105.toList then (if (t104 == t106) = true then ((PObBase.r04_SameItems.f kj3 t107 bt111.1).bind fun t115 => (if t115 = true then (some (t108 == bt111.2)) else (some false))) else (some false)) else (some false)) else (some false))) = some r := H
    have A13 := Aside0.mk A130
    clear A130
    replace H := Option.bind_eq_some_iff.mp H
    obtain ⟨⟨t111, t112⟩, A140, H⟩ := H
    replace H : (if t101 = true then (if t103.toList = t105.toList then (if (t104 == t106) = true then ((PObBase.r04_SameItems.f kj3 t107 t111).bind fun t115 => (if t115 = true then (some (t108 == t112)) else (some false))) else (some false)) else (some false)) else (some false)) = some r := H
    have A14 := Aside0.mk A140
    clear A140
    by_cases c15 : t101 = true
    ·
     subst c15
     have H1 : (if t103.toList = t105.toList then (if (t104 == t106) = true then ((PObBase.r04_SameItems.f kj3 t107 t111).bind fun t115 => (if t115 = true then (some (t108 == t112)) else (some false))) else (some false)) else (some false)) = some r := by rw [if_pos rfl] at H; exact H
     clear H
     have H := H1
     clear H1
     by_cases c16 : t103.toList = t105.toList
     ·
      rw [if_pos c16] at H
      have c16b0 : (t103.toList == t105.toList) = true := beq_iff_eq.mpr c16
      have c16b1 : (t103.toList != t105.toList) = false := bne_eq_false_iff_eq.mpr c16
      clear c16
      by_cases c17 : (t104 == t106) = true
      ·
       rw [if_pos c17] at H
       have c17b0 : (t104 == t106) = true := c17
       (try (have c17b1 : decide (t104 = t106) = true := by simpa using c17))
       (try (have c17b2 : (t104 == t106) = true := by simpa using c17))
       clear c17
       replace H := Option.bind_eq_some_iff.mp H
       obtain ⟨t115, A180, H⟩ := H
       replace H : (if t115 = true then (some (t108 == t112)) else (some false)) = some r := H
       have A18 := Aside0.mk A180
       clear A180
       by_cases c19 : t115 = true
       ·
        subst c19
        have H1 : (some (t108 == t112)) = some r := by rw [if_pos rfl] at H; exact H
        clear H
        have H := H1
        clear H1
        obtain rfl := Option.some.inj H
        go_wp2_with (first | ((with_reducible refine gate_callee (f := 19) rfl ?_); refine goesL_ (some 25) rfl rfl Tryz.func19 (by kernel_rfl) rfl #[.slice A0 l0.length c0] rfl (by (try simp only [List.map_toArray, List.map_cons, List.map_nil]); first | done | rfl | (simp only [List.length_drop, List.length_take]; rfl)) ?_; (with_reducible refine (Ob.Gv.putTree.calls _ _ l0 t103 t104 _ ?side1 ?side2 A11.out (HTAB_.out _ (by first | exact Below.refl _ _ | (with_reducible exact Aside0.out (by assumption)) | repeat (first | (with_reducible exact Aside0.out (by assumption)) | apply below_alloc | apply pw_below_drewN | apply below_drew1)))).mono ?_); (case side1 => repeat (first | exact (Kd.C_below HR0.out HB.out) | (with_reducible refine Kd.C_alloc ?_ _) | (with_reducible refine Kd.C_drewN ?_ _) | (with_reducible refine Kd.C_drew ?_))); (case side2 => exact HC0.out); rintro e w20 ⟨rfl, hb⟩; refine ⟨_, rfl, ?_⟩; have n0_ := Aside0.mk (below_step (by repeat (first | (with_reducible first | exact HB.out | apply below_alloc | apply pw_below_drewN | apply below_drew1) | exact HB.out)) hb); clear HB; have HB := n0_; clear n0_; (try clear hb); (try clear hb2); (try clear hk); (try clear hi)) | ((with_reducible refine gate_callee (f := 20) rfl ?_); refine goesL_ (some 30) rfl rfl Tryz.func20 (by kernel_rfl) rfl #[.slice A0 l0.length c0] rfl (by (try simp only [List.map_toArray, List.map_cons, List.map_nil]); first | done | rfl | (simp only [List.length_drop, List.length_take]; rfl)) ?_; (with_reducible refine (PObDoc.r04_PutTree.calls kj3 _ _ l0 t105 t106 _ ?side1 ?side2 A12.out).mono ?_); (case side1 => repeat (first | exact (Kd.C_below HR0.out HB.out) | (with_reducible refine Kd.C_alloc ?_ _) | (with_reducible refine Kd.C_drewN ?_ _) | (with_reducible refine Kd.C_drew ?_))); (case side2 => exact HC0.out); rintro e w21 ⟨rfl, hb⟩; refine ⟨_, rfl, ?_⟩; have n0_ := Aside0.mk (below_step (by repeat (first | (with_reducible first | exact HB.out | apply below_alloc | apply pw_below_drewN | apply below_drew1) | exact HB.out)) hb); clear HB; have HB := n0_; clear n0_; (try clear hb); (try clear hb2); (try clear hk); (try clear hi)) | ((with_reducible refine gate_callee (f := 21) rfl ?_); refine goesL_ (some 35) rfl rfl Tryz.func21 (by kernel_rfl) rfl #[.string a1] rfl (by (try simp only [List.map_toArray, List.map_cons, List.map_nil]); first | done | rfl | (simp only [List.length_drop, List.length_take]; rfl)) ?_; (with_reducible refine (PObGet.object_GetTree.calls kj3 a1 t107 t108 _ A13.out (HTAB_.out _ (by first | exact Below.refl _ _ | (with_reducible exact Aside0.out (by assumption)) | repeat (first | (with_reducible exact Aside0.out (by assumption)) | apply below_alloc | apply pw_below_drewN | apply below_drew1)))).mono ?_); rintro e w22 ⟨v109, rfl, ho0, hb⟩; refine ⟨_, rfl, ?_⟩; have n0_ := Aside0.mk (Kd.R_lower ho0 (below_size (by repeat (first | (with_reducible first | exact HB.out | apply below_alloc | apply pw_below_drewN | apply below_drew1) | exact HB.out)))); have n1_ := Aside0.mk (below_step (by repeat (first | (with_reducible first | exact HB.out | apply below_alloc | apply pw_below_drewN | apply below_drew1) | exact HB.out)) hb); clear HB; have HO110 := n0_; have HB := n1_; clear n0_ n1_; (try clear hb); (try clear hb2); (try clear hk); (try clear hi); (try clear ho0)) | ((with_reducible refine gate_callee (f := 22) rfl ?_); refine goesL_ (some 40) rfl rfl Tryz.func22 (by kernel_rfl) rfl #[.string a1] rfl (by (try simp only [List.map_toArray, List.map_cons, List.map_nil]); first | done | rfl | (simp only [List.length_drop, List.length_take]; rfl)) ?_; (with_reducible refine (PObDoc.r04_GetTree.calls kj3 a1 t111 t112 _ A14.out).mono ?_); rintro e w23 ⟨v113, rfl, ho0, hb⟩; refine ⟨_, rfl, ?_⟩; have n0_ := Aside0.mk (Kd.R_elder' (by (with_reducible repeat (first | apply Kd.R_alloc | apply Kd.R_drewN | apply Kd.R_drew)); exact HO110.out) (Kd.R_base ho0) hb); have n1_ := Aside0.mk (Kd.R_lower (Kd.R_new' ho0 (Kd.R_lt (by (with_reducible repeat (first | apply Kd.R_alloc | apply Kd.R_drewN | apply Kd.R_drew)); exact HO110.out))) (below_size (by repeat (first | (with_reducible first | exact HB.out | apply below_alloc | apply pw_below_drewN | apply below_drew1) | exact HB.out)))); have n2_ := Aside0.mk (below_step (by repeat (first | (with_reducible first | exact HB.out | apply below_alloc | apply pw_below_drewN | apply below_drew1) | exact HB.out)) hb); clear HO110; clear HB; have HO110 := n0_; have HO114 := n1_; have HB := n2_; clear n0_ n1_ n2_; (try clear hb); (try clear hb2); (try clear hk); (try clear hi); (try clear ho0); obtain ⟨Ao24, co24, eo24⟩ := Kd.R_slice HO110.out; subst eo24; obtain ⟨Ao25, co25, eo25⟩ := Kd.R_slice HO114.out; subst eo25) | (go_at_call 23; (with_reducible refine (PObBase.r04_SameItems.calls kj3 _ _ t107 _ _ t111 true _ ?side1 ?side2 ?side3 ?side4 A18.out).mono ?_); (case side1 => repeat (first | exact (Kd.R_reads' HO110.out).2.2 | (with_reducible refine Kd.C_alloc ?_ _) | (with_reducible refine Kd.C_drewN ?_ _) | (with_reducible refine Kd.C_drew ?_))); (case side2 => exact (Kd.R_reads' HO110.out).2.1); (case side3 => repeat (first | exact (Kd.R_reads' HO114.out).2.2 | (with_reducible refine Kd.C_alloc ?_ _) | (with_reducible refine Kd.C_drewN ?_ _) | (with_reducible refine Kd.C_drew ?_))); (case side4 => exact (Kd.R_reads' HO114.out).2.1); rintro e w' ⟨rfl, ⟨nd, rfl⟩⟩))
        go_ret
        exact ⟨by first | rfl | (simp [errW_none, errW_some] <;> rfl) | (simp [*, errW_none, errW_some] <;> rfl), by repeat (first | (with_reducible first | exact HB.out | apply below_alloc | apply pw_below_drewN | apply below_drew1) | exact HB.out)⟩
       ·
        replace c19 := Bool.eq_false_iff.mpr c19
        subst c19
        have H1 : (some false) = some r := by rw [if_neg (show ¬ (false = true) by decide)] at H; exact H
        clear H
        have H := H1
        clear H1
        obtain rfl := Option.some.inj H
        go_wp2_with (first | ((with_reducible refine gate_callee (f := 19) rfl ?_); refine goesL_ (some 25) rfl rfl Tryz.func19 (by kernel_rfl) rfl #[.slice A0 l0.length c0] rfl (by (try simp only [List.map_toArray, List.map_cons, List.map_nil]); first | done | rfl | (simp only [List.length_drop, List.length_take]; rfl)) ?_; (with_reducible refine (Ob.Gv.putTree.calls _ _ l0 t103 t104 _ ?side1 ?side2 A11.out (HTAB_.out _ (by first | exact Below.refl _ _ | (with_reducible exact Aside0.out (by assumption)) | repeat (first | (with_reducible exact Aside0.out (by assumption)) | apply below_alloc | apply pw_below_drewN | apply below_drew1)))).mono ?_); (case side1 => repeat (first | exact (Kd.C_below HR0.out HB.out) | (with_reducible refine Kd.C_alloc ?_ _) | (with_reducible refine Kd.C_drewN ?_ _) | (with_reducible refine Kd.C_drew ?_))); (case side2 => exact HC0.out); rintro e w26 ⟨rfl, hb⟩; refine ⟨_, rfl, ?_⟩; have n0_ := Aside0.mk (below_step (by repeat (first | (with_reducible first | exact HB.out | apply below_alloc | apply pw_below_drewN | apply below_drew1) | exact HB.out)) hb); clear HB; have HB := n0_; clear n0_; (try clear hb); (try clear hb2); (try clear hk); (try clear hi)) | ((with_reducible refine gate_callee (f := 20) rfl ?_); refine goesL_ (some 30) rfl rfl Tryz.func20 (by kernel_rfl) rfl #[.slice A0 l0.length c0] rfl (by (try simp only [List.map_toArray, List.map_cons, List.map_nil]); first | done | rfl | (simp only [List.length_drop, List.length_take]; rfl)) ?_; (with_reducible refine (PObDoc.r04_PutTree.calls kj3 _ _ l0 t105 t106 _ ?side1 ?side2 A12.out).mono ?_); (case side1 => repeat (first | exact (Kd.C_below HR0.out HB.out) | (with_reducible refine Kd.C_alloc ?_ _) | (with_reducible refine Kd.C_drewN ?_ _) | (with_reducible refine Kd.C_drew ?_))); (case side2 => exact HC0.out); rintro e w27 ⟨rfl, hb⟩; refine ⟨_, rfl, ?_⟩; have n0_ := Aside0.mk (below_step (by repeat (first | (with_reducible first | exact HB.out | apply below_alloc | apply pw_below_drewN | apply below_drew1) | exact HB.out)) hb); clear HB; have HB := n0_; clear n0_; (try clear hb); (try clear hb2); (try clear hk); (try clear hi)) | ((with_reducible refine gate_callee (f := 21) rfl ?_); refine goesL_ (some 35) rfl rfl Tryz.func21 (by kernel_rfl) rfl #[.string a1] rfl (by (try simp only [List.map_toArray, List.map_cons, List.map_nil]); first | done | rfl | (simp only [List.length_drop, List.length_take]; rfl)) ?_; (with_reducible refine (PObGet.object_GetTree.calls kj3 a1 t107 t108 _ A13.out (HTAB_.out _ (by first | exact Below.refl _ _ | (with_reducible exact Aside0.out (by assumption)) | repeat (first | (with_reducible exact Aside0.out (by assumption)) | apply below_alloc | apply pw_below_drewN | apply below_drew1)))).mono ?_); rintro e w28 ⟨v109, rfl, ho0, hb⟩; refine ⟨_, rfl, ?_⟩; have n0_ := Aside0.mk (Kd.R_lower ho0 (below_size (by repeat (first | (with_reducible first | exact HB.out | apply below_alloc | apply pw_below_drewN | apply below_drew1) | exact HB.out)))); have n1_ := Aside0.mk (below_step (by repeat (first | (with_reducible first | exact HB.out | apply below_alloc | apply pw_below_drewN | apply below_drew1) | exact HB.out)) hb); clear HB; have HO110 := n0_; have HB := n1_; clear n0_ n1_; (try clear hb); (try clear hb2); (try clear hk); (try clear hi); (try clear ho0)) | ((with_reducible refine gate_callee (f := 22) rfl ?_); refine goesL_ (some 40) rfl rfl Tryz.func22 (by kernel_rfl) rfl #[.string a1] rfl (by (try simp only [List.map_toArray, List.map_cons, List.map_nil]); first | done | rfl | (simp only [List.length_drop, List.length_take]; rfl)) ?_; (with_reducible refine (PObDoc.r04_GetTree.calls kj3 a1 t111 t112 _ A14.out).mono ?_); rintro e w29 ⟨v113, rfl, ho0, hb⟩; refine ⟨_, rfl, ?_⟩; have n0_ := Aside0.mk (Kd.R_elder' (by (with_reducible repeat (first | apply Kd.R_alloc | apply Kd.R_drewN | apply Kd.R_drew)); exact HO110.out) (Kd.R_base ho0) hb); have n1_ := Aside0.mk (Kd.R_lower (Kd.R_new' ho0 (Kd.R_lt (by (with_reducible repeat (first | apply Kd.R_alloc | apply Kd.R_drewN | apply Kd.R_drew)); exact HO110.out))) (below_size (by repeat (first | (with_reducible first | exact HB.out | apply below_alloc | apply pw_below_drewN | apply below_drew1) | exact HB.out)))); have n2_ := Aside0.mk (below_step (by repeat (first | (with_reducible first | exact HB.out | apply below_alloc | apply pw_below_drewN | apply below_drew1) | exact HB.out)) hb); clear HO110; clear HB; have HO110 := n0_; have HO114 := n1_; have HB := n2_; clear n0_ n1_ n2_; (try clear hb); (try clear hb2); (try clear hk); (try clear hi); (try clear ho0); obtain ⟨Ao30, co30, eo30⟩ := Kd.R_slice HO110.out; subst eo30; obtain ⟨Ao31, co31, eo31⟩ := Kd.R_slice HO114.out; subst eo31) | (go_at_call 23; (with_reducible refine (PObBase.r04_SameItems.calls kj3 _ _ t107 _ _ t111 false _ ?side1 ?side2 ?side3 ?side4 A18.out).mono ?_); (case side1 => repeat (first | exact (Kd.R_reads' HO110.out).2.2 | (with_reducible refine Kd.C_alloc ?_ _) | (with_reducible refine Kd.C_drewN ?_ _) | (with_reducible refine Kd.C_drew ?_))); (case side2 => exact (Kd.R_reads' HO110.out).2.1); (case side3 => repeat (first | exact (Kd.R_reads' HO114.out).2.2 | (with_reducible refine Kd.C_alloc ?_ _) | (with_reducible refine Kd.C_drewN ?_ _) | (with_reducible refine Kd.C_drew ?_))); (case side4 => exact (Kd.R_reads' HO114.out).2.1); rintro e w' ⟨rfl, ⟨nd, rfl⟩⟩))
        go_ret
        exact ⟨by first | rfl | (simp [errW_none, errW_some] <;> rfl) | (simp [*, errW_none, errW_some] <;> rfl), by repeat (first | (with_reducible first | exact HB.out | apply below_alloc | apply pw_below_drewN | apply below_drew1) | exact HB.out)⟩
      ·
       rw [if_neg c17] at H
       have c17b0 : (t104 == t106) = false := by simpa using c17
       (try (have c17b1 : decide (t104 = t106) = false := by simpa using c17))
       (try (have c17b2 : (t104 == t106) = false := by simpa using c17))
       (try (have c17b3 : ¬ (t104 = t106) := by simpa using c17))
       clear c17
       obtain rfl := Option.some.inj H
       go_wp2_with (first | ((with_reducible refine gate_callee (f := 19) rfl ?_); refine goesL_ (some 25) rfl rfl Tryz.func19 (by kernel_rfl) rfl #[.slice A0 l0.length c0] rfl (by (try simp only [List.map_toArray, List.map_cons, List.map_nil]); first | done | rfl | (simp only [List.length_drop, List.length_take]; rfl)) ?_; (with_reducible refine (Ob.Gv.putTree.calls _ _ l0 t103 t104 _ ?side1 ?side2 A11.out (HTAB_.out _ (by first | exact Below.refl _ _ | (with_reducible exact Aside0.out (by assumption)) | repeat (first | (with_reducible exact Aside0.out (by assumption)) | apply below_alloc | apply pw_below_drewN | apply below_drew1)))).mono ?_); (case side1 => repeat (first | exact (Kd.C_below HR0.out HB.out) | (with_reducible refine Kd.C_alloc ?_ _) | (with_reducible refine Kd.C_drewN ?_ _) | (with_reducible refine Kd.C_drew ?_))); (case side2 => exact HC0.out); rintro e w32 ⟨rfl, hb⟩; refine ⟨_, rfl, ?_⟩; have n0_ := Aside0.mk (below_step (by repeat (first | (with_reducible first | exact HB.out | apply below_alloc | apply pw_below_drewN | apply below_drew1) | exact HB.out)) hb); clear HB; have HB := n0_; clear n0_; (try clear hb); (try clear hb2); (try clear hk); (try clear hi)) | ((with_reducible refine gate_callee (f := 20) rfl ?_); refine goesL_ (some 30) rfl rfl Tryz.func20 (by kernel_rfl) rfl #[.slice A0 l0.length c0] rfl (by (try simp only [List.map_toArray, List.map_cons, List.map_nil]); first | done | rfl | (simp only [List.length_drop, List.length_take]; rfl)) ?_; (with_reducible refine (PObDoc.r04_PutTree.calls kj3 _ _ l0 t105 t106 _ ?side1 ?side2 A12.out).mono ?_); (case side1 => repeat (first | exact (Kd.C_below HR0.out HB.out) | (with_reducible refine Kd.C_alloc ?_ _) | (with_reducible refine Kd.C_drewN ?_ _) | (with_reducible refine Kd.C_drew ?_))); (case side2 => exact HC0.out); rintro e w33 ⟨rfl, hb⟩; refine ⟨_, rfl, ?_⟩; have n0_ := Aside0.mk (below_step (by repeat (first | (with_reducible first | exact HB.out | apply below_alloc | apply pw_below_drewN | apply below_drew1) | exact HB.out)) hb); clear HB; have HB := n0_; clear n0_; (try clear hb); (try clear hb2); (try clear hk); (try clear hi)) | ((with_reducible refine gate_callee (f := 21) rfl ?_); refine goesL_ (some 35) rfl rfl Tryz.func21 (by kernel_rfl) rfl #[.string a1] rfl (by (try simp only [List.map_toArray, List.map_cons, List.map_nil]); first | done | rfl | (simp only [List.length_drop, List.length_take]; rfl)) ?_; (with_reducible refine (PObGet.object_GetTree.calls kj3 a1 t107 t108 _ A13.out (HTAB_.out _ (by first | exact Below.refl _ _ | (with_reducible exact Aside0.out (by assumption)) | repeat (first | (with_reducible exact Aside0.out (by assumption)) | apply below_alloc | apply pw_below_drewN | apply below_drew1)))).mono ?_); rintro e w34 ⟨v109, rfl, ho0, hb⟩; refine ⟨_, rfl, ?_⟩; have n0_ := Aside0.mk (Kd.R_lower ho0 (below_size (by repeat (first | (with_reducible first | exact HB.out | apply below_alloc | apply pw_below_drewN | apply below_drew1) | exact HB.out)))); have n1_ := Aside0.mk (below_step (by repeat (first | (with_reducible first | exact HB.out | apply below_alloc | apply pw_below_drewN | apply below_drew1) | exact HB.out)) hb); clear HB; have HO110 := n0_; have HB := n1_; clear n0_ n1_; (try clear hb); (try clear hb2); (try clear hk); (try clear hi); (try clear ho0)) | ((with_reducible refine gate_callee (f := 22) rfl ?_); refine goesL_ (some 40) rfl rfl Tryz.func22 (by kernel_rfl) rfl #[.string a1] rfl (by (try simp only [List.map_toArray, List.map_cons, List.map_nil]); first | done | rfl | (simp only [List.length_drop, List.length_take]; rfl)) ?_; (with_reducible refine (PObDoc.r04_GetTree.calls kj3 a1 t111 t112 _ A14.out).mono ?_); rintro e w35 ⟨v113, rfl, ho0, hb⟩; refine ⟨_, rfl, ?_⟩; have n0_ := Aside0.mk (Kd.R_elder' (by (with_reducible repeat (first | apply Kd.R_alloc | apply Kd.R_drewN | apply Kd.R_drew)); exact HO110.out) (Kd.R_base ho0) hb); have n1_ := Aside0.mk (Kd.R_lower (Kd.R_new' ho0 (Kd.R_lt (by (with_reducible repeat (first | apply Kd.R_alloc | apply Kd.R_drewN | apply Kd.R_drew)); exact HO110.out))) (below_size (by repeat (first | (with_reducible first | exact HB.out | apply below_alloc | apply pw_below_drewN | apply below_drew1) | exact HB.out)))); have n2_ := Aside0.mk (below_step (by repeat (first | (with_reducible first | exact HB.out | apply below_alloc | apply pw_below_drewN | apply below_drew1) | exact HB.out)) hb); clear HO110; clear HB; have HO110 := n0_; have HO114 := n1_; have HB := n2_; clear n0_ n1_ n2_; (try clear hb); (try clear hb2); (try clear hk); (try clear hi); (try clear ho0)))
       go_ret
       exact ⟨by first | rfl | (simp [errW_none, errW_some] <;> rfl) | (simp [*, errW_none, errW_some] <;> rfl), by repeat (first | (with_reducible first | exact HB.out | apply below_alloc | apply pw_below_drewN | apply below_drew1) | exact HB.out)⟩
     ·
      rw [if_neg c16] at H
      have c16b0 : (t103.toList == t105.toList) = false := beq_eq_false_iff_ne.mpr c16
      have c16b1 : (t103.toList != t105.toList) = true := bne_iff_ne.mpr c16
      obtain rfl := Option.some.inj H
      go_wp2_with (first | ((with_reducible refine gate_callee (f := 19) rfl ?_); refine goesL_ (some 25) rfl rfl Tryz.func19 (by kernel_rfl) rfl #[.slice A0 l0.length c0] rfl (by (try simp only [List.map_toArray, List.map_cons, List.map_nil]); first | done | rfl | (simp only [List.length_drop, List.length_take]; rfl)) ?_; (with_reducible refine (Ob.Gv.putTree.calls _ _ l0 t103 t104 _ ?side1 ?side2 A11.out (HTAB_.out _ (by first | exact Below.refl _ _ | (with_reducible exact Aside0.out (by assumption)) | repeat (first | (with_reducible exact Aside0.out (by assumption)) | apply below_alloc | apply pw_below_drewN | apply below_drew1)))).mono ?_); (case side1 => repeat (first | exact (Kd.C_below HR0.out HB.out) | (with_reducible refine Kd.C_alloc ?_ _) | (with_reducible refine Kd.C_drewN ?_ _) | (with_reducible refine Kd.C_drew ?_))); (case side2 => exact HC0.out); rintro e w36 ⟨rfl, hb⟩; refine ⟨_, rfl, ?_⟩; have n0_ := Aside0.mk (below_step (by repeat (first | (with_reducible first | exact HB.out | apply below_alloc | apply pw_below_drewN | apply below_drew1) | exact HB.out)) hb); clear HB; have HB := n0_; clear n0_; (try clear hb); (try clear hb2); (try clear hk); (try clear hi)) | ((with_reducible refine gate_callee (f := 20) rfl ?_); refine goesL_ (some 30) rfl rfl Tryz.func20 (by kernel_rfl) rfl #[.slice A0 l0.length c0] rfl (by (try simp only [List.map_toArray, List.map_cons, List.map_nil]); first | done | rfl | (simp only [List.length_drop, List.length_take]; rfl)) ?_; (with_reducible refine (PObDoc.r04_PutTree.calls kj3 _ _ l0 t105 t106 _ ?side1 ?side2 A12.out).mono ?_); (case side1 => repeat (first | exact (Kd.C_below HR0.out HB.out) | (with_reducible refine Kd.C_alloc ?_ _) | (with_reducible refine Kd.C_drewN ?_ _) | (with_reducible refine Kd.C_drew ?_))); (case side2 => exact HC0.out); rintro e w37 ⟨rfl, hb⟩; refine ⟨_, rfl, ?_⟩; have n0_ := Aside0.mk (below_step (by repeat (first | (with_reducible first | exact HB.out | apply below_alloc | apply pw_below_drewN | apply below_drew1) | exact HB.out)) hb); clear HB; have HB := n0_; clear n0_; (try clear hb); (try clear hb2); (try clear hk); (try clear hi)) | ((with_reducible refine gate_callee (f := 21) rfl ?_); refine goesL_ (some 35) rfl rfl Tryz.func21 (by kernel_rfl) rfl #[.string a1] rfl (by (try simp only [List.map_toArray, List.map_cons, List.map_nil]); first | done | rfl | (simp only [List.length_drop, List.length_take]; rfl)) ?_; (with_reducible refine (PObGet.object_GetTree.calls kj3 a1 t107 t108 _ A13.out (HTAB_.out _ (by first | exact Below.refl _ _ | (with_reducible exact Aside0.out (by assumption)) | repeat (first | (with_reducible exact Aside0.out (by assumption)) | apply below_alloc | apply pw_below_drewN | apply below_drew1)))).mono ?_); rintro e w38 ⟨v109, rfl, ho0, hb⟩; refine ⟨_, rfl, ?_⟩; have n0_ := Aside0.mk (Kd.R_lower ho0 (below_size (by repeat (first | (with_reducible first | exact HB.out | apply below_alloc | apply pw_below_drewN | apply below_drew1) | exact HB.out)))); have n1_ := Aside0.mk (below_step (by repeat (first | (with_reducible first | exact HB.out | apply below_alloc | apply pw_below_drewN | apply below_drew1) | exact HB.out)) hb); clear HB; have HO110 := n0_; have HB := n1_; clear n0_ n1_; (try clear hb); (try clear hb2); (try clear hk); (try clear hi); (try clear ho0)) | ((with_reducible refine gate_callee (f := 22) rfl ?_); refine goesL_ (some 40) rfl rfl Tryz.func22 (by kernel_rfl) rfl #[.string a1] rfl (by (try simp only [List.map_toArray, List.map_cons, List.map_nil]); first | done | rfl | (simp only [List.length_drop, List.length_take]; rfl)) ?_; (with_reducible refine (PObDoc.r04_GetTree.calls kj3 a1 t111 t112 _ A14.out).mono ?_); rintro e w39 ⟨v113, rfl, ho0, hb⟩; refine ⟨_, rfl, ?_⟩; have n0_ := Aside0.mk (Kd.R_elder' (by (with_reducible repeat (first | apply Kd.R_alloc | apply Kd.R_drewN | apply Kd.R_drew)); exact HO110.out) (Kd.R_base ho0) hb); have n1_ := Aside0.mk (Kd.R_lower (Kd.R_new' ho0 (Kd.R_lt (by (with_reducible repeat (first | apply Kd.R_alloc | apply Kd.R_drewN | apply Kd.R_drew)); exact HO110.out))) (below_size (by repeat (first | (with_reducible first | exact HB.out | apply below_alloc | apply pw_below_drewN | apply below_drew1) | exact HB.out)))); have n2_ := Aside0.mk (below_step (by repeat (first | (with_reducible first | exact HB.out | apply below_alloc | apply pw_below_drewN | apply below_drew1) | exact HB.out)) hb); clear HO110; clear HB; have HO110 := n0_; have HO114 := n1_; have HB := n2_; clear n0_ n1_ n2_; (try clear hb); (try clear hb2); (try clear hk); (try clear hi); (try clear ho0)))
      go_ret
      exact ⟨by first | rfl | (simp [errW_none, errW_some] <;> rfl) | (simp [*, errW_none, errW_some] <;> rfl), by repeat (first | (with_reducible first | exact HB.out | apply below_alloc | apply pw_below_drewN | apply below_drew1) | exact HB.out)⟩
    ·
     replace c15 := Bool.eq_false_iff.mpr c15
     subst c15
     have H1 : (some false) = some r := by rw [if_neg (show ¬ (false = true) by decide)] at H; exact H
     clear H
     have H := H1
     clear H1
     obtain rfl := Option.some.inj H
     go_wp2_with (first | ((with_reducible refine gate_callee (f := 19) rfl ?_); refine goesL_ (some 25) rfl rfl Tryz.func19 (by kernel_rfl) rfl #[.slice A0 l0.length c0] rfl (by (try simp only [List.map_toArray, List.map_cons, List.map_nil]); first | done | rfl | (simp only [List.length_drop, List.length_take]; rfl)) ?_; (with_reducible refine (Ob.Gv.putTree.calls _ _ l0 t103 t104 _ ?side1 ?side2 A11.out (HTAB_.out _ (by first | exact Below.refl _ _ | (with_reducible exact Aside0.out (by assumption)) | repeat (first | (with_reducible exact Aside0.out (by assumption)) | apply below_alloc | apply pw_below_drewN | apply below_drew1)))).mono ?_); (case side1 => repeat (first | exact (Kd.C_below HR0.out HB.out) | (with_reducible refine Kd.C_alloc ?_ _) | (with_reducible refine Kd.C_drewN ?_ _) | (with_reducible refine Kd.C_drew ?_))); (case side2 => exact HC0.out); rintro e w40 ⟨rfl, hb⟩; refine ⟨_, rfl, ?_⟩; have n0_ := Aside0.mk (below_step (by repeat (first | (with_reducible first | exact HB.out | apply below_alloc | apply pw_below_drewN | apply below_drew1) | exact HB.out)) hb); clear HB; have HB := n0_; clear n0_; (try clear hb); (try clear hb2); (try clear hk); (try clear hi)) | ((with_reducible refine gate_callee (f := 20) rfl ?_); refine goesL_ (some 30) rfl rfl Tryz.func20 (by kernel_rfl) rfl #[.slice A0 l0.length c0] rfl (by (try simp only [List.map_toArray, List.map_cons, List.map_nil]); first | done | rfl | (simp only [List.length_drop, List.length_take]; rfl)) ?_; (with_reducible refine (PObDoc.r04_PutTree.calls kj3 _ _ l0 t105 t106 _ ?side1 ?side2 A12.out).mono ?_); (case side1 => repeat (first | exact (Kd.C_below HR0.out HB.out) | (with_reducible refine Kd.C_alloc ?_ _) | (with_reducible refine Kd.C_drewN ?_ _) | (with_reducible refine Kd.C_drew ?_))); (case side2 => exact HC0.out); rintro e w41 ⟨rfl, hb⟩; refine ⟨_, rfl, ?_⟩; have n0_ := Aside0.mk (below_step (by repeat (first | (with_reducible first | exact HB.out | apply below_alloc | apply pw_below_drewN | apply below_drew1) | exact HB.out)) hb); clear HB; have HB := n0_; clear n0_; (try clear hb); (try clear hb2); (try clear hk); (try clear hi)) | ((with_reducible refine gate_callee (f := 21) rfl ?_); refine goesL_ (some 35) rfl rfl Tryz.func21 (by kernel_rfl) rfl #[.string a1] rfl (by (try simp only [List.map_toArray, List.map_cons, List.map_nil]); first | done | rfl | (simp only [List.length_drop, List.length_take]; rfl)) ?_; (with_reducible refine (PObGet.object_GetTree.calls kj3 a1 t107 t108 _ A13.out (HTAB_.out _ (by first | exact Below.refl _ _ | (with_reducible exact Aside0.out (by assumption)) | repeat (first | (with_reducible exact Aside0.out (by assumption)) | apply below_alloc | apply pw_below_drewN | apply below_drew1)))).mono ?_); rintro e w42 ⟨v109, rfl, ho0, hb⟩; refine ⟨_, rfl, ?_⟩; have n0_ := Aside0.mk (Kd.R_lower ho0 (below_size (by repeat (first | (with_reducible first | exact HB.out | apply below_alloc | apply pw_below_drewN | apply below_drew1) | exact HB.out)))); have n1_ := Aside0.mk (below_step (by repeat (first | (with_reducible first | exact HB.out | apply below_alloc | apply pw_below_drewN | apply below_drew1) | exact HB.out)) hb); clear HB; have HO110 := n0_; have HB := n1_; clear n0_ n1_; (try clear hb); (try clear hb2); (try clear hk); (try clear hi); (try clear ho0)) | ((with_reducible refine gate_callee (f := 22) rfl ?_); refine goesL_ (some 40) rfl rfl Tryz.func22 (by kernel_rfl) rfl #[.string a1] rfl (by (try simp only [List.map_toArray, List.map_cons, List.map_nil]); first | done | rfl | (simp only [List.length_drop, List.length_take]; rfl)) ?_; (with_reducible refine (PObDoc.r04_GetTree.calls kj3 a1 t111 t112 _ A14.out).mono ?_); rintro e w43 ⟨v113, rfl, ho0, hb⟩; refine ⟨_, rfl, ?_⟩; have n0_ := Aside0.mk (Kd.R_elder' (by (with_reducible repeat (first | apply Kd.R_alloc | apply Kd.R_drewN | apply Kd.R_drew)); exact HO110.out) (Kd.R_base ho0) hb); have n1_ := Aside0.mk (Kd.R_lower (Kd.R_new' ho0 (Kd.R_lt (by (with_reducible repeat (first | apply Kd.R_alloc | apply Kd.R_drewN | apply Kd.R_drew)); exact HO110.out))) (below_size (by repeat (first | (with_reducible first | exact HB.out | apply below_alloc | apply pw_below_drewN | apply below_drew1) | exact HB.out)))); have n2_ := Aside0.mk (below_step (by repeat (first | (with_reducible first | exact HB.out | apply below_alloc | apply pw_below_drewN | apply below_drew1) | exact HB.out)) hb); clear HO110; clear HB; have HO110 := n0_; have HO114 := n1_; have HB := n2_; clear n0_ n1_ n2_; (try clear hb); (try clear hb2); (try clear hk); (try clear hi); (try clear ho0)))
     go_ret
     exact ⟨by first | rfl | (simp [errW_none, errW_some] <;> rfl) | (simp [*, errW_none, errW_some] <;> rfl), by repeat (first | (with_reducible first | exact HB.out | apply below_alloc | apply pw_below_drewN | apply below_drew1) | exact HB.out)⟩
end Go.Proofs.YtefefhhaopjccaaGreatDoor.PObjectTrees

namespace Go.Proofs.YtefefhhaopjccaaGreatDoor.Ob
set_option linter.unusedVariables false
set_option linter.unusedSimpArgs false
open Go Go.RowKit Go.Proofs.YtefefhhaopjccaaGreatDoorW.PrintWords Go.Proofs.YtefefhhaopjccaaGreatDoorW.PrintLast Go.Proofs.YtefefhhaopjccaaGreatDoorW.PrintMore PObBase PObDoc PObGet PObRt PObjectTrees
theorem getTree_len (s : ByteArray) : (getTree s).1.length ≤ 256 := by
  rcases getTree_else s with ⟨l, hl⟩ | h
  · rw [hl]
    exact (treeB_parts (putTree_iff.1 ((getTree_iff s l).1 hl)).1).2
  · rw [h]; exact Nat.zero_le _
theorem trees_ev (l : List It) (s : ByteArray) : Ev (fun n => w04_ObjectTrees.f n l s) true := by
  have hj : Ev (fun n => w04_ObjectTrees.j0 n l s true true) true := Ev.step (f := fun _ => some true) (fun n => by simp only [w04_ObjectTrees.j0]; exact if_pos trivial) (Ev.now _)
  obtain ⟨b, hb, hb2⟩ := greatI_ev l
  refine Ev.congr (f := fun n => (w04_GreatItems.f n l).bind fun t102 => (if t102 = true then (w04_ObjectTrees.j0 n l s true true) else (w04_ObjectTrees.j0 n l s true (decide ((s.size : Int) > 9000))))) (fun n => rfl) (Ev.bind hb ?_)
  cases b with
  | true => exact Ev.congr (fun n => if_pos rfl) hj
  | false =>
    have hz := hb2 rfl
    refine Ev.congr (fun n => if_neg (by simp)) ?_
    by_cases h : s.size ≤ 9000
    · rw [decide_eq_false (by omega)]
      have hl := hz.1
      refine Ev.step (f := fun n => (r04_PutTree.f n l).bind fun bt105 => ((object_GetTree.f n s).bind fun bt107 => ((r04_GetTree.f n s).bind fun bt111 => (if (putTree l).1.toList = bt105.1.toList then (if ((putTree l).2 == bt105.2) = true then ((r04_SameItems.f n bt107.1 bt111.1).bind fun t115 => (if t115 = true then (some (bt107.2 == bt111.2)) else (some false))) else (some false)) else (some false))))) (fun n => ?_) (Ev.bind (rputT_ev l (by omega) hz.ish) (Ev.bind (getT_ev s (by omega)) (Ev.bind (rgetT_ev s (by omega)) ?_)))
      · simp only [w04_ObjectTrees.j0]
        rw [if_neg (by simp), Gv.putTree.f_eq hz.ish (by omega)]
        simp only [Option.bind_some, if_true]
      · refine Ev.congr (fun n => (if_pos rfl).trans (if_pos (by simp))) (Ev.bind (sameI_ev _ _ (by have := getTree_len s; omega)) ?_)
        rw [(sameI_iff _ _).2 rfl]
        exact Ev.congr (f := fun _ => some true) (fun n => (if_pos rfl).trans (by simp)) (Ev.now _)
    · rw [decide_eq_true (by omega)]; exact hj
end Go.Proofs.YtefefhhaopjccaaGreatDoor.Ob
